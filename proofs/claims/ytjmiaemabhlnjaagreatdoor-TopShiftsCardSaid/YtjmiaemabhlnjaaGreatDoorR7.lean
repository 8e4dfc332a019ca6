/- A part of the proof of TopShifts. -/
import Derived.Test.YtjmiaemabhlnjaaGreatDoorR6
import Derived.Test.YtjmiaemabhlnjaaGreatDoorR5
import Derived.Deep.RegionWith
import Derived.Deep.DeepCutAuto
section
set_option linter.all false
set_option maxRecDepth 20000
namespace Go.Proofs.YtjmiaemabhlnjaaGreatDoor.Isa
open Go.RowKit Go.Proofs.YtjmiaemabhlnjaaGreatDoor.FieldM Go.Proofs.YtjmiaemabhlnjaaGreatDoor.Field
structure Ins where
 (kd op a b c im:Int)
 (u:Bool)
deriving DecidableEq
def Ins.v (i:Ins):Value:=.agg #[.int .i64 i.kd,.int .i64 i.op,.int .i64 i.a,.int .i64 i.b,.int .i64 i.c,.int .i64 i.im,.bool i.u]
def readN (w:Nat):Ins :=
 if w / 1073741824%4=0 then
  if w / 536870912%2=1∧w / 65536%16=0 then ⟨3+(w / 268435456%2:Nat),0,(w / 16777216%16:Nat),0,0,0,false⟩
  else ⟨1,(w / 65536%16:Nat),(w / 16777216%16:Nat),(w / 1048576%16:Nat),(w%16:Nat),0,decide (w / 536870912%2=1)⟩
 else if w / 1073741824%4=1 then ⟨2,(w / 65536%16:Nat),(w / 16777216%16:Nat),(w / 1048576%16:Nat),0,((w%65536:Nat):Int) - ((w / 268435456%2:Nat):Int)*65536,decide (w / 536870912%2=1)⟩
 else if w / 1073741824%4=2 then ⟨5,2*(w / 536870912%2:Nat)+(w / 268435456%2:Nat),(w / 16777216%16:Nat),(w / 1048576%16:Nat),0,signedN w 19,false⟩
 else if w / 536870912%2=1 then ⟨7,(w / 16777216%16:Nat),0,0,0,signedN w 23,decide (w / 268435456%2=1)⟩
 else ⟨6,(w / 16777216%16:Nat),0,0,(w%16:Nat),0,decide (w / 268435456%2=1)⟩
def wordN (i:Ins):Nat:=layN (wordL i.kd i.op i.a i.b i.c i.im i.u) 0
theorem wordN_lt (i:Ins):wordN i<4294967296:=layN_lt _ _ (by omega)
def mayN (i:Ins):Bool :=
 decide (1≤i.kd)&&decide (i.kd≤7)&&(decide (0≤i.op)&&decide (i.op≤15))&&decide (i=readN (wordN i)) &&
  (if i.kd=1∨i.kd=2 then
    if i.op=0 then i.b==0&&(i.kd==2 || !i.u)&&(!i.u || decide (0≤i.im))
    else if 11<i.op then false
    else !i.u || (decide (8≤i.op)&&decide (i.op≤10))
  else true)
end Go.Proofs.YtjmiaemabhlnjaaGreatDoor.Isa
end
section
set_option linter.all false
set_option maxRecDepth 20000
namespace Go.Proofs.YtjmiaemabhlnjaaGreatDoor.FieldM
open Go Go.RowKit
theorem getN_bit (w:Nat) (a n:Int) (p:Nat):(getN w a n).testBit p=(decide (p<32)&&(inF (p+a) a n&&bitZ w (p+a))):=testBit_natOf _ 32 p
theorem setN_bit (w:Nat) (a n:Int) (x p:Nat):(setN w a n x).testBit p=(decide (p<32)&&(if inF p a n then bitZ x ((p:Int) - a) else w.testBit p)):=testBit_natOf _ 32 p
theorem inF_nat (p a k:Nat):inF p a k=decide (a≤p∧p<a+k):=by
 unfold inF;apply decide_eq_decide.2;omega
theorem inF_plus (p a k:Nat):inF ((p:Int)+a) a k=decide (p<k):=by
 unfold inF;apply decide_eq_decide.2;omega
theorem bitZ_plus (w p a:Nat) (h:p+a<32):bitZ w ((p:Int)+a)=w.testBit (p+a):=by
 unfold bitZ;rw [decide_eq_true (by omega),Bool.true_and,show ((p:Int)+a).toNat=p+a by omega]
theorem bitZ_minus (w p a:Nat) (h:a≤p) (hp:p<32):bitZ w ((p:Int) - a)=w.testBit (p - a):=by
 unfold bitZ;rw [decide_eq_true (by omega),Bool.true_and,show ((p:Int) - a).toNat=p - a by omega]
theorem getN_bit' (w a k p:Nat) (h:a+k≤32):(getN w a k).testBit p=(decide (p<k)&&w.testBit (p+a)):=by
 rw [getN_bit,inF_plus]
 by_cases hp:p<k
 · rw [decide_eq_true hp,decide_eq_true (show p<32 by omega),bitZ_plus _ _ _ (by omega)];rfl
 · rw [decide_eq_false hp];simp
theorem setN_bit' (w a k x p:Nat) (h:a+k≤32) (hw:w<4294967296):(setN w a k x).testBit p=if a≤p∧p<a+k then x.testBit (p - a) else w.testBit p:=by
 rw [setN_bit,inF_nat]
 by_cases hp:p<32
 · rw [decide_eq_true hp,Bool.true_and]
   by_cases hi:a≤p∧p<a+k
   · rw [decide_eq_true hi,if_pos rfl,if_pos hi,bitZ_minus _ _ _ hi.1 hp]
   · rw [decide_eq_false hi,if_neg hi];rfl
 · rw [decide_eq_false hp,Bool.false_and,if_neg (by omega),high_bit hw (by omega)]
theorem getN_eq (w a k:Nat) (h:a+k≤32):getN w a k=w / 2 ^ a%2 ^ k:=by
 apply Nat.eq_of_testBit_eq
 intro p;rw [getN_bit' w a k p h,Nat.testBit_mod_two_pow,Nat.testBit_div_two_pow]
end Go.Proofs.YtjmiaemabhlnjaaGreatDoor.FieldM
end
section
set_option linter.all false
set_option maxRecDepth 20000
namespace Go.Proofs.YtjmiaemabhlnjaaGreatDoor.Isa
open Go.RowKit Go.Proofs.YtjmiaemabhlnjaaGreatDoor.FieldM Go.Proofs.YtjmiaemabhlnjaaGreatDoor.Field
theorem setN_add (w a k x:Nat) (h:a+k≤32) (hw:w<4294967296) (h0:w%2 ^ (a+k)=0):setN w a k x=w+x%2 ^ k*2 ^ a:=by
 have hx:x%2 ^ k<2 ^ k:=Nat.mod_lt _ (Nat.two_pow_pos k)
 have e:w+x%2 ^ k*2 ^ a=2 ^ (a+k)*(w / 2 ^ (a+k))+2 ^ a*(x%2 ^ k):=by
  have:=Nat.div_add_mod w (2 ^ (a+k));rw [h0,Nat.add_zero] at this;rw [this,Nat.mul_comm (x%2 ^ k)]
 have hlt:2 ^ a*(x%2 ^ k)<2 ^ (a+k):=by
  rw [Nat.pow_add];exact Nat.mul_lt_mul_of_pos_left hx (Nat.two_pow_pos a)
 rw [e]
 apply Nat.eq_of_testBit_eq
 intro p;rw [setN_bit' w a k x p h hw,Nat.testBit_two_pow_mul_add _ hlt,Nat.testBit_two_pow_mul,Nat.testBit_mod_two_pow,Nat.testBit_div_two_pow]
 by_cases p1:p<a+k
 · rw [if_pos p1]
   by_cases p2:a≤p
   · rw [if_pos ⟨p2,p1⟩,decide_eq_true (show p≥a from p2),decide_eq_true (show p - a<k by omega)]
     simp
   · rw [if_neg (by omega),decide_eq_false (show ¬p≥a by omega)]
     have hb:(w%2 ^ (a+k)).testBit p=false:=by rw [h0];simp
     rw [Nat.testBit_mod_two_pow,decide_eq_true p1,Bool.true_and] at hb;rw [hb];rfl
 · rw [if_neg p1,if_neg (by omega),show p - (a+k)+(a+k)=p by omega]
theorem set_add {w a k d m dm:Nat} {x:Int} (z:Int) (hd:2 ^ a=d) (hm:2 ^ k=m) (hdm:d*m=dm) (h:a+k≤32) (hw:w<4294967296) (h0:w%dm=0) (hz:(w:Int)=z) :
 setN w (a:Int) (k:Int) (x%4294967296).toNat<4294967296∧(setN w (a:Int) (k:Int) (x%4294967296).toNat:Int)=z+x%m*d:=by
 have e:dm=2 ^ (a+k):=by rw [←hdm,←hd,←hm,Nat.pow_add]
 refine ⟨setN_lt _ _ _ _,?_⟩;rw [setN_add w a k _ h hw (by rw [←e];exact h0),hd,hm,Int.natCast_add,hz]
 congr 1
 have h1:((x%4294967296).toNat:Int)=x%4294967296:=by omega
 have h2:(m:Int) ∣ 4294967296:=by
  have:(2:Nat) ^ k ∣ 2 ^ 32:=Nat.pow_dvd_pow 2 (by omega);rw [hm] at this;exact Int.ofNat_dvd.2 this
 rw [Int.natCast_mul,Int.natCast_emod,h1,Int.emod_emod_of_dvd _ h2]
theorem fold5 (h a b c d:Int) (h0:0≤h) (h1:h≤15):(layN [(28,4,h),(24,4,a),(20,4,b),(16,4,c),(0,4,d)] 0:Int)=h*268435456+a%16*16777216+b%16*1048576+c%16*65536+d%16:=by
 obtain ⟨l1,e1⟩:=set_add (w:=0) (a:=28) (k:=4) (d:=268435456) (m:=16) (dm:=4294967296) (x:=h) 0 (by decide) (by decide) rfl (by decide) (by decide) rfl rfl;obtain ⟨l2,e2⟩:=set_add (a:=24) (k:=4) (d:=16777216) (m:=16) (dm:=268435456) (x:=a) _ (by decide) (by decide) rfl (by decide) l1 (by omega) e1;obtain ⟨l3,e3⟩:=set_add (a:=20) (k:=4) (d:=1048576) (m:=16) (dm:=16777216) (x:=b) _ (by decide) (by decide) rfl (by decide) l2 (by omega) e2
 obtain ⟨l4,e4⟩:=set_add (a:=16) (k:=4) (d:=65536) (m:=16) (dm:=1048576) (x:=c) _ (by decide) (by decide) rfl (by decide) l3 (by omega) e3;obtain ⟨l5,e5⟩:=set_add (a:=0) (k:=4) (d:=1) (m:=16) (dm:=16) (x:=d) _ (by decide) (by decide) rfl (by decide) l4 (by omega) e4;exact e5.trans (by omega)
theorem fold5i (h a b c d:Int) (h0:0≤h) (h1:h≤15):(layN [(28,4,h),(24,4,a),(20,4,b),(16,4,c),(0,16,d)] 0:Int)=h*268435456+a%16*16777216+b%16*1048576+c%16*65536+d%65536:=by
 obtain ⟨l1,e1⟩:=set_add (w:=0) (a:=28) (k:=4) (d:=268435456) (m:=16) (dm:=4294967296) (x:=h) 0 (by decide) (by decide) rfl (by decide) (by decide) rfl rfl;obtain ⟨l2,e2⟩:=set_add (a:=24) (k:=4) (d:=16777216) (m:=16) (dm:=268435456) (x:=a) _ (by decide) (by decide) rfl (by decide) l1 (by omega) e1;obtain ⟨l3,e3⟩:=set_add (a:=20) (k:=4) (d:=1048576) (m:=16) (dm:=16777216) (x:=b) _ (by decide) (by decide) rfl (by decide) l2 (by omega) e2
 obtain ⟨l4,e4⟩:=set_add (a:=16) (k:=4) (d:=65536) (m:=16) (dm:=1048576) (x:=c) _ (by decide) (by decide) rfl (by decide) l3 (by omega) e3;obtain ⟨l5,e5⟩:=set_add (a:=0) (k:=16) (d:=1) (m:=65536) (dm:=65536) (x:=d) _ (by decide) (by decide) rfl (by decide) l4 (by omega) e4;exact e5.trans (by omega)
theorem fold2 (h a:Int) (h0:0≤h) (h1:h≤15):(layN [(28,4,h),(24,4,a)] 0:Int)=h*268435456+a%16*16777216:=by
 obtain ⟨l1,e1⟩:=set_add (w:=0) (a:=28) (k:=4) (d:=268435456) (m:=16) (dm:=4294967296) (x:=h) 0 (by decide) (by decide) rfl (by decide) (by decide) rfl rfl;obtain ⟨l2,e2⟩:=set_add (a:=24) (k:=4) (d:=16777216) (m:=16) (dm:=268435456) (x:=a) _ (by decide) (by decide) rfl (by decide) l1 (by omega) e1;exact e2.trans (by omega)
theorem fold4 (h a b d:Int) (h0:0≤h) (h1:h≤15):(layN [(28,4,h),(24,4,a),(20,4,b),(0,20,d)] 0:Int)=h*268435456+a%16*16777216+b%16*1048576+d%1048576:=by
 obtain ⟨l1,e1⟩:=set_add (w:=0) (a:=28) (k:=4) (d:=268435456) (m:=16) (dm:=4294967296) (x:=h) 0 (by decide) (by decide) rfl (by decide) (by decide) rfl rfl;obtain ⟨l2,e2⟩:=set_add (a:=24) (k:=4) (d:=16777216) (m:=16) (dm:=268435456) (x:=a) _ (by decide) (by decide) rfl (by decide) l1 (by omega) e1;obtain ⟨l3,e3⟩:=set_add (a:=20) (k:=4) (d:=1048576) (m:=16) (dm:=16777216) (x:=b) _ (by decide) (by decide) rfl (by decide) l2 (by omega) e2
 obtain ⟨l4,e4⟩:=set_add (a:=0) (k:=20) (d:=1) (m:=1048576) (dm:=1048576) (x:=d) _ (by decide) (by decide) rfl (by decide) l3 (by omega) e3;exact e4.trans (by omega)
theorem fold3 (h a d:Int) (h0:0≤h) (h1:h≤15):(layN [(28,4,h),(24,4,a),(0,4,d)] 0:Int)=h*268435456+a%16*16777216+d%16:=by
 obtain ⟨l1,e1⟩:=set_add (w:=0) (a:=28) (k:=4) (d:=268435456) (m:=16) (dm:=4294967296) (x:=h) 0 (by decide) (by decide) rfl (by decide) (by decide) rfl rfl;obtain ⟨l2,e2⟩:=set_add (a:=24) (k:=4) (d:=16777216) (m:=16) (dm:=268435456) (x:=a) _ (by decide) (by decide) rfl (by decide) l1 (by omega) e1;obtain ⟨l3,e3⟩:=set_add (a:=0) (k:=4) (d:=1) (m:=16) (dm:=16) (x:=d) _ (by decide) (by decide) rfl (by decide) l2 (by omega) e2
 exact e3.trans (by omega)
theorem fold3j (h a d:Int) (h0:0≤h) (h1:h≤15):(layN [(28,4,h),(24,4,a),(0,24,d)] 0:Int)=h*268435456+a%16*16777216+d%16777216:=by
 obtain ⟨l1,e1⟩:=set_add (w:=0) (a:=28) (k:=4) (d:=268435456) (m:=16) (dm:=4294967296) (x:=h) 0 (by decide) (by decide) rfl (by decide) (by decide) rfl rfl;obtain ⟨l2,e2⟩:=set_add (a:=24) (k:=4) (d:=16777216) (m:=16) (dm:=268435456) (x:=a) _ (by decide) (by decide) rfl (by decide) l1 (by omega) e1;obtain ⟨l3,e3⟩:=set_add (a:=0) (k:=24) (d:=1) (m:=16777216) (dm:=16777216) (x:=d) _ (by decide) (by decide) rfl (by decide) l2 (by omega) e2
 exact e3.trans (by omega)
theorem b2i_range (u:Bool):0≤b2i u∧b2i u≤1:=by unfold b2i;cases u<;>simp
theorem word1 (op a b c im:Int) (u:Bool):(wordN ⟨1,op,a,b,c,im,u⟩:Int)=b2i u*2*268435456+a%16*16777216+b%16*1048576+op%16*65536+c%16:=by
 have h:=b2i_range u;simp only [wordN,wordL,if_true];exact fold5 _ _ _ _ _ (by omega) (by omega)
theorem word2 (op a b c im:Int) (u:Bool):(wordN ⟨2,op,a,b,c,im,u⟩:Int)=(4+b2i u*2+b2i (decide (im<0)))*268435456+a%16*16777216+b%16*1048576+op%16*65536+im%65536:=by
 have h:=b2i_range u;have h':=b2i_range (decide (im<0));simp only [wordN,wordL,show ¬(2:Int)=1 by decide,if_true,if_false];exact fold5i _ _ _ _ _ (by omega) (by omega)
theorem word3 (op a b c im:Int) (u:Bool):(wordN ⟨3,op,a,b,c,im,u⟩:Int)=2*268435456+a%16*16777216:=by
 simp only [wordN,wordL,show ¬(3:Int)=1 by decide,show ¬(3:Int)=2 by decide,if_true,if_false];exact fold2 _ _ (by omega) (by omega)
theorem word4 (op a b c im:Int) (u:Bool):(wordN ⟨4,op,a,b,c,im,u⟩:Int)=3*268435456+a%16*16777216:=by
 simp only [wordN,wordL,show ¬(4:Int)=1 by decide,show ¬(4:Int)=2 by decide,show ¬(4:Int)=3 by decide,if_true,if_false];exact fold2 _ _ (by omega) (by omega)
theorem word5 (op a b c im:Int) (u:Bool):(wordN ⟨5,op,a,b,c,im,u⟩:Int)=(8+b2i (decide (2≤op))*2+b2i (op%2==1))*268435456+a%16*16777216+b%16*1048576+im%1048576:=by
 have h:=b2i_range (decide (2≤op));have h':=b2i_range (op%2==1);simp only [wordN,wordL,show ¬(5:Int)=1 by decide,show ¬(5:Int)=2 by decide,show ¬(5:Int)=3 by decide,show ¬(5:Int)=4 by decide,if_true,if_false];exact fold4 _ _ _ _ (by omega) (by omega)
theorem word6 (op a b c im:Int) (u:Bool):(wordN ⟨6,op,a,b,c,im,u⟩:Int)=(12+b2i u)*268435456+op%16*16777216+c%16:=by
 have h:=b2i_range u;simp only [wordN,wordL,show ¬(6:Int)=1 by decide,show ¬(6:Int)=2 by decide,show ¬(6:Int)=3 by decide,show ¬(6:Int)=4 by decide,show ¬(6:Int)=5 by decide,if_true,if_false];exact fold3 _ _ _ (by omega) (by omega)
theorem word7 (op a b c im:Int) (u:Bool):(wordN ⟨7,op,a,b,c,im,u⟩:Int)=(14+b2i u)*268435456+op%16*16777216+im%16777216:=by
 have h:=b2i_range u;simp only [wordN,wordL,show ¬(7:Int)=1 by decide,show ¬(7:Int)=2 by decide,show ¬(7:Int)=3 by decide,show ¬(7:Int)=4 by decide,show ¬(7:Int)=5 by decide,show ¬(7:Int)=6 by decide,if_false];exact fold3j _ _ _ (by omega) (by omega)
theorem signed20 (w:Nat):signedN w 19=if w%1048576<524288 then ((w%1048576:Nat):Int) else ((w%1048576:Nat):Int) - 1048576:=by
 simp only [signedN,show 2 ^ (19+1)=1048576 from by decide,show 2 ^ 19=524288 from by decide];rfl
theorem signed24 (w:Nat):signedN w 23=if w%16777216<8388608 then ((w%16777216:Nat):Int) else ((w%16777216:Nat):Int) - 16777216:=by
 simp only [signedN,show 2 ^ (23+1)=16777216 from by decide,show 2 ^ 23=8388608 from by decide];rfl
theorem rget_any (w:Nat) (a n:Int) (B:Nat) (W:World) (hw:w<4294967296) (hn:n≤9223372036854775807) (hB:W.cell? ⟨B,0,none⟩=some (.int .u32 w)) :
 Calls Tryz.prog 112 #[.int .i64 a,.int .i64 n,.pointer (some ⟨B,0,none⟩)] W fun e w'=>e=.returned (.int .i64 (getN w a n))∧Bl W w':=by
 have hl:=getN_lt w a n;have H:=Field.Aside.mk fun wx=>get_any w a n wx hw hn;generalize getN w a n=r at *;go_enter Tryz.func112,Tryz.ntmps112
 go_wp2_with (go_at_call 113;refine (H.out _).mono ?_;rintro e w1 ⟨rfl,hb⟩)
 go_ret;exact ⟨rfl,⟨hb⟩⟩
theorem rget_c (w:Nat) (a n:Int) (r:Int) (B:Nat) (W:World) (hw:w<4294967296) (hn:n≤9223372036854775807) (hB:W.cell? ⟨B,0,none⟩=some (.int .u32 w)) (hr:(getN w a n:Int)=r) :
 Field.Aside (∀wx,Bl W wx→Calls Tryz.prog 112 #[.int .i64 a,.int .i64 n,.pointer (some ⟨B,0,none⟩)] wx fun e w'=>e=.returned (.int .i64 r)∧Bl wx w') :=
 ⟨fun wx h=>(rget_any w a n B wx hw hn (h.cell hB)).mono fun _ _ ⟨h1,h2⟩=>⟨by rw [h1,hr],h2⟩⟩
structure IBox (g:Nat) (kd op a b c im:Int) (u:Bool) (w:World):Prop where
 i0:w.cell? ⟨g,0,none⟩=some (.int .i64 kd)
 i1:w.cell? ⟨g,1,none⟩=some (.int .i64 op)
 i2:w.cell? ⟨g,2,none⟩=some (.int .i64 a)
 i3:w.cell? ⟨g,3,none⟩=some (.int .i64 b)
 i4:w.cell? ⟨g,4,none⟩=some (.int .i64 c)
 i5:w.cell? ⟨g,5,none⟩=some (.int .i64 im)
 i6:w.cell? ⟨g,6,none⟩=some (.bool u)
 fz:∀j,w.frozen? ⟨g,j,none⟩=false
theorem IBox.lt {g:Nat} {kd op a b c im:Int} {u:Bool} {w:World} (h:IBox g kd op a b c im u w):g<w.heap.size:=World.block_lt_of_cell? w ⟨g,0,none⟩ h.i0
theorem IBox.keep {g:Nat} {kd op a b c im:Int} {u:Bool} {w w':World} (h:IBox g kd op a b c im u w) (k:Bl w w'):IBox g kd op a b c im u w' :=
 ⟨k.cell h.i0,k.cell h.i1,k.cell h.i2,k.cell h.i3,k.cell h.i4,k.cell h.i5,k.cell h.i6,fun j=>(k.out.frozen (p:=⟨g,j,none⟩) h.lt).trans (h.fz j)⟩
theorem IBox.new (w:World) (kd op a b c im:Int) (u:Bool) (T:TypeId):IBox w.heap.size kd op a b c im u (w.alloc (.cells #[.int .i64 kd,.int .i64 op,.int .i64 a,.int .i64 b,.int .i64 c,.int .i64 im,.bool u] T)) :=
 ⟨by rw [World.cell?_alloc_at _ _ _ _ rfl];rfl,by rw [World.cell?_alloc_at _ _ _ _ rfl];rfl,by rw [World.cell?_alloc_at _ _ _ _ rfl];rfl,by rw [World.cell?_alloc_at _ _ _ _ rfl];rfl,by rw [World.cell?_alloc_at _ _ _ _ rfl];rfl,
   by rw [World.cell?_alloc_at _ _ _ _ rfl];rfl,by rw [World.cell?_alloc_at _ _ _ _ rfl];rfl,fun j=>World.frozen?_alloc_at _ _ _ _ rfl⟩
theorem Bl.puts {W w:World} (h:Bl W w) {p:Addr} (hp:W.heap.size≤p.block) (v:Value):Bl W (w.setCell p v):=⟨h.out.setCell hp v⟩
theorem IBox.set0 {g:Nat} {kd op a b c im:Int} {u:Bool} {w:World} (h:IBox g kd op a b c im u w) (kd':Int):IBox g kd' op a b c im u (w.setCell ⟨g,0,none⟩ (.int .i64 kd')) :=
 ⟨World.cell?_setCell_same _ _ _ h.i0,(World.cell?_setCell_other _ _ _ _ (by simp)).trans h.i1,(World.cell?_setCell_other _ _ _ _ (by simp)).trans h.i2,(World.cell?_setCell_other _ _ _ _ (by simp)).trans h.i3,(World.cell?_setCell_other _ _ _ _ (by simp)).trans h.i4,(World.cell?_setCell_other _ _ _ _ (by simp)).trans h.i5,(World.cell?_setCell_other _ _ _ _ (by simp)).trans h.i6,fun j=>by rw [World.frozen?_setCell];exact h.fz j⟩
theorem IBox.set4 {g:Nat} {kd op a b c im:Int} {u:Bool} {w:World} (h:IBox g kd op a b c im u w) (c':Int):IBox g kd op a b c' im u (w.setCell ⟨g,4,none⟩ (.int .i64 c')) :=
 ⟨(World.cell?_setCell_other _ _ _ _ (by simp)).trans h.i0,(World.cell?_setCell_other _ _ _ _ (by simp)).trans h.i1,(World.cell?_setCell_other _ _ _ _ (by simp)).trans h.i2,(World.cell?_setCell_other _ _ _ _ (by simp)).trans h.i3,World.cell?_setCell_same _ _ _ h.i4,(World.cell?_setCell_other _ _ _ _ (by simp)).trans h.i5,(World.cell?_setCell_other _ _ _ _ (by simp)).trans h.i6,fun j=>by rw [World.frozen?_setCell];exact h.fz j⟩
def tailN (kd op b im:Int) (u:Bool):Bool :=
 if kd=1∨kd=2 then
  if op=0 then b==0&&(kd==2 || !u)&&(!u || decide (0≤im))
  else if 11<op then false
  else !u || (decide (8≤op)&&decide (op≤10))
 else true
set_option maxHeartbeats 8000000 in
theorem may_4 (kd op a b c im:Int) (u:Bool) (W W1:World) (HW:Field.Aside (W1=W.alloc (.cells #[.int .i64 kd,.int .i64 op,.int .i64 a,.int .i64 b,.int .i64 c,.int .i64 im,.bool u] 72)))
 (B1:Field.Aside (∀wx,Calls Tryz.prog 115 #[.int .i64 kd,.int .i64 1,.int .i64 7] wx fun e w'=>e=.returned (.bool true)∧wx=w'))
 (B2:Field.Aside (∀wx,Calls Tryz.prog 115 #[.int .i64 op,.int .i64 0,.int .i64 15] wx fun e w'=>e=.returned (.bool true)∧wx=w'))
 (R:Int) (WD:Field.Aside (∀wx,Calls Tryz.prog 82 #[.agg #[.int .i64 kd,.int .i64 op,.int .i64 a,.int .i64 b,.int .i64 c,.int .i64 im,.bool u]] wx fun e w'=>e=.returned (.int .u32 R)∧Bl wx w'))
 (RD:Field.Aside (∀wx,Calls Tryz.prog 80 #[.int .u32 R] wx fun e w'=>e=.returned (.agg #[.int .i64 kd,.int .i64 op,.int .i64 a,.int .i64 b,.int .i64 c,.int .i64 im,.bool u])∧Bl wx w')) (h1:1≤kd) (h7:kd≤7) (o0:0≤op) (o1:op≤15)
 (B3:Field.Aside (∀wx,Calls Tryz.prog 115 #[.int .i64 op,.int .i64 8,.int .i64 10] wx fun e w'=>e=.returned (.bool (decide (8≤op)&&decide (op≤10)))∧wx=w')) :
 Calls Tryz.prog 81 #[.agg #[.int .i64 kd,.int .i64 op,.int .i64 a,.int .i64 b,.int .i64 c,.int .i64 im,.bool u]] W fun e w'=>e=.returned (.bool (tailN kd op b im u))∧Bl W w':=by
 have HWB:Field.Aside (Bl W W1):=⟨⟨by have:=HW.out;subst this;exact (Below.refl _ _).alloc (Nat.le_refl _) _⟩⟩;have RZ:Field.Aside (IBox W.heap.size kd op a b c im u W1):=⟨by rw [HW.out];exact IBox.new W kd op a b c im u _⟩;have B0:Bl W1 W1:=Bl.refl _;go_enter Tryz.func81,Tryz.ntmps81
 go_wp2_with fail
 rw [←HW.out];obtain ⟨i0,i1,i2,i3,i4,i5,i6,fz⟩:=RZ.out
 go_cut [19] (fun v wx=>v=.bool false∧Bl W1 wx)
 case first =>
  first | go_region_with (first | (go_at_call 115;(with_reducible refine (B1.out _).mono ?_);rintro e wn ⟨rfl,rfl⟩) | (go_at_call 115;(with_reducible refine (B2.out _).mono ?_);rintro e wn ⟨rfl,rfl⟩) | (go_at_call 82;(with_reducible refine (WD.out _).mono ?_);rintro e wn ⟨rfl,kn⟩;have BN:Bl W1 wn:=Bl.then (by first | with_reducible assumption | (apply Bl.drew;with_reducible assumption)) kn.out;clear kn;obtain ⟨i0,i1,i2,i3,i4,i5,i6,fz⟩:=RZ.out.keep BN) | (go_at_call 80;(with_reducible refine (RD.out _).mono ?_);rintro e wn ⟨rfl,kn⟩;have BN:Bl W1 wn:=Bl.then (by first | with_reducible assumption | (apply Bl.drew;with_reducible assumption)) kn.out;clear kn;obtain ⟨i0,i1,i2,i3,i4,i5,i6,fz⟩:=RZ.out.keep BN)) | fail "region"
  all_goals (try go_wp2_with fail)
  all_goals go_meet
  all_goals (refine ⟨rfl,?_⟩)
  all_goals first | with_reducible assumption | (apply Bl.drew;with_reducible assumption)
 case rest =>
  obtain ⟨rfl,HQ⟩:=hcut;have BOX:=Field.Aside.mk (RZ.out.keep HQ);have fin:=Field.Aside.mk (HWB.out.then HQ.out);clear i0 i1 i2 i3 i4 i5 i6 fz B0 HQ WD RD B1 B2 HWB RZ HW
  rcases (show kd=1∨kd=2∨(3≤kd) by omega) with rfl | rfl | hk
  · by_cases p0:op=0
    · subst p0
      by_cases pb:b=0
      · subst pb
        cases u
        · obtain ⟨i0,i1,i2,i3,i4,i5,i6,fz⟩:=BOX.out
          go_wp2_with fail
          refine bodyPost_ret (v:=.bool true) ?_ rfl ⟨by simp [tailN],fin.out⟩;simp only [results,Tryz.results81];go_simp
        · obtain ⟨i0,i1,i2,i3,i4,i5,i6,fz⟩:=BOX.out
          go_wp2_with fail
          refine bodyPost_ret (v:=.bool false) ?_ rfl ⟨by simp [tailN],fin.out⟩;simp only [results,Tryz.results81];go_simp
      · have pb1:(b==0)=false:=beq_eq_false_iff_ne.2 pb
        have PB:=Field.Aside.mk pb;clear pb;obtain ⟨i0,i1,i2,i3,i4,i5,i6,fz⟩:=BOX.out
        go_wp2_with fail
        refine bodyPost_ret (v:=.bool false) ?_ rfl ⟨by simp [tailN,PB.out],fin.out⟩;simp only [results,Tryz.results81];go_simp
    · have p1:(op==0)=false:=beq_eq_false_iff_ne.2 p0
      have P0:=Field.Aside.mk p0;clear p0
      by_cases p11:11<op
      · obtain ⟨i0,i1,i2,i3,i4,i5,i6,fz⟩:=BOX.out
        go_wp2_with fail
        refine bodyPost_ret (v:=.bool false) ?_ rfl ⟨by simp [tailN,P0.out,p11],fin.out⟩;simp only [results,Tryz.results81];go_simp
      · cases u
        · obtain ⟨i0,i1,i2,i3,i4,i5,i6,fz⟩:=BOX.out
          go_wp2_with fail
          refine bodyPost_ret (v:=.bool true) ?_ rfl ⟨by simp [tailN,P0.out,p11],fin.out⟩;simp only [results,Tryz.results81];go_simp
        · obtain ⟨i0,i1,i2,i3,i4,i5,i6,fz⟩:=BOX.out
          go_wp2_with fail
          refine (B3.out _).mono ?_;rintro e wn ⟨rfl,rfl⟩
          go_wp2_with fail
          refine bodyPost_ret (v:=.bool (decide (8≤op)&&decide (op≤10))) ?_ rfl ⟨by simp [tailN,P0.out,p11],fin.out⟩;simp only [results,Tryz.results81];go_simp
  · by_cases p0:op=0
    · subst p0
      by_cases pb:b=0
      · subst pb
        cases u
        · obtain ⟨i0,i1,i2,i3,i4,i5,i6,fz⟩:=BOX.out
          go_wp2_with fail
          refine bodyPost_ret (v:=.bool true) ?_ rfl ⟨by simp [tailN],fin.out⟩;simp only [results,Tryz.results81];go_simp
        · by_cases pi:0≤im
          · obtain ⟨i0,i1,i2,i3,i4,i5,i6,fz⟩:=BOX.out
            go_wp2_with fail
            refine bodyPost_ret (v:=.bool true) ?_ rfl ⟨by simp [tailN,pi],fin.out⟩;simp only [results,Tryz.results81];go_simp
          · obtain ⟨i0,i1,i2,i3,i4,i5,i6,fz⟩:=BOX.out
            go_wp2_with fail
            refine bodyPost_ret (v:=.bool false) ?_ rfl ⟨by simp [tailN,pi],fin.out⟩;simp only [results,Tryz.results81];go_simp
      · have pb1:(b==0)=false:=beq_eq_false_iff_ne.2 pb
        have PB:=Field.Aside.mk pb;clear pb;obtain ⟨i0,i1,i2,i3,i4,i5,i6,fz⟩:=BOX.out
        go_wp2_with fail
        refine bodyPost_ret (v:=.bool false) ?_ rfl ⟨by simp [tailN,PB.out],fin.out⟩;simp only [results,Tryz.results81];go_simp
    · have p1:(op==0)=false:=beq_eq_false_iff_ne.2 p0
      have P0:=Field.Aside.mk p0;clear p0
      by_cases p11:11<op
      · obtain ⟨i0,i1,i2,i3,i4,i5,i6,fz⟩:=BOX.out
        go_wp2_with fail
        refine bodyPost_ret (v:=.bool false) ?_ rfl ⟨by simp [tailN,P0.out,p11],fin.out⟩;simp only [results,Tryz.results81];go_simp
      · cases u
        · obtain ⟨i0,i1,i2,i3,i4,i5,i6,fz⟩:=BOX.out
          go_wp2_with fail
          refine bodyPost_ret (v:=.bool true) ?_ rfl ⟨by simp [tailN,P0.out,p11],fin.out⟩;simp only [results,Tryz.results81];go_simp
        · obtain ⟨i0,i1,i2,i3,i4,i5,i6,fz⟩:=BOX.out
          go_wp2_with fail
          refine (B3.out _).mono ?_;rintro e wn ⟨rfl,rfl⟩
          go_wp2_with fail
          refine bodyPost_ret (v:=.bool (decide (8≤op)&&decide (op≤10))) ?_ rfl ⟨by simp [tailN,P0.out,p11],fin.out⟩;simp only [results,Tryz.results81];go_simp
  · have k1:(kd==1)=false:=beq_eq_false_iff_ne.2 (by omega)
    have k2:(kd==2)=false:=beq_eq_false_iff_ne.2 (by omega);have K1:Field.Aside (¬(kd=1∨kd=2)):=⟨by omega⟩;obtain ⟨i0,i1,i2,i3,i4,i5,i6,fz⟩:=BOX.out
    go_wp2_with fail
    refine bodyPost_ret (v:=.bool true) ?_ rfl ⟨by simp only [tailN,if_neg K1.out],fin.out⟩;simp only [results,Tryz.results81];go_simp
def okN (w:Nat):Bool:=mayN (readN w)&&decide (wordN (readN w)=w)
theorem mayN_is (i:Ins):mayN i=(decide (1≤i.kd)&&decide (i.kd≤7)&&(decide (0≤i.op)&&decide (i.op≤15))&&decide (i=readN (wordN i))&&tailN i.kd i.op i.b i.im i.u):=by
 simp only [mayN,tailN]
theorem may_read {i:Ins} (h:mayN i=true):i=readN (wordN i):=by
 rw [mayN_is] at h;simp only [Bool.and_eq_true,decide_eq_true_iff] at h;exact h.1.2
theorem may_bounds {i:Ins} (h:mayN i=true):1≤i.kd∧i.kd≤7∧0≤i.op∧i.op≤15:=by
 rw [mayN_is] at h;simp only [Bool.and_eq_true,decide_eq_true_iff] at h;exact ⟨h.1.1.1.1,h.1.1.1.2,h.1.1.2.1,h.1.1.2.2⟩
theorem read_bounds (w:Nat):1≤(readN w).kd∧(readN w).kd≤7∧0≤(readN w).op∧(readN w).op≤15:=by
 unfold readN
 split
 · split
   · simp only;omega
   · simp only;omega
 · split
   · simp only;omega
   · split
     · simp only;omega
     · split
       · simp only;omega
       · simp only;omega
theorem b2i_dec (p:Prop) [Decidable p]:b2i (decide p)=if p then 1 else 0:=by unfold b2i;by_cases h:p<;>simp [h]
theorem read_mem {w:Nat} (h:w / 1073741824%4=2):readN w=⟨5,2*(w / 536870912%2:Nat)+(w / 268435456%2:Nat),(w / 16777216%16:Nat),(w / 1048576%16:Nat),0,signedN w 19,false⟩:=by
 simp [readN,h]
theorem read_jmp {w:Nat} (h:w / 1073741824%4=3) (h2:w / 536870912%2=1):readN w=⟨7,(w / 16777216%16:Nat),0,0,0,signedN w 23,decide (w / 268435456%2=1)⟩:=by
 simp [readN,h,h2]
theorem read_reg {w:Nat} (h:w / 1073741824%4=0) (h2:¬(w / 536870912%2=1∧w / 65536%16=0)):readN w=⟨1,(w / 65536%16:Nat),(w / 16777216%16:Nat),(w / 1048576%16:Nat),(w%16:Nat),0,decide (w / 536870912%2=1)⟩:=by
 simp only [readN,h,if_true,if_neg h2]
end Go.Proofs.YtjmiaemabhlnjaaGreatDoor.Isa
end
