/- A part of the proof of TopShifts. -/
import Derived.RowKit
import Derived.Laws.BitsAllLaws
import Derived.Test.YtjmiaemabhlnjaaGreatDoorProg
import Derived.WalkKit
import Derived.KernelRfl
import Derived.RowKit3
import Derived.Deep.LoopGhost
import Derived.Deep.QuietTactic
import Derived.BigQuiet
import Derived.OwnWalk
import Derived.RegionTactic
import Derived.ChangeAlike
section
set_option linter.all false
set_option maxRecDepth 20000
namespace Go.Proofs.YtjmiaemabhlnjaaGreatDoor.FieldM
open Go Go.RowKit
def natOf (f:Nat→Bool):Nat→Nat
 | 0=>0
 | k+1=>natOf f k+(if f k then 2 ^ k else 0)
theorem natOf_lt (f:Nat→Bool):∀k,natOf f k<2 ^ k
 | 0=>by simp [natOf]
 | k+1=>by
   have:=natOf_lt f k;simp only [natOf]
   split<;>(rw [Nat.pow_succ];omega)
theorem testBit_natOf (f:Nat→Bool):∀k p,(natOf f k).testBit p=(decide (p<k)&&f p)
 | 0,p=>by simp [natOf]
 | k+1,p=>by
   have ih:=testBit_natOf f k p;have hl:=natOf_lt f k;have hl':=natOf_lt f (k+1)
   by_cases hp:p<k+1
   · simp only [natOf]
     by_cases hk:f k=true
     · rw [if_pos hk,Nat.add_comm]
       by_cases e:p=k
       · subst e
         rw [Nat.testBit_two_pow_add_eq,ih];simp [hk]
       · rw [Nat.testBit_two_pow_add_gt (by omega),ih]
         have:p<k:=by omega
         simp [this,hp]
     · rw [if_neg hk,Nat.add_zero,ih]
       by_cases e:p=k
       · subst e;simp at hk;simp [hk]
       · have:p<k:=by omega
         simp [this,hp]
   · rw [Nat.testBit_lt_two_pow (Nat.lt_of_lt_of_le hl' (Nat.pow_le_pow_right (by omega) (by omega)))]
     simp [hp]
theorem eq_natOf {m k:Nat} {f:Nat→Bool} (h:m<2 ^ k) (hb:∀p,p<k→m.testBit p=f p):m=natOf f k:=by
 apply Nat.eq_of_testBit_eq
 intro p;rw [testBit_natOf]
 by_cases hp:p<k
 · simp [hp,hb p hp]
 · rw [Nat.testBit_lt_two_pow (Nat.lt_of_lt_of_le h (Nat.pow_le_pow_right (by omega) (by omega)))]
   simp [hp]
theorem high_bit {m p:Nat} (h:m<4294967296) (hp:32≤p):m.testBit p=false :=
 Nat.testBit_lt_two_pow (Nat.lt_of_lt_of_le h (by
  have:2 ^ 32≤2 ^ p:=Nat.pow_le_pow_right (by omega) hp
  simpa using this))
def inF (i at_ n:Int):Bool:=decide (1≤n∧at_≤i∧i - at_<n)
def bitZ (w:Nat) (z:Int):Bool:=decide (0≤z∧z<32)&&w.testBit z.toNat
def getN (w:Nat) (at_ n:Int):Nat:=natOf (fun p=>inF (p+at_) at_ n&&bitZ w (p+at_)) 32
def setN (w:Nat) (at_ n:Int) (x:Nat):Nat:=natOf (fun i=>if inF i at_ n then bitZ x ((i:Int) - at_) else w.testBit i) 32
theorem getN_lt (w at_ n):getN w at_ n<4294967296:=natOf_lt _ 32
theorem setN_lt (w at_ n x):setN w at_ n x<4294967296:=natOf_lt _ 32
theorem bit_pow (x i m p:Nat) (hp:p<32):((x / 2 ^ i%2)*2 ^ m%4294967296).testBit p=(decide (p=m)&&x.testBit i):=by
 rw [show (4294967296:Nat)=2 ^ 32 by decide,Nat.testBit_mod_two_pow,decide_eq_true hp,Bool.true_and];have hx:x.testBit i=decide (x / 2 ^ i%2=1):=Nat.testBit_eq_decide_div_mod_eq
 have h2:x / 2 ^ i%2=0∨x / 2 ^ i%2=1:=by omega
 rcases h2 with h | h
 · rw [hx,h];simp
 · rw [hx,h,Nat.one_mul,Nat.testBit_two_pow]
   by_cases e:m=p
   · simp [e]
   · have:¬p=m:=fun h=>e h.symm
     simp [e,this]
def getStep (x i q o:Nat):Nat:=o ||| (x / 2 ^ i%2)*2 ^ min q 32%4294967296
theorem getStep_lt {x i q o:Nat} (h:o<4294967296):getStep x i q o<4294967296 :=
 Nat.or_lt_two_pow (n:=32) h (Nat.mod_lt _ (by decide))
theorem getStep_bit {x i q o p:Nat} (hp:p<32):(getStep x i q o).testBit p=(o.testBit p || (decide (p=q)&&x.testBit i)):=by
 unfold getStep;rw [Nat.testBit_or,bit_pow x i _ p hp]
 congr 2
 by_cases h:q≤32
 · rw [Nat.min_eq_left h]
 · rw [Nat.min_eq_right (by omega)]
   have h1:¬p=32:=by omega
   have h2:¬p=q:=by omega
   simp [h1,h2]
def setStep (x i q o:Nat):Nat:=(o &&& (4294967295 - 2 ^ i)) ||| (x / 2 ^ min q 32%2)*2 ^ i%4294967296
theorem setStep_lt {x i q o:Nat} (h:o<4294967296):setStep x i q o<4294967296 :=
 Nat.or_lt_two_pow (n:=32) (Nat.lt_of_le_of_lt Nat.and_le_left h) (Nat.mod_lt _ (by decide))
theorem clear_bit (o i p:Nat) (hi:i<32) (hp:p<32):(o &&& (4294967295 - 2 ^ i)).testBit p=(o.testBit p && !decide (p=i)):=by
 have hi2:2 ^ i<2 ^ 32:=Nat.pow_lt_pow_right (by omega) hi;rw [Nat.testBit_and,show 4294967295 - 2 ^ i=2 ^ 32 - (2 ^ i+1) by omega,Nat.testBit_two_pow_sub_succ hi2,decide_eq_true hp,Nat.testBit_two_pow]
 congr 2
 by_cases e:i=p
 · simp [e]
 · have:¬p=i:=fun h=>e h.symm
   simp [e,this]
theorem setStep_bit {x i q o p:Nat} (hx:x<4294967296) (hi:i<32) (hp:p<32):(setStep x i q o).testBit p=if p=i then decide (q<32)&&x.testBit q else o.testBit p:=by
 unfold setStep;rw [Nat.testBit_or,clear_bit o i p hi hp,bit_pow x _ i p hp]
 by_cases e:p=i
 · simp only [e,decide_true,Bool.not_true,Bool.and_false,Bool.false_or,Bool.true_and,if_true]
   by_cases h:q<32
   · rw [Nat.min_eq_left (by omega),decide_eq_true h,Bool.true_and]
   · rw [Nat.min_eq_right (by omega),high_bit hx (by omega)]
     simp [h]
 · simp [e]
def loopF (step:Int→Int→Int) (a n:Int):Nat→Int→Int→Int
 | 0,_,o=>o
 | f+1,i,o=>if i - a<n then loopF step a n f (i+1) (step i o) else o
theorem loopF_go {step:Int→Int→Int} {a n i o R:Int} (h:loopF step a n (32 - i).toNat i o=R) (hi:i<32) (hn:i - a<n) :
 loopF step a n (32 - (i+1)).toNat (i+1) (step i o)=R:=by
 obtain ⟨f,hf⟩:∃f,(32 - i).toNat=f+1:=⟨(32 - i).toNat - 1,by omega⟩;rw [hf] at h;rw [show (32 - (i+1)).toNat=f by omega];simp only [loopF] at h;rw [if_pos hn] at h;exact h
theorem loopF_end {step:Int→Int→Int} {a n i o R:Int} (h:loopF step a n (32 - i).toNat i o=R) (hi:¬(i<32∧i - a<n)):o=R:=by
 cases hf:(32 - i).toNat with
 | zero=>rw [hf] at h;exact h
 | succ f =>
   rw [hf] at h;simp only [loopF] at h;rw [if_neg (by omega)] at h;exact h
def eachR (step:Int→Int→Int) (a n o:Int):Int:=if n<1∨32≤a∨a ≤ -n then o else loopF step a n (32 - max a 0).toNat (max a 0) o
def orI (x i p o:Int):Int:=bits .or .u32 o (bits .and .u32 (x / 2 ^ i.toNat) 1*2 ^ min p.toNat 32%4294967296)
def putI (x i p o:Int):Int:=bits .or .u32 (bits .andNot .u32 o (2 ^ i.toNat%4294967296)) (bits .and .u32 (x / 2 ^ min p.toNat 32) 1*2 ^ i.toNat%4294967296)
theorem div_pow_cast (x k:Nat):(x:Int) / 2 ^ k=((x / 2 ^ k:Nat):Int):=by simp
theorem and_one (y:Nat) (h:y<4294967296):bits .and .u32 (y:Int) 1=((y%2:Nat):Int):=by
 have:=u32_and_nat y 1 h (by omega);rw [nat_mask1] at this;exact this
theorem orI_eq (x i q o:Nat) (hx:x<4294967296) (ho:o<4294967296):orI x i q o=((getStep x i q o:Nat):Int):=by
 unfold orI getStep;have h1:x / 2 ^ i<4294967296:=Nat.lt_of_le_of_lt (Nat.div_le_self _ _) hx;rw [Int.toNat_natCast,Int.toNat_natCast,div_pow_cast,and_one _ h1]
 have e:((x / 2 ^ i%2:Nat):Int)*2 ^ min q 32%4294967296=(((x / 2 ^ i%2)*2 ^ min q 32%4294967296:Nat):Int):=by simp
 rw [e,u32_or_nat _ _ ho (Nat.mod_lt _ (by decide))]
theorem putI_eq (x i q o:Nat) (hx:x<4294967296) (ho:o<4294967296) (hi:i<32):putI x i q o=((setStep x i q o:Nat):Int):=by
 unfold putI setStep;have h1:x / 2 ^ min q 32<4294967296:=Nat.lt_of_le_of_lt (Nat.div_le_self _ _) hx;have h2:(2:Nat) ^ i<4294967296:=Nat.pow_lt_pow_right (n:=32) (by decide) hi
 have e2:(2:Int) ^ i%4294967296=((2 ^ i:Nat):Int):=by
  have e3:(2:Int) ^ i=((2 ^ i:Nat):Int):=by simp
  rw [e3];generalize 2 ^ i=z at *;omega
 rw [Int.toNat_natCast,Int.toNat_natCast,div_pow_cast,and_one _ h1,e2,u32_andNot_nat _ _ ho h2]
 have e:((x / 2 ^ min q 32%2:Nat):Int)*2 ^ i%4294967296=(((x / 2 ^ min q 32%2)*2 ^ i%4294967296:Nat):Int):=by simp
 rw [e,u32_or_nat _ _ (Nat.lt_of_le_of_lt Nat.and_le_left ho) (Nat.mod_lt _ (by decide))]
theorem get_loop (x:Nat) (a n:Int) (hx:x<4294967296) (f:Nat):∀(i o:Nat),o<4294967296→a≤i→i+f=32 →
 ∃r:Nat,loopF (fun i o=>orI x i (i - a) o) a n f i o=r∧r<4294967296 ∧
  ∀p,p<32→r.testBit p=(o.testBit p || (decide ((i:Int)≤p+a∧(p:Int)<n)&&bitZ x (p+a))):=by
 induction f with
 | zero =>
   intro i o ho ha hi;refine ⟨o,rfl,ho,fun p hp=>?_⟩
   by_cases c:(i:Int)≤p+a∧(p:Int)<n
   · have:bitZ x (p+a)=false:=by
      unfold bitZ;rw [decide_eq_false (by omega)];rfl
     rw [this];simp
   · rw [decide_eq_false c];simp
 | succ f ih =>
   intro i o ho ha hi;simp only [loopF]
   by_cases c:(i:Int) - a<n
   · rw [if_pos c]
     obtain ⟨q,hq⟩:=Int.eq_ofNat_of_zero_le (show 0≤(i:Int) - a by omega);rw [hq,orI_eq x i q o hx ho];obtain ⟨r,h1,h2,h3⟩:=ih (i+1) (getStep x i q o) (getStep_lt ho) (by omega) (by omega);refine ⟨r,h1,h2,fun p hp=>?_⟩;rw [h3 p hp,getStep_bit hp,Bool.or_assoc]
     congr 1
     by_cases e:p=q
     · have e1:(p:Int)+a=i:=by omega
       have e2:¬(((i+1:Nat):Int)≤p+a∧(p:Int)<n):=by omega
       have e3:(i:Int)≤p+a∧(p:Int)<n:=by omega
       rw [decide_eq_true e,decide_eq_false e2,decide_eq_true e3,e1]
       have:bitZ x (i:Int)=x.testBit i:=by
        unfold bitZ;rw [decide_eq_true (by omega),Int.toNat_natCast];rfl
       rw [this];simp
     · rw [decide_eq_false e,Bool.false_and,Bool.false_or]
       congr 1
       apply decide_eq_decide.2
       omega
   · rw [if_neg c]
     refine ⟨o,rfl,ho,fun p hp=>?_⟩
     have:¬((i:Int)≤p+a∧(p:Int)<n):=by omega
     rw [decide_eq_false this];simp
theorem get_math (x:Nat) (a n:Int) (hx:x<4294967296):eachR (fun i o=>orI x i (i - a) o) a n 0=((getN x a n:Nat):Int):=by
 unfold eachR
 by_cases c:n<1∨32≤a∨a ≤ -n
 · rw [if_pos c]
   have:getN x a n=0:=by
    symm
    apply eq_natOf (by omega)
    intro p hp;rw [Nat.zero_testBit]
    symm
    unfold inF bitZ
    by_cases h:1≤n∧a≤(p:Int)+a∧(p:Int)+a - a<n
    · rw [decide_eq_false (p:=0≤(p:Int)+a∧(p:Int)+a<32) (by omega)];simp
    · rw [decide_eq_false h];simp
   rw [this];rfl
 · rw [if_neg c]
   obtain ⟨i,hi⟩:=Int.eq_ofNat_of_zero_le (show 0≤max a 0 by omega);rw [hi];obtain ⟨r,h1,h2,h3⟩:=get_loop x a n hx (32 - (i:Int)).toNat i 0 (by omega) (by omega) (by omega)
   have e:getN x a n=r:=by
    symm
    apply eq_natOf h2
    intro p hp;rw [h3 p hp,Nat.zero_testBit,Bool.false_or];unfold inF bitZ
    by_cases h:0≤(p:Int)+a∧(p:Int)+a<32
    · rw [decide_eq_true h,Bool.true_and]
      congr 1
      apply decide_eq_decide.2
      omega
    · rw [decide_eq_false h];simp
   rw [e];exact h1
theorem set_loop (x:Nat) (a n:Int) (hx:x<4294967296) (f:Nat):∀(i o:Nat),o<4294967296→a≤i→i+f=32 →
 ∃r:Nat,loopF (fun i o=>putI x i (i - a) o) a n f i o=r∧r<4294967296 ∧
  ∀p,p<32→r.testBit p=if i≤p∧(p:Int) - a<n then bitZ x (p - a) else o.testBit p:=by
 induction f with
 | zero =>
   intro i o ho ha hi;exact ⟨o,rfl,ho,fun p hp=>by rw [if_neg (by omega)]⟩
 | succ f ih =>
   intro i o ho ha hi;simp only [loopF]
   by_cases c:(i:Int) - a<n
   · rw [if_pos c]
     obtain ⟨q,hq⟩:=Int.eq_ofNat_of_zero_le (show 0≤(i:Int) - a by omega);rw [hq,putI_eq x i q o hx ho (by omega)];obtain ⟨r,h1,h2,h3⟩:=ih (i+1) (setStep x i q o) (setStep_lt ho) (by omega) (by omega);refine ⟨r,h1,h2,fun p hp=>?_⟩;rw [h3 p hp,setStep_bit hx (by omega) hp]
     by_cases e:p=i
     · subst e
       rw [if_neg (by omega),if_pos rfl,if_pos (by omega),hq];unfold bitZ;rw [Int.toNat_natCast]
       congr 1
       apply decide_eq_decide.2
       omega
     · rw [if_neg e]
       by_cases h:i≤p∧(p:Int) - a<n
       · rw [if_pos (by omega),if_pos h]
       · rw [if_neg (by omega),if_neg h]
   · rw [if_neg c]
     exact ⟨o,rfl,ho,fun p hp=>by rw [if_neg (by omega)]⟩
theorem set_math (w x:Nat) (a n:Int) (hw:w<4294967296) (hx:x<4294967296):eachR (fun i o=>putI x i (i - a) o) a n w=((setN w a n x:Nat):Int):=by
 unfold eachR
 by_cases c:n<1∨32≤a∨a ≤ -n
 · rw [if_pos c]
   have:setN w a n x=w:=by
    symm
    apply eq_natOf hw
    intro p hp
    have:inF p a n=false:=by unfold inF;exact decide_eq_false (by omega)
    simp [this]
   rw [this]
 · rw [if_neg c]
   obtain ⟨i,hi⟩:=Int.eq_ofNat_of_zero_le (show 0≤max a 0 by omega);rw [hi];obtain ⟨r,h1,h2,h3⟩:=set_loop x a n hx (32 - (i:Int)).toNat i w hw (by omega) (by omega)
   have e:setN w a n x=r:=by
    symm
    apply eq_natOf h2
    intro p hp;rw [h3 p hp];unfold inF
    by_cases h:i≤p∧(p:Int) - a<n
    · rw [if_pos h,decide_eq_true (by omega)];rfl
    · rw [if_neg h,decide_eq_false (by omega)];rfl
   rw [e];exact h1
end Go.Proofs.YtjmiaemabhlnjaaGreatDoor.FieldM
end
section
set_option linter.all false
set_option maxRecDepth 20000
namespace Go.Proofs.YtjmiaemabhlnjaaGreatDoor.Field
open Go.RowKit Go.Proofs.YtjmiaemabhlnjaaGreatDoor.FieldM
def Keeps (base B B1:Nat) (x o:Int) (w wr:World):Prop :=
 wr.cell? ⟨B,0,none⟩=some (.int .u32 o)∧wr.cell? ⟨B1,0,none⟩=some (.int .u32 x)∧wr.frozen? ⟨B,0,none⟩=false∧Below base w wr
theorem Keeps.step {base B B1:Nat} {x o:Int} {w wr:World} (h:Keeps base B B1 x o w wr) (hb:base≤B) (hne:B1≠B) (o':Int) :
 Keeps base B B1 x o' w (wr.setCell ⟨B,0,none⟩ (.int .u32 o')).drew:=by
 obtain ⟨h1,h2,h3,h4⟩:=h;refine ⟨?_,?_,?_,(h4.setCell hb _).drew⟩
 · rw [World.cell?_drew,World.cell?_setCell_same _ _ _ h1]
 · rw [World.cell?_drew,World.cell?_setCell_other _ _ _ _ (by intro e;injection e with e;exact hne e.symm)]
   exact h2
 · rw [World.frozen?_drew,World.frozen?_setCell]
   exact h3
theorem keeps_second (w:World) (T1 T2:TypeId) (x o:Int) :
 Keeps w.heap.size (w.heap.size+1) w.heap.size x o ((w.alloc (.cells #[.int .u32 x] T1)).alloc (.cells #[.int .u32 o] T2)) ((w.alloc (.cells #[.int .u32 x] T1)).alloc (.cells #[.int .u32 o] T2)):=by
 refine ⟨?_,?_,?_,Below.refl _ _⟩
 · rw [World.cell?_alloc_at _ _ _ _ (by simp)];rfl
 · rw [World.cell?_alloc_past _ _ _ (by simp),World.cell?_alloc_at _ _ _ _ rfl];rfl
 · exact World.frozen?_alloc_at _ _ _ _ (by simp)
theorem keeps_first (w:World) (T1 T2:TypeId) (x o:Int) :
 Keeps w.heap.size w.heap.size (w.heap.size+1) x o ((w.alloc (.cells #[.int .u32 o] T1)).alloc (.cells #[.int .u32 x] T2)) ((w.alloc (.cells #[.int .u32 o] T1)).alloc (.cells #[.int .u32 x] T2)):=by
 refine ⟨?_,?_,?_,Below.refl _ _⟩
 · rw [World.cell?_alloc_past _ _ _ (by simp),World.cell?_alloc_at _ _ _ _ rfl];rfl
 · rw [World.cell?_alloc_at _ _ _ _ (by simp)];rfl
 · rw [World.frozen?_alloc_past _ _ _ (by simp)]
   exact World.frozen?_alloc_at _ _ _ _ rfl
theorem below_two (w:World) (o o':Obj) {w1:World} (h:Below w.heap.size ((w.alloc o).alloc o') w1):Below w.heap.size w w1 :=
 (((Below.refl _ _).alloc (Nat.le_refl _) o).alloc (by simp) o').trans h
structure Aside (q:Prop):Prop where mk::(out:q)
set_option maxHeartbeats 800000 in
theorem cl_get (i p o x:Int) (B B1:Nat) (w:World) (hi:0≤i) (hi2:i<32) (hp:0≤p) (hB:w.cell? ⟨B,0,none⟩=some (.int .u32 o)) (hB1:w.cell? ⟨B1,0,none⟩=some (.int .u32 x)) (hf:w.frozen? ⟨B,0,none⟩=false) :
 Calls Tryz.prog 146 #[.int .i64 i,.int .i64 p,.pointer (some ⟨B,0,none⟩),.pointer (some ⟨B1,0,none⟩)] w fun e w'=>e=.returned (.tuple #[])∧w'=(w.setCell ⟨B,0,none⟩ (.int .u32 (orI x i p o))).drew:=by
 go_enter Tryz.func146,Tryz.ntmps146
 go_region
 all_goals (try go_wp2)
 all_goals go_end0
 all_goals exact ⟨rfl,rfl⟩
set_option maxHeartbeats 1600000 in
theorem each_get_hi (a n x o:Int) (base B B1:Nat) (w:World) (h1:1≤n) (h2:a<32) (h3 : -n<a) (h4:n≤9223372036854775807) (h5:0≤a)
 (hb:base≤B) (hne:B1≠B) (hk:Aside (Keeps base B B1 x o w w)) :
 Calls Tryz.prog 145 #[.int .i64 a,.int .i64 n,.func (.func 146) #[] #[.pointer (some ⟨B,0,none⟩),.pointer (some ⟨B1,0,none⟩)]] w fun e w' =>
  e=.returned (.tuple #[])∧Keeps base B B1 x (loopF (fun i o=>orI x i (i - a) o) a n (32 - a).toNat a o) w w':=by
 obtain ⟨R,hR⟩:∃R,loopF (fun i o=>orI x i (i - a) o) a n (32 - a).toNat a o=R:=⟨_,rfl⟩;have HR:=Aside.mk hR;rw [hR];clear hR;go_enter Tryz.func145,Tryz.ntmps145
 go_wp2_with fail
 go_loopw [6] (fun i wr=>∃k:Int,∃o':Int,i=.int .i64 k∧0≤k∧k≤32∧a≤k∧k - a≤n∧Aside (Keeps base B B1 x o' w wr)∧Aside (loopF (fun i o=>orI x i (i - a) o) a n (32 - k).toNat k o'=R))
  (fun i _=>32 - (intOf i).toNat)
 case atStart=>exact ⟨a,o,rfl,by omega,by omega,by omega,by omega,hk,HR⟩
 case round =>
  obtain ⟨k,o',rfl,hk0,hk1,hk2,hk3,HK,HR2⟩:=hrel
  by_cases c1:k<32
  · by_cases c2:k - a<n
    · have e1:=HK.out.1
      have e2:=HK.out.2.1;have e3:=HK.out.2.2.1
      go_wp2_with (go_at_call 146;refine (cl_get _ _ _ _ _ _ _ (by omega) (by omega) (by omega) e1 e2 e3).mono ?_;rintro e w' ⟨rfl,rfl⟩)
      go_roundw
      case rel=>exact ⟨k+1,_,rfl,by omega,by omega,by omega,by omega,⟨HK.out.step hb hne _⟩,⟨loopF_go (step:=fun i o=>orI x i (i - a) o) HR2.out c1 c2⟩⟩
      case measure=>simp [intOf];omega
    · have hend:=Aside.mk (loopF_end HR2.out (fun h=>c2 h.2))
      go_wp2
      go_end0
      rw [←hend.out];exact ⟨rfl,HK.out⟩
  · have hend:=Aside.mk (loopF_end HR2.out (fun h=>c1 h.1))
    go_wp2
    go_end0
    rw [←hend.out];exact ⟨rfl,HK.out⟩
set_option maxHeartbeats 1600000 in
theorem each_get_lo (a n x o:Int) (base B B1:Nat) (w:World) (h1:1≤n) (h2:a<32) (h3 : -n<a) (h4:n≤9223372036854775807) (h5:a<0)
 (hb:base≤B) (hne:B1≠B) (hk:Aside (Keeps base B B1 x o w w)) :
 Calls Tryz.prog 145 #[.int .i64 a,.int .i64 n,.func (.func 146) #[] #[.pointer (some ⟨B,0,none⟩),.pointer (some ⟨B1,0,none⟩)]] w fun e w' =>
  e=.returned (.tuple #[])∧Keeps base B B1 x (loopF (fun i o=>orI x i (i - a) o) a n (32 - (0:Int)).toNat 0 o) w w':=by
 obtain ⟨R,hR⟩:∃R,loopF (fun i o=>orI x i (i - a) o) a n (32 - (0:Int)).toNat 0 o=R:=⟨_,rfl⟩;have HR:=Aside.mk hR;rw [hR];clear hR;go_enter Tryz.func145,Tryz.ntmps145
 go_wp2_with fail
 go_loopw [6] (fun i wr=>∃k:Int,∃o':Int,i=.int .i64 k∧0≤k∧k≤32∧a≤k∧k - a≤n∧Aside (Keeps base B B1 x o' w wr)∧Aside (loopF (fun i o=>orI x i (i - a) o) a n (32 - k).toNat k o'=R))
  (fun i _=>32 - (intOf i).toNat)
 case atStart=>exact ⟨0,o,rfl,by omega,by omega,by omega,by omega,hk,HR⟩
 case round =>
  obtain ⟨k,o',rfl,hk0,hk1,hk2,hk3,HK,HR2⟩:=hrel
  by_cases c1:k<32
  · by_cases c2:k - a<n
    · have e1:=HK.out.1
      have e2:=HK.out.2.1;have e3:=HK.out.2.2.1
      go_wp2_with (go_at_call 146;refine (cl_get _ _ _ _ _ _ _ (by omega) (by omega) (by omega) e1 e2 e3).mono ?_;rintro e w' ⟨rfl,rfl⟩)
      go_roundw
      case rel=>exact ⟨k+1,_,rfl,by omega,by omega,by omega,by omega,⟨HK.out.step hb hne _⟩,⟨loopF_go (step:=fun i o=>orI x i (i - a) o) HR2.out c1 c2⟩⟩
      case measure=>simp [intOf];omega
    · have hend:=Aside.mk (loopF_end HR2.out (fun h=>c2 h.2))
      go_wp2
      go_end0
      rw [←hend.out];exact ⟨rfl,HK.out⟩
  · have hend:=Aside.mk (loopF_end HR2.out (fun h=>c1 h.1))
    go_wp2
    go_end0
    rw [←hend.out];exact ⟨rfl,HK.out⟩
set_option maxHeartbeats 800000 in
theorem each_get_none (a n x o:Int) (base B B1:Nat) (w:World) (h4:n≤9223372036854775807) (hc:n<1∨32≤a∨a ≤ -n) (hk:Aside (Keeps base B B1 x o w w)) :
 Calls Tryz.prog 145 #[.int .i64 a,.int .i64 n,.func (.func 146) #[] #[.pointer (some ⟨B,0,none⟩),.pointer (some ⟨B1,0,none⟩)]] w fun e w' =>
  e=.returned (.tuple #[])∧Keeps base B B1 x o w w':=by
 by_cases c1:n<1
 · clear hc
   go_enter Tryz.func145,Tryz.ntmps145;go_wp2;refine bodyPost_ret (results_none rfl _ _ _) rfl ?_;exact ⟨rfl,hk.out⟩
 · by_cases c2:32≤a
   · clear hc
     go_enter Tryz.func145,Tryz.ntmps145;go_wp2;refine bodyPost_ret (results_none rfl _ _ _) rfl ?_;exact ⟨rfl,hk.out⟩
   · have c3:a ≤ -n:=by omega
     clear hc;go_enter Tryz.func145,Tryz.ntmps145;go_wp2;refine bodyPost_ret (results_none rfl _ _ _) rfl ?_;exact ⟨rfl,hk.out⟩
theorem each_get (a n x o:Int) (base B B1:Nat) (w:World) (h4:n≤9223372036854775807) (hb:base≤B) (hne:B1≠B) (hk:Keeps base B B1 x o w w) :
 Calls Tryz.prog 145 #[.int .i64 a,.int .i64 n,.func (.func 146) #[] #[.pointer (some ⟨B,0,none⟩),.pointer (some ⟨B1,0,none⟩)]] w fun e w' =>
  e=.returned (.tuple #[])∧Keeps base B B1 x (eachR (fun i o=>orI x i (i - a) o) a n o) w w':=by
 unfold eachR
 by_cases c:n<1∨32≤a∨a ≤ -n
 · rw [if_pos c]
   exact each_get_none a n x o base B B1 w h4 c ⟨hk⟩
 · rw [if_neg c]
   by_cases h5:0≤a
   · rw [show max a 0=a by omega]
     exact each_get_hi a n x o base B B1 w (by omega) (by omega) (by omega) h4 h5 hb hne ⟨hk⟩
   · rw [show max a 0=0 by omega]
     exact each_get_lo a n x o base B B1 w (by omega) (by omega) (by omega) h4 (by omega) hb hne ⟨hk⟩
set_option maxHeartbeats 800000 in
theorem cl_set (i p o x:Int) (B B1:Nat) (w:World) (hi:0≤i) (hi2:i<32) (hp:0≤p) (hB:w.cell? ⟨B,0,none⟩=some (.int .u32 o)) (hB1:w.cell? ⟨B1,0,none⟩=some (.int .u32 x)) (hf:w.frozen? ⟨B,0,none⟩=false) :
 Calls Tryz.prog 194 #[.int .i64 i,.int .i64 p,.pointer (some ⟨B,0,none⟩),.pointer (some ⟨B1,0,none⟩)] w fun e w'=>e=.returned (.tuple #[])∧w'=(w.setCell ⟨B,0,none⟩ (.int .u32 (putI x i p o))).drew:=by
 go_enter Tryz.func194,Tryz.ntmps194
 go_region
 all_goals (try go_wp2)
 all_goals go_end0
 all_goals exact ⟨rfl,rfl⟩
set_option maxHeartbeats 1600000 in
theorem each_set_hi (a n x o:Int) (base B B1:Nat) (w:World) (h1:1≤n) (h2:a<32) (h3 : -n<a) (h4:n≤9223372036854775807) (h5:0≤a)
 (hb:base≤B) (hne:B1≠B) (hk:Aside (Keeps base B B1 x o w w)) :
 Calls Tryz.prog 145 #[.int .i64 a,.int .i64 n,.func (.func 194) #[] #[.pointer (some ⟨B,0,none⟩),.pointer (some ⟨B1,0,none⟩)]] w fun e w' =>
  e=.returned (.tuple #[])∧Keeps base B B1 x (loopF (fun i o=>putI x i (i - a) o) a n (32 - a).toNat a o) w w':=by
 obtain ⟨R,hR⟩:∃R,loopF (fun i o=>putI x i (i - a) o) a n (32 - a).toNat a o=R:=⟨_,rfl⟩;have HR:=Aside.mk hR;rw [hR];clear hR;go_enter Tryz.func145,Tryz.ntmps145
 go_wp2_with fail
 go_loopw [6] (fun i wr=>∃k:Int,∃o':Int,i=.int .i64 k∧0≤k∧k≤32∧a≤k∧k - a≤n∧Aside (Keeps base B B1 x o' w wr)∧Aside (loopF (fun i o=>putI x i (i - a) o) a n (32 - k).toNat k o'=R))
  (fun i _=>32 - (intOf i).toNat)
 case atStart=>exact ⟨a,o,rfl,by omega,by omega,by omega,by omega,hk,HR⟩
 case round =>
  obtain ⟨k,o',rfl,hk0,hk1,hk2,hk3,HK,HR2⟩:=hrel
  by_cases c1:k<32
  · by_cases c2:k - a<n
    · have e1:=HK.out.1
      have e2:=HK.out.2.1;have e3:=HK.out.2.2.1
      go_wp2_with (go_at_call 194;refine (cl_set _ _ _ _ _ _ _ (by omega) (by omega) (by omega) e1 e2 e3).mono ?_;rintro e w' ⟨rfl,rfl⟩)
      go_roundw
      case rel=>exact ⟨k+1,_,rfl,by omega,by omega,by omega,by omega,⟨HK.out.step hb hne _⟩,⟨loopF_go (step:=fun i o=>putI x i (i - a) o) HR2.out c1 c2⟩⟩
      case measure=>simp [intOf];omega
    · have hend:=Aside.mk (loopF_end HR2.out (fun h=>c2 h.2))
      go_wp2
      go_end0
      rw [←hend.out];exact ⟨rfl,HK.out⟩
  · have hend:=Aside.mk (loopF_end HR2.out (fun h=>c1 h.1))
    go_wp2
    go_end0
    rw [←hend.out];exact ⟨rfl,HK.out⟩
set_option maxHeartbeats 1600000 in
theorem each_set_lo (a n x o:Int) (base B B1:Nat) (w:World) (h1:1≤n) (h2:a<32) (h3 : -n<a) (h4:n≤9223372036854775807) (h5:a<0)
 (hb:base≤B) (hne:B1≠B) (hk:Aside (Keeps base B B1 x o w w)) :
 Calls Tryz.prog 145 #[.int .i64 a,.int .i64 n,.func (.func 194) #[] #[.pointer (some ⟨B,0,none⟩),.pointer (some ⟨B1,0,none⟩)]] w fun e w' =>
  e=.returned (.tuple #[])∧Keeps base B B1 x (loopF (fun i o=>putI x i (i - a) o) a n (32 - (0:Int)).toNat 0 o) w w':=by
 obtain ⟨R,hR⟩:∃R,loopF (fun i o=>putI x i (i - a) o) a n (32 - (0:Int)).toNat 0 o=R:=⟨_,rfl⟩;have HR:=Aside.mk hR;rw [hR];clear hR;go_enter Tryz.func145,Tryz.ntmps145
 go_wp2_with fail
 go_loopw [6] (fun i wr=>∃k:Int,∃o':Int,i=.int .i64 k∧0≤k∧k≤32∧a≤k∧k - a≤n∧Aside (Keeps base B B1 x o' w wr)∧Aside (loopF (fun i o=>putI x i (i - a) o) a n (32 - k).toNat k o'=R))
  (fun i _=>32 - (intOf i).toNat)
 case atStart=>exact ⟨0,o,rfl,by omega,by omega,by omega,by omega,hk,HR⟩
 case round =>
  obtain ⟨k,o',rfl,hk0,hk1,hk2,hk3,HK,HR2⟩:=hrel
  by_cases c1:k<32
  · by_cases c2:k - a<n
    · have e1:=HK.out.1
      have e2:=HK.out.2.1;have e3:=HK.out.2.2.1
      go_wp2_with (go_at_call 194;refine (cl_set _ _ _ _ _ _ _ (by omega) (by omega) (by omega) e1 e2 e3).mono ?_;rintro e w' ⟨rfl,rfl⟩)
      go_roundw
      case rel=>exact ⟨k+1,_,rfl,by omega,by omega,by omega,by omega,⟨HK.out.step hb hne _⟩,⟨loopF_go (step:=fun i o=>putI x i (i - a) o) HR2.out c1 c2⟩⟩
      case measure=>simp [intOf];omega
    · have hend:=Aside.mk (loopF_end HR2.out (fun h=>c2 h.2))
      go_wp2
      go_end0
      rw [←hend.out];exact ⟨rfl,HK.out⟩
  · have hend:=Aside.mk (loopF_end HR2.out (fun h=>c1 h.1))
    go_wp2
    go_end0
    rw [←hend.out];exact ⟨rfl,HK.out⟩
set_option maxHeartbeats 800000 in
theorem each_set_none (a n x o:Int) (base B B1:Nat) (w:World) (h4:n≤9223372036854775807) (hc:n<1∨32≤a∨a ≤ -n) (hk:Aside (Keeps base B B1 x o w w)) :
 Calls Tryz.prog 145 #[.int .i64 a,.int .i64 n,.func (.func 194) #[] #[.pointer (some ⟨B,0,none⟩),.pointer (some ⟨B1,0,none⟩)]] w fun e w' =>
  e=.returned (.tuple #[])∧Keeps base B B1 x o w w':=by
 by_cases c1:n<1
 · clear hc
   go_enter Tryz.func145,Tryz.ntmps145;go_wp2;refine bodyPost_ret (results_none rfl _ _ _) rfl ?_;exact ⟨rfl,hk.out⟩
 · by_cases c2:32≤a
   · clear hc
     go_enter Tryz.func145,Tryz.ntmps145;go_wp2;refine bodyPost_ret (results_none rfl _ _ _) rfl ?_;exact ⟨rfl,hk.out⟩
   · have c3:a ≤ -n:=by omega
     clear hc;go_enter Tryz.func145,Tryz.ntmps145;go_wp2;refine bodyPost_ret (results_none rfl _ _ _) rfl ?_;exact ⟨rfl,hk.out⟩
theorem each_set (a n x o:Int) (base B B1:Nat) (w:World) (h4:n≤9223372036854775807) (hb:base≤B) (hne:B1≠B) (hk:Keeps base B B1 x o w w) :
 Calls Tryz.prog 145 #[.int .i64 a,.int .i64 n,.func (.func 194) #[] #[.pointer (some ⟨B,0,none⟩),.pointer (some ⟨B1,0,none⟩)]] w fun e w' =>
  e=.returned (.tuple #[])∧Keeps base B B1 x (eachR (fun i o=>putI x i (i - a) o) a n o) w w':=by
 unfold eachR
 by_cases c:n<1∨32≤a∨a ≤ -n
 · rw [if_pos c]
   exact each_set_none a n x o base B B1 w h4 c ⟨hk⟩
 · rw [if_neg c]
   by_cases h5:0≤a
   · rw [show max a 0=a by omega]
     exact each_set_hi a n x o base B B1 w (by omega) (by omega) (by omega) h4 h5 hb hne ⟨hk⟩
   · rw [show max a 0=0 by omega]
     exact each_set_lo a n x o base B B1 w (by omega) (by omega) (by omega) h4 (by omega) hb hne ⟨hk⟩
set_option maxHeartbeats 800000 in
theorem get_raw (x a n:Int) (w:World) (h4:n≤9223372036854775807) :
 Calls Tryz.prog 113 #[.int .u32 x,.int .i64 a,.int .i64 n] w fun e w'=>e=.returned (.int .u32 (eachR (fun i o=>orI x i (i - a) o) a n 0))∧Below w.heap.size w w':=by
 have hmf:∀(fn:Fn) (first cap:Array Value) (w:World),(Instr.makeFunc fn first cap).run Tryz.prog w=.ok (.func fn first cap) w:=fun _ _ _ _=>rfl;go_enter Tryz.func113,Tryz.ntmps113
 go_wp2_with fail
 refine (each_get a n x 0 w.heap.size _ _ _ h4 (Nat.le_succ _) (by omega) (keeps_second w _ _ x 0)).mono ?_;rintro e w1 ⟨rfl,hk⟩;have hb:=Aside.mk (below_two w _ _ hk.2.2.2);have h1:=hk.1;clear hk;go_wp2;go_ret;exact ⟨rfl,hb.out⟩
theorem get_any (x:Nat) (a n:Int) (w:World) (hx:x<4294967296) (h4:n≤9223372036854775807) :
 Calls Tryz.prog 113 #[.int .u32 x,.int .i64 a,.int .i64 n] w fun e w'=>e=.returned (.int .u32 (getN x a n))∧Below w.heap.size w w':=by
 have h:=get_raw x a n w h4;rw [get_math x a n hx] at h;exact h
set_option maxHeartbeats 800000 in
theorem set_raw (o a n x:Int) (w:World) (h4:n≤9223372036854775807) :
 Calls Tryz.prog 148 #[.int .u32 o,.int .i64 a,.int .i64 n,.int .u32 x] w fun e w'=>e=.returned (.int .u32 (eachR (fun i o=>putI x i (i - a) o) a n o))∧Below w.heap.size w w':=by
 have hmf:∀(fn:Fn) (first cap:Array Value) (w:World),(Instr.makeFunc fn first cap).run Tryz.prog w=.ok (.func fn first cap) w:=fun _ _ _ _=>rfl;go_enter Tryz.func148,Tryz.ntmps148
 go_wp2_with fail
 refine (each_set a n x o w.heap.size _ _ _ h4 (Nat.le_refl _) (by omega) (keeps_first w _ _ x o)).mono ?_;rintro e w1 ⟨rfl,hk⟩;have hb:=Aside.mk (below_two w _ _ hk.2.2.2);have h1:=hk.1;clear hk;go_wp2;go_ret;exact ⟨rfl,hb.out⟩
theorem set_any (o:Nat) (a n:Int) (x:Nat) (w:World) (ho:o<4294967296) (hx:x<4294967296) (h4:n≤9223372036854775807) :
 Calls Tryz.prog 148 #[.int .u32 o,.int .i64 a,.int .i64 n,.int .u32 x] w fun e w'=>e=.returned (.int .u32 (setN o a n x))∧Below w.heap.size w w':=by
 have h:=set_raw o a n x w h4;rw [set_math o x a n ho hx] at h;exact h
def kn (n:Int):Nat:=if n<1 then 0 else if 32<n then 31 else (n - 1).toNat
theorem kn_lt (n:Int):kn n<32:=by
 unfold kn
 split
 · omega
 · split<;>omega
theorem known_any (n:Int) (w:World):Calls Tryz.prog 147 #[.int .i64 n] w fun e w'=>e=.returned (.int .i64 ((kn n:Int)+1))∧w=w':=by
 unfold kn
 by_cases h:n<1
 · rw [if_pos h]
   go_enter Tryz.func147,Tryz.ntmps147;go_wp2;go_ret;exact ⟨rfl,rfl⟩
 · rw [if_neg h]
   by_cases h2:32<n
   · rw [if_pos h2]
     go_enter Tryz.func147,Tryz.ntmps147;go_wp2;go_ret;exact ⟨rfl,rfl⟩
   · rw [if_neg h2]
     obtain ⟨m,hm⟩:=Int.eq_ofNat_of_zero_le (show 0≤n - 1 by omega)
     obtain rfl:n=(m:Int)+1:=by omega
     rw [hm,Int.toNat_natCast];clear hm;go_enter Tryz.func147,Tryz.ntmps147;go_wp2;go_ret;exact ⟨rfl,rfl⟩
def signedN (x j:Nat):Int:=if x%2 ^ (j+1)<2 ^ j then ((x%2 ^ (j+1):Nat):Int) else ((x%2 ^ (j+1):Nat):Int) - ((2 ^ (j+1):Nat):Int)
theorem signed_raw (x n:Int) (w:World) (j i:Nat) (hj:kn n=j) (hi:32 - ((j:Int)+1)=i) :
 Calls Tryz.prog 114 #[.int .u32 x,.int .i64 n] w fun e w'=>e=.returned (.int .i64 (wrap64 (wrap32 (x*2 ^ i%4294967296) / 2 ^ i)))∧w=w':=by
 have hk:=known_any n w;rw [hj] at hk;have H:=Aside.mk hk
 have hi32:i<32:=by omega
 clear hk hj;go_enter Tryz.func114,Tryz.ntmps114
 go_wp2_with (go_at_call 147;refine H.out.mono ?_;rintro e w' ⟨rfl,rfl⟩)
 go_ret;exact ⟨rfl,rfl⟩
def fitsN (v:Int) (j:Nat):Bool:=decide (-((2 ^ j:Nat):Int)≤v∧v<((2 ^ j:Nat):Int))
theorem pow_small {j:Nat} (h:j<32):0<2 ^ j∧2 ^ j≤2147483648 :=
 ⟨Nat.two_pow_pos j,Nat.pow_le_pow_right (n:=2) (j:=31) (by decide) (by omega)⟩
theorem pow_wrap {j:Nat} (h:j<33):wrap64 (2 ^ j)=((2 ^ j:Nat):Int):=by
 have h1:2 ^ j≤4294967296:=Nat.pow_le_pow_right (n:=2) (j:=32) (by decide) (by omega);have h2:=Nat.two_pow_pos j
 have e:(2:Int) ^ j=((2 ^ j:Nat):Int):=by simp
 rw [e];generalize 2 ^ j=z at *;unfold wrap64;omega
theorem rfits_any (v n:Int) (w:World):Calls Tryz.prog 111 #[.int .i64 v,.int .i64 n] w fun e w'=>e=.returned (.bool (fitsN v (kn n)))∧w=w':=by
 unfold kn fitsN
 by_cases h:n<1
 · rw [if_pos h]
   by_cases c1 : -1≤v
   · rw [show decide (-((2 ^ 0:Nat):Int)≤v∧v<((2 ^ 0:Nat):Int))=decide (v<1) by apply decide_eq_decide.2;omega]
     go_enter Tryz.func111,Tryz.ntmps111;go_wp2;go_ret;exact ⟨rfl,rfl⟩
   · rw [show decide (-((2 ^ 0:Nat):Int)≤v∧v<((2 ^ 0:Nat):Int))=false by apply decide_eq_false;omega]
     go_enter Tryz.func111,Tryz.ntmps111;go_wp2;go_ret;exact ⟨rfl,rfl⟩
 · rw [if_neg h]
   by_cases h2:32<n
   · rw [if_pos h2]
     by_cases c1 : -2147483648≤v
     · rw [show decide (-((2 ^ 31:Nat):Int)≤v∧v<((2 ^ 31:Nat):Int))=decide (v<2147483648) by apply decide_eq_decide.2;omega]
       go_enter Tryz.func111,Tryz.ntmps111;go_wp2;go_ret;exact ⟨rfl,rfl⟩
     · rw [show decide (-((2 ^ 31:Nat):Int)≤v∧v<((2 ^ 31:Nat):Int))=false by apply decide_eq_false;omega]
       go_enter Tryz.func111,Tryz.ntmps111;go_wp2;go_ret;exact ⟨rfl,rfl⟩
   · rw [if_neg h2]
     obtain ⟨m,hm⟩:=Int.eq_ofNat_of_zero_le (show 0≤n - 1 by omega)
     obtain rfl:n=(m:Int)+1:=by omega
     rw [hm,Int.toNat_natCast];clear hm
     have hl:m<32:=by omega
     have hp:=pow_wrap (j:=m) (by omega);have hq:=pow_small hl
     have hn:wrap64 (-2 ^ m) = -((2 ^ m:Nat):Int):=by
      have e:(2:Int) ^ m=((2 ^ m:Nat):Int):=by simp
      rw [e];generalize 2 ^ m=z at *;unfold wrap64;omega
     generalize 2 ^ m=z at hp hq hn ⊢
     by_cases c1 : -(z:Int)≤v
     · rw [show decide (-(z:Int)≤v∧v<(z:Int))=decide (v<(z:Int)) by apply decide_eq_decide.2;omega]
       go_enter Tryz.func111,Tryz.ntmps111;go_wp2
       all_goals go_ret
       exact ⟨rfl,rfl⟩
     · rw [show decide (-(z:Int)≤v∧v<(z:Int))=false by apply decide_eq_false;omega]
       go_enter Tryz.func111,Tryz.ntmps111;go_wp2
       all_goals go_ret
       exact ⟨rfl,rfl⟩
theorem mod_pow_nat (x k:Nat):(x:Int)%((2 ^ k:Nat):Int)=((x%2 ^ k:Nat):Int):=by simp
theorem rs_high (x n:Int) (w:World) (c0:0≤x) (c1:x<4294967296) (h2:32<n):Calls Tryz.prog 77 #[.int .u32 x,.int .i64 n] w fun e w' =>
 e=.returned (.int .i64 (if x%4294967296<2147483648 then x%4294967296 else x%4294967296 - 4294967296))∧w=w':=by
 by_cases c:x%4294967296<2147483648
 · rw [if_pos c]
   go_enter Tryz.func77,Tryz.ntmps77;go_wp2;go_ret;exact ⟨rfl,rfl⟩
 · rw [if_neg c]
   go_enter Tryz.func77,Tryz.ntmps77;go_wp2;go_ret;exact ⟨rfl,rfl⟩
theorem rsigned_any (x:Nat) (n:Int) (w:World) (_hx:x<4294967296):Calls Tryz.prog 77 #[.int .u32 x,.int .i64 n] w fun e w'=>e=.returned (.int .i64 (signedN x (kn n)))∧w=w':=by
 unfold kn signedN
 by_cases h:n<1
 · rw [if_pos h]
   by_cases c:x%2 ^ (0+1)<2 ^ 0
   · rw [if_pos c]
     have c2:(x:Int)%2=0:=by omega
     have e:((x%2 ^ (0+1):Nat):Int)=0:=by omega
     rw [e];clear c e;go_enter Tryz.func77,Tryz.ntmps77;go_wp2;go_ret;exact ⟨congrArg (fun z=>Ending.returned (.int .i64 z)) c2,rfl⟩
   · rw [if_neg c]
     have c2:(x:Int)%2=1:=by omega
     have e:((x%2 ^ (0+1):Nat):Int) - ((2 ^ (0+1):Nat):Int) = -1:=by omega
     rw [e];clear c e;go_enter Tryz.func77,Tryz.ntmps77;go_wp2;go_ret;exact ⟨rfl,rfl⟩
 · rw [if_neg h]
   by_cases h2:32<n
   · rw [if_pos h2]
     have hm:x%2 ^ (31+1)=x:=Nat.mod_eq_of_lt _hx;rw [hm,show (2:Nat) ^ 31=2147483648 from by decide,show (2:Nat) ^ (31+1)=4294967296 from by decide]
     have hx0:(x:Int)<4294967296:=by omega
     have e:=rs_high x n w (by omega) hx0 h2;rw [show (x:Int)%4294967296=x by omega] at e
     by_cases c:x<2147483648
     · rw [if_pos c]
       rw [if_pos (by omega)] at e;exact e
     · rw [if_neg c]
       rw [if_neg (by omega)] at e;exact e
   · rw [if_neg h2]
     obtain ⟨m,hm⟩:=Int.eq_ofNat_of_zero_le (show 0≤n - 1 by omega)
     obtain rfl:n=(m:Int)+1:=by omega
     rw [hm,Int.toNat_natCast];clear hm
     have hl:m<32:=by omega
     have hp:=pow_wrap (j:=m) (by omega);have hp1:=pow_wrap (j:=m+1) (by omega);have hq:=pow_small hl;have hy:=mod_pow_nat x (m+1);have hlt:x%2 ^ (m+1)<2 ^ (m+1):=Nat.mod_lt _ (Nat.two_pow_pos _)
     have hd:2 ^ (m+1)=2 ^ m+2 ^ m:=by rw [Nat.pow_succ];omega
     generalize x%2 ^ (m+1)=y at hy hlt ⊢;generalize 2 ^ (m+1)=z2 at hp1 hy hlt hd ⊢;generalize 2 ^ m=z at hp hq hd ⊢;have HD:=Aside.mk hd
     have hz2:2≤z2∧z2≤4294967296:=by omega
     clear hd
     by_cases c:y<z
     · rw [if_pos c]
       go_enter Tryz.func77,Tryz.ntmps77;go_wp2;go_ret;exact ⟨rfl,rfl⟩
     · rw [if_neg c]
       go_enter Tryz.func77,Tryz.ntmps77;go_wp2;go_ret;exact ⟨rfl,rfl⟩
theorem shift_back (x j i:Nat) (hj:j<32) (hi:32 - ((j:Int)+1)=i):wrap64 (wrap32 ((x:Int)*2 ^ i%4294967296) / 2 ^ i)=signedN x j:=by
 have ei:i+(j+1)=32:=by omega
 have e0:(2:Nat) ^ i*2 ^ (j+1)=4294967296:=by rw [←Nat.pow_add,ei]
 have hpi:(2:Int) ^ i=((2 ^ i:Nat):Int):=by simp
 have hdd:2 ^ (j+1)=2 ^ j+2 ^ j:=by rw [Nat.pow_succ];omega
 have hpos:=Nat.two_pow_pos i
 have hm:x*2 ^ i%4294967296=2 ^ i*(x%2 ^ (j+1)):=by
  rw [←e0,Nat.mul_comm x,Nat.mul_mod_mul_left]
 have e1:(x:Int)*2 ^ i%4294967296=((2 ^ i*(x%2 ^ (j+1)):Nat):Int):=by
  rw [←hm,hpi];omega
 have hlt:x%2 ^ (j+1)<2 ^ (j+1):=Nat.mod_lt _ (Nat.two_pow_pos _)
 have e2:2 ^ i*2 ^ j=2147483648:=by
  rw [hdd,Nat.mul_add] at e0;omega
 have hb:2 ^ (j+1)≤4294967296:=Nat.pow_le_pow_right (n:=2) (j:=32) (by decide) (by omega);rw [e1,hpi];unfold signedN;generalize x%2 ^ (j+1)=y at *;generalize 2 ^ (j+1)=z2 at *;generalize 2 ^ j=z at *;generalize 2 ^ i=p at *
 have hpp:(0:Int)<p:=by omega
 by_cases c:y<z
 · rw [if_pos c]
   have h1:p*(y+1)≤p*z:=Nat.mul_le_mul_left p (by omega);rw [Nat.mul_add] at h1
   have h2:wrap32 ((p*y:Nat):Int)=(p:Int)*(y:Int):=by
    rw [←Int.natCast_mul];unfold wrap32;omega
   rw [h2,Int.mul_ediv_cancel_left _ (by omega)];unfold wrap64;omega
 · rw [if_neg c]
   have h1:p*z≤p*y:=Nat.mul_le_mul_left p (by omega);have h3:p*(y+1)≤p*z2:=Nat.mul_le_mul_left p (by omega);rw [Nat.mul_add] at h3
   have h2:wrap32 ((p*y:Nat):Int)=(p:Int)*((y:Int) - (z2:Int)):=by
    rw [Int.mul_sub,←Int.natCast_mul,←Int.natCast_mul,e0];unfold wrap32;omega
   rw [h2,Int.mul_ediv_cancel_left _ (by omega)];unfold wrap64;omega
theorem signed_any (x:Nat) (n:Int) (w:World):Calls Tryz.prog 114 #[.int .u32 x,.int .i64 n] w fun e w'=>e=.returned (.int .i64 (signedN x (kn n)))∧w=w':=by
 have hl:=kn_lt n;obtain ⟨i,hi⟩:=Int.eq_ofNat_of_zero_le (show 0≤32 - ((kn n:Int)+1) by omega);have h:=signed_raw x n w (kn n) i rfl hi;rw [shift_back x (kn n) i hl hi] at h;exact h
end Go.Proofs.YtjmiaemabhlnjaaGreatDoor.Field
end
section
set_option linter.all false
set_option maxRecDepth 20000
namespace Go.Proofs.YtjmiaemabhlnjaaGreatDoor.Isa
open Go.RowKit Go.Proofs.YtjmiaemabhlnjaaGreatDoor.FieldM Go.Proofs.YtjmiaemabhlnjaaGreatDoor.Field
structure Bl (W w:World):Prop where mk::(out:Below W.heap.size W w)
theorem Bl.then {W w w':World} (h:Bl W w) (k:Below w.heap.size w w'):Bl W w' :=
 ⟨h.out.trans ⟨k.os,k.tape,k.output,k.size,fun i hi=>k.block i (Nat.lt_of_lt_of_le hi h.out.size)⟩⟩
theorem Bl.drew {W w:World} (h:Bl W w):Bl W w.drew:=⟨h.out.drew⟩
theorem Bl.alloc {W w:World} (h:Bl W w) (o:Obj):Bl W (w.alloc o):=⟨h.out.alloc h.out.size o⟩
theorem Bl.refl (W:World):Bl W W:=⟨Below.refl _ _⟩
theorem Bl.cell {W w:World} (h:Bl W w) {a:Addr} {v:Value} (hc:W.cell? a=some v):w.cell? a=some v :=
 (h.out.cell (World.block_lt_of_cell? W a hc)).trans hc
theorem bit_any (u:Bool) (w:World):Calls Tryz.prog 149 #[.bool u] w fun e w'=>e=.returned (.int .u32 (if u then 1 else 0))∧w=w':=by
 cases u
 · go_enter Tryz.func149,Tryz.ntmps149
   go_wp2;go_ret;exact ⟨rfl,rfl⟩
 · go_enter Tryz.func149,Tryz.ntmps149
   go_wp2;go_ret;exact ⟨rfl,rfl⟩
def layN:List (Int×Int×Int)→Nat→Nat
 | [],o=>o
 | f::r,o=>layN r (setN o f.1 f.2.1 (f.2.2%4294967296).toNat)
theorem layN_lt:∀(L:List (Int×Int×Int)) (o:Nat),o<4294967296→layN L o<4294967296
 | [],_,h=>h
 | _::r,_,_=>layN_lt r _ (setN_lt _ _ _ _)
def RowAt (w:World) (B:Nat) (L:List (Int×Int×Int)):Prop :=
 ∀k f,L[k]? = some f→w.cell? ⟨B,k*3,none⟩=some (.int .i64 f.1)∧w.cell? ⟨B,k*3+1,none⟩=some (.int .i64 f.2.1)∧w.cell? ⟨B,k*3+2,none⟩=some (.int .i64 f.2.2)
theorem toNat_mod (x:Int):x%4294967296=((x%4294967296).toNat:Int)∧(x%4294967296).toNat<4294967296:=by omega
set_option maxHeartbeats 1600000 in
theorem lay_raw (L:List (Int×Int×Int)) (B n c R:Nat) (w:World) (hn:n<100) (hL:Field.Aside (L.length=n)) (hR:Field.Aside (layN L 0=R)) (hbig:Field.Aside (∀f,f∈L→f.2.1≤9223372036854775807))
 (hrow:Field.Aside (RowAt w B L)) :
 Calls Tryz.prog 116 #[.slice (some ⟨B,0,none⟩) n c] w fun e w'=>e=.returned (.int .u32 R)∧Bl w w':=by
 go_enter Tryz.func116,Tryz.ntmps116
 go_wp2_with fail
 go_loopw [3,8] (fun o i wr=>∃k t:Nat,i=.int .i64 k∧o=.int .u32 t∧k≤n∧Field.Aside (t<4294967296)∧Field.Aside (layN (L.drop k) t=R)∧Field.Aside (Bl w wr)) (fun _ i _=>n - (intOf i).toNat)
 case atStart=>exact ⟨0,0,rfl,rfl,by omega,⟨by omega⟩,hR,⟨Bl.refl _⟩⟩
 case round =>
  obtain ⟨k,t,rfl,rfl,hk,HT,HR,HB⟩:=hrel
  by_cases c0:k<n
  · obtain ⟨⟨x0,x1,x2⟩,hf⟩:∃f,L[k]? = some f:=⟨_,List.getElem?_eq_getElem (by have:=hL.out;omega)⟩
    have hd:L.drop k=(x0,x1,x2)::L.drop (k+1):=by
     obtain ⟨hlt,he⟩:=List.getElem?_eq_some_iff.1 hf;rw [List.drop_eq_getElem_cons hlt,he]
    have hx1:x1≤9223372036854775807:=hbig.out _ (List.mem_of_getElem? hf);obtain ⟨d0,d1,d2⟩:=hrow.out k _ hf;have e0:wr.cell? ⟨B,k*3,none⟩=some (.int .i64 x0):=HB.out.cell d0;have e1:wr.cell? ⟨B,k*3+1,none⟩=some (.int .i64 x1):=HB.out.cell d1;have e2:wr.cell? ⟨B,k*3+2,none⟩=some (.int .i64 x2):=HB.out.cell d2;have HN:Field.Aside (layN (L.drop (k+1)) (setN t x0 x1 (x2%4294967296).toNat)=R):=⟨by have:=HR.out;rw [hd] at this;exact this⟩
    have hlt:setN t x0 x1 (x2%4294967296).toNat<4294967296:=setN_lt _ _ _ _;have HS:=Field.Aside.mk fun (wx:World)=>set_any t x0 x1 (x2%4294967296).toNat wx HT.out (toNat_mod x2).2 hx1;rw [←(toNat_mod x2).1] at HS;generalize setN t x0 x1 (x2%4294967296).toNat=t2 at HN hlt HS;have HL2:=Field.Aside.mk hlt;clear hd d0 d1 d2 hf hlt
    go_wp2_with (go_at_call 148;(with_reducible refine (HS.out _).mono ?_);rintro e w1 ⟨rfl,hb⟩)
    go_roundw
    case rel=>exact ⟨k+1,t2,by simp,rfl,by omega,HL2,HN,⟨(HB.out.alloc _).then hb⟩⟩
    case measure=>simp [intOf];omega
  · have he:t=R:=by
     have:=HR.out;rw [List.drop_eq_nil_of_le (by have:=hL.out;omega)] at this;exact this
    have HE:=Field.Aside.mk he;go_wp2;go_ret;exact ⟨by rw [←HE.out];rfl,HB.out⟩
theorem lay_any (L:List (Int×Int×Int)) (B n c:Nat) (w:World) (hn:n<100) (hL:L.length=n) (hbig:∀f,f∈L→f.2.1≤9223372036854775807) (hrow:RowAt w B L) :
 Calls Tryz.prog 116 #[.slice (some ⟨B,0,none⟩) n c] w fun e w'=>e=.returned (.int .u32 (layN L 0))∧Bl w w' :=
 lay_raw L B n c _ w hn ⟨hL⟩ ⟨rfl⟩ ⟨hbig⟩ ⟨hrow⟩
def b2i (u:Bool):Int:=if u then 1 else 0
theorem or_head (f:Int) (hf:f=0∨f=1∨f=2∨f=3) (u v:Bool):bits .or .i64 (bits .or .i64 (f*4) (b2i u*2)) (b2i v)=f*4+b2i u*2+b2i v:=by
 rcases hf with rfl | rfl | rfl | rfl<;>cases u<;>cases v<;>decide +kernel
set_option maxHeartbeats 1600000 in
theorem head_any (f:Int) (u v:Bool) (w:World) (hf:f=0∨f=1∨f=2∨f=3) :
 Calls Tryz.prog 117 #[.int .i64 f,.bool u,.bool v] w fun e w'=>e=.returned (.agg #[.int .i64 28,.int .i64 4,.int .i64 (f*4+b2i u*2+b2i v)])∧Bl w w':=by
 have ho:=or_head f hf u v;have HU:Field.Aside (∀wx:World,Calls Tryz.prog 149 #[.bool u] wx fun e w'=>e=.returned (.int .u32 (b2i u))∧wx=w'):=⟨fun wx=>bit_any u wx⟩;have HV:Field.Aside (∀wx:World,Calls Tryz.prog 149 #[.bool v] wx fun e w'=>e=.returned (.int .u32 (b2i v))∧wx=w'):=⟨fun wx=>bit_any v wx⟩
 have hu:0≤b2i u∧b2i u≤1:=by unfold b2i;cases u<;>simp
 have hv:0≤b2i v∧b2i v≤1:=by unfold b2i;cases v<;>simp
 generalize b2i u=p at *;generalize b2i v=q at *;obtain ⟨hu0,hu1⟩:=hu;obtain ⟨hv0,hv1⟩:=hv
 have f0:0≤f∧f≤3:=by omega
 obtain ⟨hf0,hf1⟩:=f0;have HO:=Field.Aside.mk ho;clear hf ho;go_enter Tryz.func117,Tryz.ntmps117
 go_wp2_with (go_at_call 149;(first | (with_reducible refine (HU.out _).mono ?_) | (with_reducible refine (HV.out _).mono ?_));rintro e w1 ⟨rfl,rfl⟩)
 exact bodyPost_ret (v:=.agg #[.int .i64 28,.int .i64 4,.int .i64 (bits .or .i64 (bits .or .i64 (f*4) (p*2)) q)]) (by simp [results,Tryz.results117,go_sem]) rfl ⟨by rw [HO.out],(Bl.refl _).alloc _⟩
end Go.Proofs.YtjmiaemabhlnjaaGreatDoor.Isa
end
