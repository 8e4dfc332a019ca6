/- A part of the proof of TopShifts. -/
import Derived.Test.YtjmiaemabhlnjaaGreatDoorQ0
import Derived.Test.YtjmiaemabhlnjaaGreatDoorQ1
import Derived.Deep.QuietTactic
import Derived.LoopN
import Derived.Deep.WholeRow
import Derived.Deep.MidRow
import Derived.Deep.RegionHeld3
section
set_option linter.all false
set_option maxRecDepth 20000
namespace Go.Proofs.YtjmiaemabhlnjaaGreatDoor.Chains.Shifts
open Go Go.RowKit Go.Proofs.YtjmiaemabhlnjaaGreatDoor.Chains
theorem and_le (a:Int) (m:Nat) (hm:m≤1000):∃r:Nat,r≤m∧bits .and .i64 a (m:Int)=(r:Int):=by
 have h1:(BitVec.ofInt 64 a &&& BitVec.ofInt 64 (m:Int)).toNat≤m:=by
  rw [BitVec.toNat_and];refine Nat.le_trans Nat.and_le_right ?_;rw [BitVec.ofInt_natCast,BitVec.toNat_ofNat];exact Nat.mod_le _ _
 refine ⟨_,h1,?_⟩
 show IntKind.i64.wrap (((BitVec.ofInt 64 a &&& BitVec.ofInt 64 (m:Int)).toNat:Nat):Int)=_
 generalize (BitVec.ofInt 64 a &&& BitVec.ofInt 64 (m:Int)).toNat=r at h1;rw [IntKind.wrap_i64];omega
theorem fit_place {w:World} (xb xm fl:Int) {A:Option Addr} {n c k i q:Nat} (hk:k≤40) (hn:n≤c) (hnil:A=none→n=0∧c=0) (h63:n≤9223372036854775807) (hi:bits .and .i64 xb 31=(i:Int)) (hil:i≤31) (hq:bits .and .i64 xm 15=(q:Int)) (hql:q≤15) :
 Calls Tryz.prog 19 #[.agg #[.int .i64 xb,.int .i64 xm,.slice A n c,.int .u8 fl],.int .i64 (k:Int)] w fun e w'=>∃z,e=.returned (.tuple #[.int .i64 ((4*i:Nat):Int),z,.slice A (min n 20) c])∧Bl w w':=by
 obtain ⟨m,hmin,hm20,hmn⟩:∃m:Nat,min (n:Int) 20=m∧m≤20∧m≤n:=⟨min n 20,by omega,by omega,by omega⟩
 have hmm:min n 20=m:=by omega
 rw [hmm];have hsl:∀wx,(Instr.slice 22 (.slice A n c) none (some (.int .i64 (m:Int))) none).run Tryz.prog wx=.ok (.slice A m c) wx:=slice_u32 hmn hn hnil
 have e1:wrap64 (4*(i:Int))=4*(i:Int):=by simp [wrap64,IntKind.wrap,IntKind.bits,IntKind.signed];omega
 have e2:IntKind.i64.wrap (4*(i:Int))=4*(i:Int):=by simp [IntKind.wrap,IntKind.bits,IntKind.signed];omega
 have e3:(4*(i:Int)).tdiv 4=(i:Int):=by rw [Int.tdiv_eq_ediv_of_nonneg (by omega)];omega
 have e4:IntKind.i64.wrap ((i:Int)+(k:Int))=(i:Int)+(k:Int):=by simp [IntKind.wrap,IntKind.bits,IntKind.signed];omega
 have e5:IntKind.i64.wrap ((i:Int)+(k:Int)+(q:Int))=(i:Int)+(k:Int)+(q:Int):=by simp [IntKind.wrap,IntKind.bits,IntKind.signed];omega
 have e6:((4*i:Nat):Int)=4*(i:Int):=by omega
 rw [e6];clear hmm;go_enter Tryz.func19,Tryz.ntmps19
 go_wp2_with fail
 go_quiet (fail)
 go_wp2
 go_ret3
 exact ⟨_,rfl,((Bl.refl w).alloc _).dN⟩
theorem reads_any {op:Nat} (h:op≤15) (w:World):Calls Tryz.prog 49 #[.int .i64 (op:Int)] w fun e w'=>e=.returned (.bool (!decide (op%8=7)))∧w'=w:=by
 have hop:op=0∨op=1∨op=2∨op=3∨op=4∨op=5∨op=6∨op=7∨op=8∨op=9∨op=10∨op=11∨op=12∨op=13∨op=14∨op=15:=by omega
 rcases hop with rfl | rfl | rfl | rfl | rfl | rfl | rfl | rfl | rfl | rfl | rfl | rfl | rfl | rfl | rfl | rfl<;>(go_enter Tryz.func49,Tryz.ntmps49;go_wp2;go_ret;exact ⟨rfl,rfl⟩)
theorem same_w {w:World} {A B:Option Addr} {c d n:Nat} {l:List Nat} (h:RdW w A c l) (k:RdW w B d l) (hn:l.length=n) (hb:n≤1000) :
 Calls Tryz.prog 53 #[.slice A n c,.slice B n d] w fun e w'=>e=.returned (.bool true)∧Bl w w':=by
 have HH:=Aside.mk h;have HK:=Aside.mk k;have HN:=Aside.mk hn;clear h k hn;go_enter Tryz.func53,Tryz.ntmps53
 go_wp2_with fail
 go_loopw [5] (fun i wr=>Aside (Bl w wr)∧∃k:Nat,i=.int .i64 k∧k≤n) (fun i _=>n - (intOf i).toNat)
 case atStart=>exact ⟨⟨Bl.refl _⟩,0,rfl,by omega⟩
 case round =>
  obtain ⟨HB,j,rfl,hj⟩:=hrel
  by_cases hlt:j<n
  · obtain ⟨ad,rfl⟩:∃ad,A=some ad:=by
     cases A with
     | some ad=>exact ⟨ad,rfl⟩
     | none =>
       have:=(HH.out.nil rfl).1;have h2:=HN.out;rw [this] at h2;simp at h2;omega
    obtain ⟨bd,rfl⟩:∃ad,B=some ad:=by
     cases B with
     | some ad=>exact ⟨ad,rfl⟩
     | none =>
       have:=(HK.out.nil rfl).1;have h2:=HN.out;rw [this] at h2;simp at h2;omega
    have hc:n≤c:=by have:=HH.out.le;have:=HN.out;omega
    have hd:n≤d:=by have:=HK.out.le;have:=HN.out;omega
    obtain ⟨x,hf⟩:∃f,l[j]? = some f:=⟨_,List.getElem?_eq_getElem (by have:=HN.out;omega)⟩;have e0:=HB.out.cell (HH.out.cells ad rfl j x hf);have f0:=HB.out.cell (HK.out.cells bd rfl j x hf);clear hf
    go_wp2_with fail
    go_quiet (fail)
    generalize hK:World.drewN _ _=Wc;have HC:Aside (Bl w Wc):=⟨by rw [←hK];exact HB.out.dN⟩;clear hK;go_wp2
    go_roundw
    case rel=>exact ⟨HC,j+1,by go_num,by omega⟩
    case measure=>simp [intOf];omega
  · go_wp2
    go_ret;exact ⟨rfl,HB.out⟩
def flN (N Z C V:Bool):Nat:=N.toNat*2147483648+Z.toNat*1073741824+C.toNat*536870912+V.toNat*268435456
theorem idf_0 (b0 b1 b2 b3:Bool) (w:World):(Instr.index 240 (.agg #[.bool b0,.bool b1,.bool b2,.bool b3]) (.int .i64 0)).run Tryz.prog w=.ok (.bool b0) w:=by kernel_rfl
theorem idf_1 (b0 b1 b2 b3:Bool) (w:World):(Instr.index 240 (.agg #[.bool b0,.bool b1,.bool b2,.bool b3]) (.int .i64 1)).run Tryz.prog w=.ok (.bool b1) w:=by kernel_rfl
theorem idf_2 (b0 b1 b2 b3:Bool) (w:World):(Instr.index 240 (.agg #[.bool b0,.bool b1,.bool b2,.bool b3]) (.int .i64 2)).run Tryz.prog w=.ok (.bool b2) w:=by kernel_rfl
theorem idf_3 (b0 b1 b2 b3:Bool) (w:World):(Instr.index 240 (.agg #[.bool b0,.bool b1,.bool b2,.bool b3]) (.int .i64 3)).run Tryz.prog w=.ok (.bool b3) w:=by kernel_rfl
set_option maxHeartbeats 2000000 in
theorem flags_0 (RV:Array Value) (N Z C V:Bool) (h17:RV[17]? = some (.bool N)) (h18:RV[18]? = some (.bool Z)) (h19:RV[19]? = some (.bool C)) (h20:RV[20]? = some (.bool V)) (w:World) :
 Calls Tryz.prog 121 #[.agg RV] w fun e w'=>e=.returned (.int .u32 (flN N Z C V:Nat))∧Bl w w':=by
 have i0:=idf_0;have i1:=idf_1;have i2:=idf_2;have i3:=idf_3
 cases N<;>cases Z<;>cases C<;>cases V<;>(go_enter Tryz.func121,Tryz.ntmps121;go_wp2;refine wp_loop_rounds 5 ?_;rw [rounds_succ];go_wp2;rw [rounds_succ];go_wp2;rw [rounds_succ];go_wp2;rw [rounds_succ];go_wp2;rw [rounds_succ];go_wp2;go_ret;refine ⟨?_,(Bl.refl w).alloc _⟩;first | rfl | kernel_rfl | trace_state)
abbrev Gives (f:FuncId) (args:Array Value) (v:Value):Prop:=∀w,Calls Tryz.prog f args w fun e w'=>e=.returned v∧Bl w w'
theorem bits_r (op:BinOp) (x y:Int):∃z:Nat,z<4294967296∧(z:Int)=bits op .u32 x y:=by
 have:0≤bits op .u32 x y∧bits op .u32 x y<4294967296:=by
  unfold bits
  split<;>(simp [IntKind.wrap,IntKind.max,IntKind.min,IntKind.signed,IntKind.bits];omega)
 exact ⟨(bits op .u32 x y).toNat,by omega,by omega⟩
theorem nat_mod (z:Int):∃x:Nat,x<4294967296∧(x:Int)=z%4294967296:=⟨(z%4294967296).toNat,by omega,by omega⟩
theorem shift_1 (a n:Nat) (ha:a<4294967296) (hn:n<4294967296):∃x:Nat,x<4294967296∧Gives 153 #[.int .i64 1,.int .u32 (a:Int),.int .u32 (n:Int)] (.int .u32 (x:Int)):=by
 obtain ⟨x,hx,e⟩:=nat_mod ((a:Int)*2 ^ (n%32));refine ⟨x,hx,fun w=>?_⟩;rw [e];go_enter Tryz.func153,Tryz.ntmps153;go_wp2;go_ret;exact ⟨rfl,Bl.refl _⟩
theorem shift_2 (a n:Nat) (ha:a<4294967296) (hn:n<4294967296):∃x:Nat,x<4294967296∧Gives 153 #[.int .i64 2,.int .u32 (a:Int),.int .u32 (n:Int)] (.int .u32 (x:Int)):=by
 obtain ⟨x,hx,e⟩:=nat_mod (wrap32 (a:Int) / 2 ^ (n%32));refine ⟨x,hx,fun w=>?_⟩;rw [e];go_enter Tryz.func153,Tryz.ntmps153;go_wp2;go_ret;exact ⟨rfl,Bl.refl _⟩
theorem rot (a k:Nat) (hk:k<32):∃x:Nat,x<4294967296∧Gives 196 #[.int .u32 (a:Int),.int .i64 (-(k:Int))] (.int .u32 (x:Int)):=by
 have e0:0≤bits .and .u64 (IntKind.u64.wrap (-(k:Int))) 31∧bits .and .u64 (IntKind.u64.wrap (-(k:Int))) 31<32:=by
  have:∀j:Fin 32,0≤bits .and .u64 (IntKind.u64.wrap (-((j.val:Nat):Int))) 31∧bits .and .u64 (IntKind.u64.wrap (-((j.val:Nat):Int))) 31<32:=by decide +kernel
  exact this ⟨k,hk⟩
 obtain ⟨x,hx,e⟩:=bits_r .or ((a:Int)*2 ^ (bits .and .u64 (IntKind.u64.wrap (-(k:Int))) 31).toNat%4294967296) ((a:Int) / 2 ^ (32 - bits .and .u64 (IntKind.u64.wrap (-(k:Int))) 31).toNat);refine ⟨x,hx,fun w=>?_⟩;rw [e];go_enter Tryz.func196,Tryz.ntmps196;go_wp2;go_ret;exact ⟨rfl,Bl.refl _⟩
theorem shift_3 (a n:Nat) (ha:a<4294967296) (hn:n<4294967296):∃x:Nat,x<4294967296∧Gives 153 #[.int .i64 3,.int .u32 (a:Int),.int .u32 (n:Int)] (.int .u32 (x:Int)):=by
 obtain ⟨x,h0,hx⟩:=rot a (n%32) (by omega)
 push_cast at hx
 have HX:=Aside.mk hx;clear hx;refine ⟨x,h0,fun w=>?_⟩;go_enter Tryz.func153,Tryz.ntmps153
 go_wp2_with (go_at_call 196;with_reducible refine (HX.out _).mono ?_;rintro e w1 ⟨rfl,hb⟩)
 go_ret;exact ⟨rfl,hb⟩
theorem mul_t (a n:Nat) (ha:a<4294967296) (hn:n<4294967296):∃x y:Nat,x<4294967296∧y<4294967296∧Gives 164 #[.int .u32 (a:Int),.int .u32 (n:Int),.bool true] (.tuple #[.int .u32 (x:Int),.int .u32 (y:Int)]):=by
 obtain ⟨x,hx,e⟩:=nat_mod (IntKind.u64.wrap ((a:Int)*n));obtain ⟨y,hy,e2⟩:=nat_mod (IntKind.u64.wrap ((a:Int)*n) / 4294967296);refine ⟨x,y,hx,hy,fun w=>?_⟩;rw [e,e2];go_enter Tryz.func164,Tryz.ntmps164;go_wp2;go_ret2;exact ⟨rfl,Bl.refl _⟩
theorem mul_f (a n:Nat) (ha:a<4294967296) (hn:n<4294967296):∃x y:Nat,x<4294967296∧y<4294967296∧Gives 164 #[.int .u32 (a:Int),.int .u32 (n:Int),.bool false] (.tuple #[.int .u32 (x:Int),.int .u32 (y:Int)]):=by
 obtain ⟨x,hx,e⟩:=nat_mod (IntKind.u64.wrap (wrap64 (wrap64 (wrap32 (a:Int))*wrap64 (wrap32 (n:Int)))));obtain ⟨y,hy,e2⟩:=nat_mod (IntKind.u64.wrap (wrap64 (wrap64 (wrap32 (a:Int))*wrap64 (wrap32 (n:Int)))) / 4294967296);refine ⟨x,y,hx,hy,fun w=>?_⟩;rw [e,e2];go_enter Tryz.func164,Tryz.ntmps164;go_wp2;go_ret2;exact ⟨rfl,Bl.refl _⟩
theorem div_any (a n:Nat) (ha:a<4294967296) (hn:n<4294967296):∃(x y:Nat) (ok:Bool),x<4294967296∧y<4294967296∧Gives 166 #[.int .u32 (a:Int),.int .u32 (n:Int)] (.tuple #[.int .u32 (x:Int),.int .u32 (y:Int),.bool ok]):=by
 by_cases h:wrap64 (wrap32 (n:Int))≤0
 · refine ⟨0,0,false,by decide,by decide,fun w=>?_⟩
   go_enter Tryz.func166,Tryz.ntmps166;go_wp2
   go_ret3
   exact ⟨rfl,Bl.refl _⟩
 · have h0:0<wrap64 (wrap32 (n:Int)):=by omega
   by_cases h2:(wrap64 (wrap32 (a:Int))).tmod (wrap64 (wrap32 (n:Int)))<0
   · obtain ⟨x,hx,e⟩:=nat_mod (wrap64 (wrap64 ((wrap64 (wrap32 (a:Int))).tdiv (wrap64 (wrap32 (n:Int)))) - 1))
     obtain ⟨y,hy,e2⟩:=nat_mod (wrap64 ((wrap64 (wrap32 (a:Int))).tmod (wrap64 (wrap32 (n:Int)))+wrap64 (wrap32 (n:Int))));refine ⟨x,y,true,hx,hy,fun w=>?_⟩;rw [e,e2];go_enter Tryz.func166,Tryz.ntmps166;go_wp2
     go_region
     go_wp2
     go_ret3
     exact ⟨rfl,(Bl.refl _).drew⟩
   · obtain ⟨x,hx,e⟩:=nat_mod (wrap64 ((wrap64 (wrap32 (a:Int))).tdiv (wrap64 (wrap32 (n:Int)))))
     obtain ⟨y,hy,e2⟩:=nat_mod ((wrap64 (wrap32 (a:Int))).tmod (wrap64 (wrap32 (n:Int))));refine ⟨x,y,true,hx,hy,fun w=>?_⟩;rw [e,e2];go_enter Tryz.func166,Tryz.ntmps166;go_wp2
     go_region
     go_wp2
     go_ret3
     exact ⟨rfl,(Bl.refl _).drew⟩
theorem one_any (u:Bool):Gives 198 #[.bool u] (.int .u32 ((u.toNat:Nat):Int)):=by
 intro w
 cases u<;>(go_enter Tryz.func198,Tryz.ntmps198;go_wp2;go_ret;exact ⟨rfl,Bl.refl _⟩)
theorem add32_any (a n t:Nat) (ha:a<4294967296) (hn:n<4294967296) (ht:t≤1):Gives 197 #[.int .u32 (a:Int),.int .u32 (n:Int),.int .u32 (t:Int)] (.tuple #[.int .u32 (((a+n+t)%4294967296:Nat):Int),.int .u32 (((a+n+t) / 4294967296:Nat):Int)]):=by
 intro w
 have e1:(((a+n+t)%4294967296:Nat):Int)=((a:Int)+n+t)%4294967296:=by omega
 have e2:(((a+n+t) / 4294967296:Nat):Int)=((a:Int)+n+t) / 4294967296:=by omega
 rw [e1,e2];go_enter Tryz.func197,Tryz.ntmps197;go_wp2;go_ret2;exact ⟨rfl,Bl.refl _⟩
theorem sub32_any (a n t:Nat) (ha:a<4294967296) (hn:n<4294967296) (ht:t≤1):∃q:Nat,Gives 199 #[.int .u32 (a:Int),.int .u32 (n:Int),.int .u32 (t:Int)] (.tuple #[.int .u32 (((a+8589934592 - n - t)%4294967296:Nat):Int),.int .u32 (q:Int)]):=by
 have e:(((a+8589934592 - n - t)%4294967296:Nat):Int)=((a:Int) - n - t)%4294967296:=by omega
 obtain ⟨o,ho,eo⟩:=bits_r .or (bits BinOp.and IntKind.u32 (bits BinOp.xor IntKind.u32 IntKind.u32.max (a:Int)) (n:Int)) (bits BinOp.and IntKind.u32 (bits BinOp.xor IntKind.u32 IntKind.u32.max (bits BinOp.xor IntKind.u32 (a:Int) (n:Int))) (((a:Int) - n - t)%4294967296));refine ⟨o / 2147483648,fun w=>?_⟩
 have e3:((o / 2147483648:Nat):Int)=(o:Int) / 2147483648:=by omega
 rw [e,e3,eo];go_enter Tryz.func199,Tryz.ntmps199;go_wp2;go_ret2;exact ⟨rfl,Bl.refl _⟩
theorem add_any (a n:Nat) (ha:a<4294967296) (hn:n<4294967296) (u:Bool):∃c v:Bool,Gives 160 #[.int .u32 (a:Int),.int .u32 (n:Int),.bool u] (.tuple #[.int .u32 (((a+n+u.toNat)%4294967296:Nat):Int),.bool c,.bool v]):=by
 have H1:=Aside.mk (one_any u)
 have ht:u.toNat≤1:=by cases u<;>decide
 have H2:=Aside.mk (add32_any a n u.toNat ha hn ht);obtain ⟨t,et⟩:∃t,u.toNat=t:=⟨_,rfl⟩;rw [et] at H1 H2 ht ⊢;obtain ⟨r,er⟩:∃r,(a+n+t)%4294967296=r:=⟨_,rfl⟩;obtain ⟨q,eq⟩:∃q,(a+n+t) / 4294967296=q:=⟨_,rfl⟩;rw [er,eq] at H2;rw [er]
 have hr:r<4294967296:=by omega
 clear et er eq;refine ⟨((q:Int)==1),(bits .and .u32 (bits .xor .u32 (a:Int) (r:Int)) (bits .xor .u32 (n:Int) (r:Int)) / 2147483648==1),fun w=>?_⟩;go_enter Tryz.func160,Tryz.ntmps160
 go_wp2_with (first | (go_at_call 198;with_reducible refine (H1.out _).mono ?_;rintro e w1 ⟨rfl,hb⟩) | (go_at_call 197;with_reducible refine (H2.out _).mono ?_;rintro e w2 ⟨rfl,hb2⟩))
 go_ret3
 exact ⟨rfl,hb.trans hb2⟩
theorem sub_any (a n:Nat) (ha:a<4294967296) (hn:n<4294967296) (u:Bool):∃c v:Bool,Gives 162 #[.int .u32 (a:Int),.int .u32 (n:Int),.bool u] (.tuple #[.int .u32 (((a+8589934592 - n - u.toNat)%4294967296:Nat):Int),.bool c,.bool v]):=by
 have H1:=Aside.mk (one_any u)
 have ht:u.toNat≤1:=by cases u<;>decide
 obtain ⟨q,hq⟩:=sub32_any a n u.toNat ha hn ht;have H2:=Aside.mk hq;clear hq;obtain ⟨t,et⟩:∃t,u.toNat=t:=⟨_,rfl⟩;rw [et] at H1 H2 ht ⊢;obtain ⟨r,er⟩:∃r,(a+8589934592 - n - t)%4294967296=r:=⟨_,rfl⟩;rw [er] at H2;rw [er]
 have hr:r<4294967296:=by omega
 clear et er;refine ⟨((q:Int)==1),(bits .and .u32 (bits .xor .u32 (a:Int) (n:Int)) (bits .xor .u32 (a:Int) (r:Int)) / 2147483648==1),fun w=>?_⟩;go_enter Tryz.func162,Tryz.ntmps162
 go_wp2_with (first | (go_at_call 198;with_reducible refine (H1.out _).mono ?_;rintro e w1 ⟨rfl,hb⟩) | (go_at_call 199;with_reducible refine (H2.out _).mono ?_;rintro e w2 ⟨rfl,hb2⟩))
 go_ret3
 exact ⟨rfl,hb.trans hb2⟩
structure RB (w:World) (g:Nat) (s:RS):Prop where
 h:w.heap[g]? = some (.cells s.arr 68 (0,0))
 ok:s.Ok
theorem RB.lt {w:World} {g:Nat} {s:RS} (h:RB w g s):g<w.heap.size:=(Array.getElem?_eq_some_iff.1 h.h).1
theorem RB.frz {w:World} {g:Nat} {s:RS} (h:RB w g s) (j:Nat):w.frozen? ⟨g,j,none⟩=false:=frozen_of_row w g j _ _ h.h
theorem RB.cell {w:World} {g:Nat} {s:RS} (h:RB w g s) {j:Nat} {v:Value} (hv:s.arr[j]? = some v):w.cell? ⟨g,j,none⟩=some v:=by
 rw [cell_of_row w g j _ _ (0,0) h.h];exact hv
theorem RB.keep {w w':World} {g:Nat} {s:RS} (h:RB w g s) (k:Bl w w'):RB w' g s:=⟨by rw [k.blk h.lt];exact h.h,h.ok⟩
theorem arr_H {s:RS} (h:s.Ok) (x:Nat):s.arr.setIfInBounds 16 (.int .u32 (x:Int))=({s with H:=x}:RS).arr:=by
 have hu:(u32n s.R).length=16:=by simpa [u32n] using h.len
 simp [RS.arr,RS.cells,List.set_append_right,hu]
theorem arr_C {s:RS} (h:s.Ok) (x:Bool):s.arr.setIfInBounds 19 (.bool x)=({s with C:=x}:RS).arr:=by
 have hu:(u32n s.R).length=16:=by simpa [u32n] using h.len
 simp [RS.arr,RS.cells,List.set_append_right,hu]
theorem arr_V {s:RS} (h:s.Ok) (x:Bool):s.arr.setIfInBounds 20 (.bool x)=({s with V:=x}:RS).arr:=by
 have hu:(u32n s.R).length=16:=by simpa [u32n] using h.len
 simp [RS.arr,RS.cells,List.set_append_right,hu]
theorem RB.setH {w:World} {g:Nat} {s:RS} (h:RB w g s) {x:Nat} (hx:x<4294967296):RB (w.setCell ⟨g,16,none⟩ (.int .u32 (x:Int))) g {s with H:=x} :=
 ⟨by rw [heap_setCell_same w g 16 _ _ _ h.h,arr_H h.ok],h.ok.len,h.ok.lt,hx⟩
theorem RB.setC {w:World} {g:Nat} {s:RS} (h:RB w g s) (x:Bool):RB (w.setCell ⟨g,19,none⟩ (.bool x)) g {s with C:=x} :=
 ⟨by rw [heap_setCell_same w g 19 _ _ _ h.h,arr_C h.ok],h.ok.len,h.ok.lt,h.ok.hlt⟩
theorem RB.setV {w:World} {g:Nat} {s:RS} (h:RB w g s) (x:Bool):RB (w.setCell ⟨g,20,none⟩ (.bool x)) g {s with V:=x} :=
 ⟨by rw [heap_setCell_same w g 20 _ _ _ h.h,arr_V h.ok],h.ok.len,h.ok.lt,h.ok.hlt⟩
theorem bl_by {w w':World} (h:Bl w w') (row:Option Nat):w.grownBy w' row:=⟨h.out.os,h.out.tape,h.out.output,h.out.size,fun i hi _=>h.out.block i hi⟩
theorem grown_setG (w:World) (g i:Nat) (x:Value):w.grownBy (w.setCell ⟨g,i,none⟩ x) (some g) :=
 ⟨rfl,rfl,rfl,by simp,fun k _ hk=>heap_setCell_other w ⟨g,i,none⟩ k x (fun e=>hk (by simp [e]))⟩
theorem and_any (a n:Nat):∃x:Nat,x<4294967296∧Gives 155 #[.int .u32 (a:Int),.int .u32 (n:Int)] (.int .u32 (x:Int)):=by
 obtain ⟨x,hx,e⟩:=bits_r .and (a:Int) (n:Int);refine ⟨x,hx,fun w=>?_⟩;rw [e];go_enter Tryz.func155,Tryz.ntmps155;go_wp2;go_ret;exact ⟨rfl,Bl.refl _⟩
theorem ann_any (a n:Nat):∃x:Nat,x<4294967296∧Gives 156 #[.int .u32 (a:Int),.int .u32 (n:Int)] (.int .u32 (x:Int)):=by
 obtain ⟨x,hx,e⟩:=bits_r .andNot (a:Int) (n:Int);refine ⟨x,hx,fun w=>?_⟩;rw [e];go_enter Tryz.func156,Tryz.ntmps156;go_wp2;go_ret;exact ⟨rfl,Bl.refl _⟩
theorem ior_any (a n:Nat):∃x:Nat,x<4294967296∧Gives 157 #[.int .u32 (a:Int),.int .u32 (n:Int)] (.int .u32 (x:Int)):=by
 obtain ⟨x,hx,e⟩:=bits_r .or (a:Int) (n:Int);refine ⟨x,hx,fun w=>?_⟩;rw [e];go_enter Tryz.func157,Tryz.ntmps157;go_wp2;go_ret;exact ⟨rfl,Bl.refl _⟩
theorem xor_any (a n:Nat):∃x:Nat,x<4294967296∧Gives 158 #[.int .u32 (a:Int),.int .u32 (n:Int)] (.int .u32 (x:Int)):=by
 obtain ⟨x,hx,e⟩:=bits_r .xor (a:Int) (n:Int);refine ⟨x,hx,fun w=>?_⟩;rw [e];go_enter Tryz.func158,Tryz.ntmps158;go_wp2;go_ret;exact ⟨rfl,Bl.refl _⟩
theorem plain_0 {w:World} {p k:Nat} (hk:k=155∨k=156∨k=157∨k=158) (hp:w.cell? ⟨p,0,none⟩=some (.func (.func k) #[] #[])) {v0:Value} {b n x:Nat} {u:Bool} (H:Gives k #[.int .u32 (b:Int),.int .u32 (n:Int)] (.int .u32 (x:Int))) :
 Calls Tryz.prog 195 #[v0,.int .u32 (b:Int),.int .u32 (n:Int),.bool u,.pointer (some ⟨p,0,none⟩)] w fun e w'=>e=.returned (.tuple #[.int .u32 (x:Int),.bool true])∧Bl w w':=by
 have HX:=Aside.mk H;clear H
 rcases hk with rfl | rfl | rfl | rfl <;>
 (go_enter Tryz.func195,Tryz.ntmps195
  go_wp2_with (with_reducible refine (HX.out _).mono ?_;rintro e w1 ⟨rfl,hb⟩)
  go_ret2
  exact ⟨rfl,hb⟩)
theorem shift_c {w:World} {q:Nat} {kd:Int} (hq:w.cell? ⟨q,0,none⟩=some (.int .i64 kd)) {b n x:Nat} (H:Gives 153 #[.int .i64 kd,.int .u32 (b:Int),.int .u32 (n:Int)] (.int .u32 (x:Int))) :
 Calls Tryz.prog 152 #[.int .u32 (b:Int),.int .u32 (n:Int),.pointer (some ⟨q,0,none⟩)] w fun e w'=>e=.returned (.int .u32 (x:Int))∧Bl w w':=by
 have HX:=Aside.mk H;clear H;go_enter Tryz.func152,Tryz.ntmps152
 go_wp2_with (with_reducible refine (HX.out _).mono ?_;rintro e w1 ⟨rfl,hb⟩)
 go_ret;exact ⟨rfl,hb⟩
theorem plain_1 {w:World} {p q:Nat} {kd:Int} (hp:w.cell? ⟨p,0,none⟩=some (.func (.func 152) #[] #[.pointer (some ⟨q,0,none⟩)])) (hq:w.cell? ⟨q,0,none⟩=some (.int .i64 kd)) {v0:Value} {b n x:Nat} {u:Bool} (H:Gives 153 #[.int .i64 kd,.int .u32 (b:Int),.int .u32 (n:Int)] (.int .u32 (x:Int))) :
 Calls Tryz.prog 195 #[v0,.int .u32 (b:Int),.int .u32 (n:Int),.bool u,.pointer (some ⟨p,0,none⟩)] w fun e w'=>e=.returned (.tuple #[.int .u32 (x:Int),.bool true])∧Bl w w':=by
 have HX:=Aside.mk (shift_c hq H);clear H;go_enter Tryz.func195,Tryz.ntmps195
 go_wp2_with (with_reducible refine HX.out.mono ?_;rintro e w1 ⟨rfl,hb⟩)
 go_ret2;exact ⟨rfl,hb⟩
theorem mov_any (w:World) (v0:Value) (b n:Nat) (hn:n<4294967296) (u:Bool) :
 Calls Tryz.prog 154 #[v0,.int .u32 (b:Int),.int .u32 (n:Int),.bool u] w fun e w'=>e=.returned (.tuple #[.int .u32 ((if u then n*65536%4294967296 else n:Nat):Int),.bool true])∧Bl w w':=by
 cases u
 · go_enter Tryz.func154,Tryz.ntmps154
   go_wp2;go_ret2;exact ⟨rfl,Bl.refl _⟩
 · have e:((n*65536%4294967296:Nat):Int)=(n:Int)*65536%4294967296:=by omega
   simp only [if_true,e];go_enter Tryz.func154,Tryz.ntmps154;go_wp2;go_ret2;exact ⟨rfl,Bl.refl _⟩
theorem arr_at {s:RS} (h:s.Ok):s.arr[16]? = some (.int .u32 (s.H:Int))∧s.arr[17]? = some (.bool s.N)∧s.arr[18]? = some (.bool s.Z)∧s.arr[19]? = some (.bool s.C)∧s.arr[20]? = some (.bool s.V):=h.cell.2
theorem sum_8 {w:World} {g:Nat} {s:RS} (h:RB w g s) {b n r:Nat} {u c v:Bool} (H:Gives 160 #[.int .u32 (b:Int),.int .u32 (n:Int),.bool (u&&s.C)] (.tuple #[.int .u32 (r:Int),.bool c,.bool v])) :
 Calls Tryz.prog 159 #[.pointer (some ⟨g,0,none⟩),.int .u32 (b:Int),.int .u32 (n:Int),.bool u] w fun e w'=>e=.returned (.tuple #[.int .u32 (r:Int),.bool true])∧RB w' g {s with C:=c,V:=v}∧w.grownBy w' (some g):=by
 have hC:=h.cell (arr_at h.ok).2.2.2.1;have hV:=h.cell (arr_at h.ok).2.2.2.2;have HB:=Aside.mk h;have f1:=h.frz 19;have f2:=h.frz 20;clear h;cases u
 · simp only [Bool.false_and] at H
   have HX:=Aside.mk H;clear H;go_enter Tryz.func159,Tryz.ntmps159
   go_wp2_with (with_reducible refine (HX.out _).mono ?_;rintro e w1 ⟨rfl,hb⟩;have hB:=HB.out.keep hb;have hC1:=hB.cell (arr_at hB.ok).2.2.2.1;have hV1:=hB.cell (arr_at hB.ok).2.2.2.2;have f3:=hB.frz 19;have f4:=hB.frz 20;have HB1:=Aside.mk hB;clear hB)
   go_ret2;exact ⟨rfl,(HB1.out.setC c).setV v,((bl_by hb _).trans (grown_setG _ _ _ _)).trans (grown_setG _ _ _ _)⟩
 · simp only [Bool.true_and] at H
   have HX:=Aside.mk H;clear H;go_enter Tryz.func159,Tryz.ntmps159
   go_wp2_with (with_reducible refine (HX.out _).mono ?_;rintro e w1 ⟨rfl,hb⟩;have hB:=HB.out.keep hb;have hC1:=hB.cell (arr_at hB.ok).2.2.2.1;have hV1:=hB.cell (arr_at hB.ok).2.2.2.2;have f3:=hB.frz 19;have f4:=hB.frz 20;have HB1:=Aside.mk hB;clear hB)
   go_ret2;exact ⟨rfl,(HB1.out.setC c).setV v,((bl_by hb _).trans (grown_setG _ _ _ _)).trans (grown_setG _ _ _ _)⟩
theorem sum_9 {w:World} {g:Nat} {s:RS} (h:RB w g s) {b n r:Nat} {u c v:Bool} (H:Gives 162 #[.int .u32 (b:Int),.int .u32 (n:Int),.bool (u&&s.C)] (.tuple #[.int .u32 (r:Int),.bool c,.bool v])) :
 Calls Tryz.prog 161 #[.pointer (some ⟨g,0,none⟩),.int .u32 (b:Int),.int .u32 (n:Int),.bool u] w fun e w'=>e=.returned (.tuple #[.int .u32 (r:Int),.bool true])∧RB w' g {s with C:=c,V:=v}∧w.grownBy w' (some g):=by
 have hC:=h.cell (arr_at h.ok).2.2.2.1;have hV:=h.cell (arr_at h.ok).2.2.2.2;have HB:=Aside.mk h;have f1:=h.frz 19;have f2:=h.frz 20;clear h;cases u
 · simp only [Bool.false_and] at H
   have HX:=Aside.mk H;clear H;go_enter Tryz.func161,Tryz.ntmps161
   go_wp2_with (with_reducible refine (HX.out _).mono ?_;rintro e w1 ⟨rfl,hb⟩;have hB:=HB.out.keep hb;have hC1:=hB.cell (arr_at hB.ok).2.2.2.1;have hV1:=hB.cell (arr_at hB.ok).2.2.2.2;have f3:=hB.frz 19;have f4:=hB.frz 20;have HB1:=Aside.mk hB;clear hB)
   go_ret2;exact ⟨rfl,(HB1.out.setC c).setV v,((bl_by hb _).trans (grown_setG _ _ _ _)).trans (grown_setG _ _ _ _)⟩
 · simp only [Bool.true_and] at H
   have HX:=Aside.mk H;clear H;go_enter Tryz.func161,Tryz.ntmps161
   go_wp2_with (with_reducible refine (HX.out _).mono ?_;rintro e w1 ⟨rfl,hb⟩;have hB:=HB.out.keep hb;have hC1:=hB.cell (arr_at hB.ok).2.2.2.1;have hV1:=hB.cell (arr_at hB.ok).2.2.2.2;have f3:=hB.frz 19;have f4:=hB.frz 20;have HB1:=Aside.mk hB;clear hB)
   go_ret2;exact ⟨rfl,(HB1.out.setC c).setV v,((bl_by hb _).trans (grown_setG _ _ _ _)).trans (grown_setG _ _ _ _)⟩
theorem mul_10 {w:World} {g:Nat} {s:RS} (h:RB w g s) {b n x y:Nat} {u:Bool} (hy:y<4294967296) (H:Gives 164 #[.int .u32 (b:Int),.int .u32 (n:Int),.bool u] (.tuple #[.int .u32 (x:Int),.int .u32 (y:Int)])) :
 Calls Tryz.prog 163 #[.pointer (some ⟨g,0,none⟩),.int .u32 (b:Int),.int .u32 (n:Int),.bool u] w fun e w'=>e=.returned (.tuple #[.int .u32 (x:Int),.bool true])∧RB w' g {s with H:=y}∧w.grownBy w' (some g):=by
 have HB:=Aside.mk h;have HX:=Aside.mk H;clear h H;go_enter Tryz.func163,Tryz.ntmps163
 go_wp2_with (with_reducible refine (HX.out _).mono ?_;rintro e w1 ⟨rfl,hb⟩;have hB:=HB.out.keep hb;have hH1:=hB.cell (arr_at hB.ok).1;have f3:=hB.frz 16;have HB1:=Aside.mk hB;clear hB)
 go_ret2;exact ⟨rfl,HB1.out.setH hy,(bl_by hb _).trans (grown_setG _ _ _ _)⟩
theorem div_11 {w:World} {g:Nat} {s:RS} (h:RB w g s) {b n x y:Nat} {u ok:Bool} (hy:y<4294967296) (H:Gives 166 #[.int .u32 (b:Int),.int .u32 (n:Int)] (.tuple #[.int .u32 (x:Int),.int .u32 (y:Int),.bool ok])) :
 Calls Tryz.prog 165 #[.pointer (some ⟨g,0,none⟩),.int .u32 (b:Int),.int .u32 (n:Int),.bool u] w fun e w'=>e=.returned (.tuple #[.int .u32 (x:Int),.bool ok])∧RB w' g {s with H:=y}∧w.grownBy w' (some g):=by
 have HB:=Aside.mk h;have HX:=Aside.mk H;clear h H;go_enter Tryz.func165,Tryz.ntmps165
 go_wp2_with (with_reducible refine (HX.out _).mono ?_;rintro e w1 ⟨rfl,hb⟩;have hB:=HB.out.keep hb;have hH1:=hB.cell (arr_at hB.ok).1;have f3:=hB.frz 16;have HB1:=Aside.mk hB;clear hB)
 go_ret2;exact ⟨rfl,HB1.out.setH hy,(bl_by hb _).trans (grown_setG _ _ _ _)⟩
open Classical in
noncomputable def pick1 (f:FuncId) (args:Array Value):Nat:=if h:∃x:Nat,x<4294967296∧Gives f args (.int .u32 (x:Int)) then h.choose else 0
theorem pick1_lt (f:FuncId) (args:Array Value):pick1 f args<4294967296:=by
 unfold pick1
 split
 · next h=>exact h.choose_spec.1
 · decide
theorem pick1_gives {f:FuncId} {args:Array Value} (h:∃x:Nat,x<4294967296∧Gives f args (.int .u32 (x:Int))):Gives f args (.int .u32 ((pick1 f args:Nat):Int)):=by
 unfold pick1;rw [dif_pos h];exact h.choose_spec.2
open Classical in
noncomputable def pickM (b n:Nat) (u:Bool):Nat×Nat:=if h:∃p:Nat×Nat,p.1<4294967296∧p.2<4294967296∧Gives 164 #[.int .u32 (b:Int),.int .u32 (n:Int),.bool u] (.tuple #[.int .u32 (p.1:Int),.int .u32 (p.2:Int)]) then h.choose else (0,0)
theorem pickM_ex {b n:Nat} (hb:b<4294967296) (hn:n<4294967296) (u:Bool):∃p:Nat×Nat,p.1<4294967296∧p.2<4294967296∧Gives 164 #[.int .u32 (b:Int),.int .u32 (n:Int),.bool u] (.tuple #[.int .u32 (p.1:Int),.int .u32 (p.2:Int)]):=by
 cases u
 · obtain ⟨x,y,h⟩:=mul_f b n hb hn;exact ⟨(x,y),h⟩
 · obtain ⟨x,y,h⟩:=mul_t b n hb hn;exact ⟨(x,y),h⟩
theorem pickM_is {b n:Nat} (hb:b<4294967296) (hn:n<4294967296) (u:Bool):(pickM b n u).1<4294967296∧(pickM b n u).2<4294967296∧Gives 164 #[.int .u32 (b:Int),.int .u32 (n:Int),.bool u] (.tuple #[.int .u32 ((pickM b n u).1:Int),.int .u32 ((pickM b n u).2:Int)]):=by
 have h:=pickM_ex hb hn u;unfold pickM;rw [dif_pos h];exact h.choose_spec
open Classical in
noncomputable def pickD (b n:Nat):Nat×Nat×Bool:=if h:∃p:Nat×Nat×Bool,p.1<4294967296∧p.2.1<4294967296∧Gives 166 #[.int .u32 (b:Int),.int .u32 (n:Int)] (.tuple #[.int .u32 (p.1:Int),.int .u32 (p.2.1:Int),.bool p.2.2]) then h.choose else (0,0,false)
theorem pickD_is {b n:Nat} (hb:b<4294967296) (hn:n<4294967296):(pickD b n).1<4294967296∧(pickD b n).2.1<4294967296∧Gives 166 #[.int .u32 (b:Int),.int .u32 (n:Int)] (.tuple #[.int .u32 ((pickD b n).1:Int),.int .u32 ((pickD b n).2.1:Int),.bool (pickD b n).2.2]):=by
 have h:∃p:Nat×Nat×Bool,p.1<4294967296∧p.2.1<4294967296∧Gives 166 #[.int .u32 (b:Int),.int .u32 (n:Int)] (.tuple #[.int .u32 (p.1:Int),.int .u32 (p.2.1:Int),.bool p.2.2]):=by
  obtain ⟨x,y,ok,h⟩:=div_any b n hb hn;exact ⟨(x,y,ok),h⟩
 unfold pickD;rw [dif_pos h];exact h.choose_spec
open Classical in
noncomputable def pickS (f:FuncId) (b n r:Nat) (u:Bool):Bool×Bool:=if h:∃p:Bool×Bool,Gives f #[.int .u32 (b:Int),.int .u32 (n:Int),.bool u] (.tuple #[.int .u32 (r:Int),.bool p.1,.bool p.2]) then h.choose else (false,false)
theorem pickS_is {f:FuncId} {b n r:Nat} {u:Bool} (h:∃c v:Bool,Gives f #[.int .u32 (b:Int),.int .u32 (n:Int),.bool u] (.tuple #[.int .u32 (r:Int),.bool c,.bool v])):Gives f #[.int .u32 (b:Int),.int .u32 (n:Int),.bool u] (.tuple #[.int .u32 (r:Int),.bool (pickS f b n r u).1,.bool (pickS f b n r u).2]):=by
 have h:∃p:Bool×Bool,Gives f #[.int .u32 (b:Int),.int .u32 (n:Int),.bool u] (.tuple #[.int .u32 (r:Int),.bool p.1,.bool p.2]):=by
  obtain ⟨c,v,h⟩:=h;exact ⟨(c,v),h⟩
 unfold pickS;rw [dif_pos h];exact h.choose_spec
noncomputable def uX (op:Nat) (u:Bool) (b n:Nat):Nat :=
 if op=1 then pick1 153 #[.int .i64 1,.int .u32 (b:Int),.int .u32 (n:Int)]
 else if op=2 then pick1 153 #[.int .i64 2,.int .u32 (b:Int),.int .u32 (n:Int)]
 else if op=3 then pick1 153 #[.int .i64 3,.int .u32 (b:Int),.int .u32 (n:Int)]
 else if op=4 then pick1 155 #[.int .u32 (b:Int),.int .u32 (n:Int)]
 else if op=5 then pick1 156 #[.int .u32 (b:Int),.int .u32 (n:Int)]
 else if op=6 then pick1 157 #[.int .u32 (b:Int),.int .u32 (n:Int)]
 else if op=7 then pick1 158 #[.int .u32 (b:Int),.int .u32 (n:Int)]
 else if op=10 then (pickM b n u).1
 else if op=11 then (pickD b n).1
 else 0
noncomputable def uH (op:Nat) (u:Bool) (b n h:Nat):Nat:=if op=10 then (pickM b n u).2 else if op=11 then (pickD b n).2.1 else h
noncomputable def uOk (op:Nat) (u:Bool) (b n:Nat):Bool:=if op=11 then (pickD b n).2.2 else true
noncomputable def uCv (op b n:Nat) (e:Bool):Bool×Bool:=if op=8 then pickS 160 b n ((b+n+e.toNat)%4294967296) e else pickS 162 b n ((b+8589934592 - n - e.toNat)%4294967296) e
noncomputable def UA:Alu:=⟨uX,uH,uOk,uCv,flN⟩
theorem ua_x (op:Nat) (u:Bool) (b n:Nat) (hb:b<4294967296) (hn:n<4294967296):uX op u b n<4294967296:=by
 unfold uX
 repeat' split
 all_goals (first | with_reducible exact pick1_lt _ _ | with_reducible exact (pickM_is hb hn u).1 | with_reducible exact (pickD_is hb hn).1 | omega)
theorem ua_h (op:Nat) (u:Bool) (b n h:Nat) (hb:b<4294967296) (hn:n<4294967296) (hh:h<4294967296):uH op u b n h<4294967296:=by
 unfold uH
 repeat' split
 all_goals (first | with_reducible exact (pickM_is hb hn u).2.1 | with_reducible exact (pickD_is hb hn).2.1 | with_reducible exact hh)
theorem fl_lt (p q r s:Bool):flN p q r s<4294967296:=by cases p<;>cases q<;>cases r<;>cases s<;>decide
def UnitC (op:Nat) (k:FuncId) (caps:Array Value) (w:World):Prop :=
 ∀wx,Bl w wx→∀g s,RB wx g s→∀(u:Bool) (b n:Nat),b<4294967296→n<4294967296 →
  Calls Tryz.prog k (#[.pointer (some ⟨g,0,none⟩),.int .u32 (b:Int),.int .u32 (n:Int),.bool u]++caps) wx fun e w' =>
   e=.returned (.tuple #[.int .u32 ((aluS UA s op u b n).x:Int),.bool (aluS UA s op u b n).ok])∧RB w' g (aluS UA s op u b n).s∧wx.grownBy w' (some g)
theorem aluO {op:Nat} (h0:op≠0) (h8:op≠8) (h9:op≠9) (s:RS) (u:Bool) (b n:Nat):aluS UA s op u b n=⟨uX op u b n,{s with H:=uH op u b n s.H},uOk op u b n⟩:=by
 unfold aluS;rw [if_neg h0,if_neg h8,if_neg h9]
 rfl
theorem unit_0 (w:World):UnitC 0 154 #[] w:=by
 intro wx hx g s hs u b n hb hn;refine (mov_any wx _ b n hn u).mono ?_;rintro e w' ⟨rfl,h⟩;exact ⟨rfl,hs.keep h,bl_by h _⟩
theorem unit_plain {w:World} {op k:Nat} {p:Nat} (hp:w.cell? ⟨p,0,none⟩=some (.func (.func k) #[] #[])) (hk:(op=4∧k=155)∨(op=5∧k=156)∨(op=6∧k=157)∨(op=7∧k=158)):UnitC op 195 #[.pointer (some ⟨p,0,none⟩)] w:=by
 intro wx hx g s hs u b n hb hn
 have h0:op≠0:=by omega
 have h8:op≠8:=by omega
 have h9:op≠9:=by omega
 rw [aluO h0 h8 h9]
 have hH:uH op u b n s.H=s.H:=by unfold uH;rw [if_neg (by omega),if_neg (by omega)]
 have hO:uOk op u b n=true:=by unfold uOk;rw [if_neg (by omega)]
 rw [hH,hO]
 have hG:Gives k #[.int .u32 (b:Int),.int .u32 (n:Int)] (.int .u32 ((uX op u b n:Nat):Int)):=by
  rcases hk with ⟨rfl,rfl⟩ | ⟨rfl,rfl⟩ | ⟨rfl,rfl⟩ | ⟨rfl,rfl⟩
  · rw [show uX 4 u b n=pick1 155 #[.int .u32 (b:Int),.int .u32 (n:Int)] by simp [uX]]
    exact pick1_gives (and_any b n)
  · rw [show uX 5 u b n=pick1 156 #[.int .u32 (b:Int),.int .u32 (n:Int)] by simp [uX]]
    exact pick1_gives (ann_any b n)
  · rw [show uX 6 u b n=pick1 157 #[.int .u32 (b:Int),.int .u32 (n:Int)] by simp [uX]]
    exact pick1_gives (ior_any b n)
  · rw [show uX 7 u b n=pick1 158 #[.int .u32 (b:Int),.int .u32 (n:Int)] by simp [uX]]
    exact pick1_gives (xor_any b n)
 refine (plain_0 (by omega) (hx.cell hp) hG).mono ?_;rintro e w' ⟨rfl,h⟩;exact ⟨rfl,hs.keep h,bl_by h _⟩
theorem unit_shift {w:World} {op:Nat} {p q:Nat} (hp:w.cell? ⟨p,0,none⟩=some (.func (.func 152) #[] #[.pointer (some ⟨q,0,none⟩)])) (hq:w.cell? ⟨q,0,none⟩=some (.int .i64 (op:Int))) (hk:op=1∨op=2∨op=3):UnitC op 195 #[.pointer (some ⟨p,0,none⟩)] w:=by
 intro wx hx g s hs u b n hb hn
 have h0:op≠0:=by omega
 have h8:op≠8:=by omega
 have h9:op≠9:=by omega
 rw [aluO h0 h8 h9]
 have hH:uH op u b n s.H=s.H:=by unfold uH;rw [if_neg (by omega),if_neg (by omega)]
 have hO:uOk op u b n=true:=by unfold uOk;rw [if_neg (by omega)]
 rw [hH,hO]
 have hG:Gives 153 #[.int .i64 (op:Int),.int .u32 (b:Int),.int .u32 (n:Int)] (.int .u32 ((uX op u b n:Nat):Int)):=by
  rcases hk with rfl | rfl | rfl
  · rw [show uX 1 u b n=pick1 153 #[.int .i64 1,.int .u32 (b:Int),.int .u32 (n:Int)] by simp [uX]]
    exact pick1_gives (shift_1 b n hb hn)
  · rw [show uX 2 u b n=pick1 153 #[.int .i64 2,.int .u32 (b:Int),.int .u32 (n:Int)] by simp [uX]]
    exact pick1_gives (shift_2 b n hb hn)
  · rw [show uX 3 u b n=pick1 153 #[.int .i64 3,.int .u32 (b:Int),.int .u32 (n:Int)] by simp [uX]]
    exact pick1_gives (shift_3 b n hb hn)
 refine (plain_1 (hx.cell hp) (hx.cell hq) hG).mono ?_;rintro e w' ⟨rfl,h⟩;exact ⟨rfl,hs.keep h,bl_by h _⟩
theorem unit_8 (w:World):UnitC 8 159 #[] w:=by
 intro wx hx g s hs u b n hb hn;exact sum_8 hs (pickS_is (add_any b n hb hn (u&&s.C)))
theorem unit_9 (w:World):UnitC 9 161 #[] w:=by
 intro wx hx g s hs u b n hb hn;exact sum_9 hs (pickS_is (sub_any b n hb hn (u&&s.C)))
theorem unit_10 (w:World):UnitC 10 163 #[] w:=by
 intro wx hx g s hs u b n hb hn;have h:=pickM_is hb hn u;exact mul_10 hs h.2.1 h.2.2
theorem unit_11 (w:World):UnitC 11 165 #[] w:=by
 intro wx hx g s hs u b n hb hn;have h:=pickD_is hb hn;exact div_11 hs h.2.1 h.2.2
theorem i205:(Tryz.prog.info? 205).map (·.size)=some 1:=by kernel_rfl
theorem i206:(Tryz.prog.info? 206).map (·.size)=some 12:=by kernel_rfl
theorem one_1 (a:Value) (h:a.oneCell'=true):(#[a]:Array Value).all (·.oneCell')=true:=by simp [h]
theorem one_12 (k:Nat) (c:Array Value) (a0 a1 a2 a3 a4 a5 a6 a7:Value) (h0:a0.oneCell'=true) (h1:a1.oneCell'=true) (h2:a2.oneCell'=true) (h3:a3.oneCell'=true) (h4:a4.oneCell'=true) (h5:a5.oneCell'=true) (h6:a6.oneCell'=true) (h7:a7.oneCell'=true):(#[a0,a1,a2,a3,a4,a5,a6,a7,.func (.func 159) #[] #[],.func (.func 161) #[] #[],.func (.func 163) #[] #[],.func (.func 165) #[] #[]]:Array Value).all (·.oneCell')=true:=by
 have e:∀k,(Value.func (.func k) #[] #[]).oneCell'=true:=fun _=>rfl;simp [h0,h1,h2,h3,h4,h5,h6,h7,e]
abbrev fV (k:Nat) (caps:Array Value):Value:=.func (.func k) #[] caps
abbrev pV (p:Nat):Value:=.pointer (some ⟨p,0,none⟩)
theorem mkplain {w:World} {k:Nat} {caps:Array Value} :
 Calls Tryz.prog 151 #[fV k caps] w fun e w'=>∃p,e=.returned (.agg #[fV 195 #[pV p]])∧w'.cell? ⟨p,0,none⟩=some (fV k caps)∧Bl w w'∧w.heap.size≤p:=by
 go_enter Tryz.func151,Tryz.ntmps151
 go_wp2_with (first
  | (refine wpList_store_row rfl 205 (.tmp 2) (.tmp 4) rfl (w.heap.size+1) #[fV 195 #[pV w.heap.size]] rfl rfl 205 _ (heap_alloc2_new w _ _) i205 rfl (one_1 _ rfl) ?_)
  | fail)
 refine bodyPost_ret (results_cell_row rfl _ _ (w.heap.size+1) 205 #[fV 195 #[pV w.heap.size]] (0,0) _ rfl (setRow_heap _ _ _ _ _ (0,0) (heap_alloc2_new w _ _)) Tryz.underlying205 rfl i205) rfl ?_;refine ⟨w.heap.size,rfl,?_,⟨below_setRow (((Bl.refl w).alloc _).alloc _).out (by omega) _⟩,Nat.le_refl _⟩;rw [cell_of_row _ w.heap.size 0 #[fV k caps] 243 (0,0) ?_]
 · rfl
 · rw [setRow_other _ _ _ _ (by omega)]
   exact heap_alloc2_old w _ _
theorem mkshift {w:World} {kd:Int} :
 Calls Tryz.prog 150 #[.int .i64 kd] w fun e w'=>∃p q,e=.returned (.agg #[fV 195 #[pV p]])∧w'.cell? ⟨p,0,none⟩=some (fV 152 #[pV q])∧w'.cell? ⟨q,0,none⟩=some (.int .i64 kd)∧Bl w w'∧w.heap.size≤p∧w.heap.size≤q:=by
 obtain ⟨w0,hw0⟩:∃w0,(w.alloc (.cells #[.int .i64 kd] 3)).alloc (.cells #[.nilFunc] 205)=w0:=⟨_,rfl⟩;have H:=Aside.mk (mkplain (w:=w0) (k:=152) (caps:=#[pV w.heap.size]))
 have h0:w0.heap[w.heap.size]? = some (.cells #[.int .i64 kd] 3):=by rw [←hw0];exact heap_alloc2_old w _ _
 have h1:w0.heap[w.heap.size+1]? = some (.cells #[.nilFunc] 205):=by rw [←hw0];exact heap_alloc2_new w _ _
 have hsz:w0.heap.size=w.heap.size+2:=by rw [←hw0];simp
 have hB0:Bl w w0:=by rw [←hw0];exact ((Bl.refl w).alloc _).alloc _
 have HS:=Aside.mk hsz;have H0:=Aside.mk h0;have H1:=Aside.mk h1;have HB0:=Aside.mk hB0;clear h0 h1 hsz hB0;go_enter Tryz.func150,Tryz.ntmps150
 go_wp2_with (first
  | (with_reducible refine H.out.mono ?_;rintro e w1 ⟨p,rfl,hp,hb,hpl⟩
     have HP:=Aside.mk hp;have HB:=Aside.mk hb;have HL:=Aside.mk hpl;have H2:=Aside.mk ((hb.blk (by rw [HS.out];omega)).trans H1.out);have H3:=Aside.mk ((hb.blk (by rw [HS.out];omega)).trans H0.out)
     clear hp hb hpl)
  | (refine wpList_store_row rfl 205 (.tmp 2) (.tmp 4) rfl (w.heap.size+1) #[fV 195 #[pV p]] rfl rfl 205 _ H2.out i205 rfl (one_1 _ rfl) ?_)
  | fail)
 refine bodyPost_ret (results_cell_row rfl _ _ (w.heap.size+1) 205 #[fV 195 #[pV p]] (0,0) _ rfl (setRow_heap _ _ _ _ _ (0,0) H2.out) Tryz.underlying205 rfl i205) rfl ?_;have hl:=HL.out;rw [HS.out] at hl;refine ⟨p,w.heap.size,rfl,?_,?_,⟨below_setRow (HB0.out.trans HB.out).out (by omega) _⟩,by omega,Nat.le_refl _⟩
 · rw [cell_setRow_other _ _ _ _ (show p≠w.heap.size+1 by omega)]
   exact HP.out
 · rw [cell_setRow_other _ _ _ _ (show w.heap.size≠w.heap.size+1 by omega),cell_of_row _ w.heap.size 0 _ _ (0,0) H3.out]
   rfl
theorem blk0 {w w':World} {g:Nat} {o:Obj} (h:Bl w w') (hl:g<w.heap.size) (hg:w.heap[g]? = some o):w'.heap[g]? = some o:=(h.blk hl).trans hg
def ukOf (op:Nat):Nat:=if op=0 then 154 else if op≤7 then 195 else if op=8 then 159 else if op=9 then 161 else if op=10 then 163 else 165
structure Units (L:Array Value) (w:World):Prop where
 at_:∀op:Nat,op<12→∃k caps,(∀w'',(Instr.index 206 (.agg L) (.int .i64 (op:Int))).run Tryz.prog w''=.ok (.agg #[fV k caps]) w'')∧UnitC op k caps w∧k=ukOf op∧((k=195∧∃p,caps=#[pV p])∨(k≠195∧caps=#[]))
set_option maxHeartbeats 2000000 in
theorem units_any (w:World):Calls Tryz.prog 122 #[] w fun e w'=>∃L,e=.returned (.agg L)∧Units L w'∧Bl w w':=by
 obtain ⟨w0,hw0⟩:∃w0,w.alloc (.cells #[.nilFunc,.nilFunc,.nilFunc,.nilFunc,.nilFunc,.nilFunc,.nilFunc,.nilFunc,.nilFunc,.nilFunc,.nilFunc,.nilFunc] 206)=w0:=⟨_,rfl⟩
 have h0:w0.heap[w.heap.size]? = some (.cells #[.nilFunc,.nilFunc,.nilFunc,.nilFunc,.nilFunc,.nilFunc,.nilFunc,.nilFunc,.nilFunc,.nilFunc,.nilFunc,.nilFunc] 206):=by rw [←hw0];exact heap_alloc_new w _
 have hB0:Bl w w0:=by rw [←hw0];exact (Bl.refl w).alloc _
 have hl0:w.heap.size<w0.heap.size:=by rw [←hw0];simp
 have HS:=Aside.mk hl0;have H0:=Aside.mk h0;have HB0:=Aside.mk hB0;clear h0 hB0 hl0;have M1:=Aside.mk (fun w=>mkshift (w:=w) (kd:=1));have M2:=Aside.mk (fun w=>mkshift (w:=w) (kd:=2));have M3:=Aside.mk (fun w=>mkshift (w:=w) (kd:=3));have M4:=Aside.mk (fun w=>mkplain (w:=w) (k:=155) (caps:=#[]));have M5:=Aside.mk (fun w=>mkplain (w:=w) (k:=156) (caps:=#[]));have M6:=Aside.mk (fun w=>mkplain (w:=w) (k:=157) (caps:=#[]))
 have M7:=Aside.mk (fun w=>mkplain (w:=w) (k:=158) (caps:=#[]));go_enter Tryz.func122,Tryz.ntmps122
 go_wp2_with (first
  | (with_reducible refine (M1.out _).mono ?_;rintro e v1 ⟨p1,q1,rfl,hp1,hq1,hb1,hl1⟩;have A1:=Aside.mk (And.intro hp1 hq1);have B1:=Aside.mk hb1;have L1:=Aside.mk hl1;clear hp1 hq1 hb1 hl1)
  | (with_reducible refine (M2.out _).mono ?_;rintro e v2 ⟨p2,q2,rfl,hp1,hq1,hb1,hl1⟩;have A2:=Aside.mk (And.intro hp1 hq1);have B2:=Aside.mk hb1;have L2:=Aside.mk hl1;clear hp1 hq1 hb1 hl1)
  | (with_reducible refine (M3.out _).mono ?_;rintro e v3 ⟨p3,q3,rfl,hp1,hq1,hb1,hl1⟩;have A3:=Aside.mk (And.intro hp1 hq1);have B3:=Aside.mk hb1;have L3:=Aside.mk hl1;clear hp1 hq1 hb1 hl1)
  | (with_reducible refine (M4.out _).mono ?_;rintro e v4 ⟨p4,rfl,hp1,hb1,hl1⟩;have A4:=Aside.mk hp1;have B4:=Aside.mk hb1;have L4:=Aside.mk hl1;clear hp1 hl1 hb1)
  | (with_reducible refine (M5.out _).mono ?_;rintro e v5 ⟨p5,rfl,hp1,hb1,hl1⟩;have A5:=Aside.mk hp1;have B5:=Aside.mk hb1;have L5:=Aside.mk hl1;clear hp1 hl1 hb1)
  | (with_reducible refine (M6.out _).mono ?_;rintro e v6 ⟨p6,rfl,hp1,hb1,hl1⟩;have A6:=Aside.mk hp1;have B6:=Aside.mk hb1;have L6:=Aside.mk hl1;clear hp1 hl1 hb1)
  | (with_reducible refine (M7.out _).mono ?_;rintro e v7 ⟨p7,rfl,hp1,hb1,hl1⟩;have A7:=Aside.mk hp1;have B7:=Aside.mk hb1;have L7:=Aside.mk hl1;clear hp1 hl1 hb1)
  | (refine wpList_store_row rfl 206 (.tmp 0) (.tmp 17) rfl w.heap.size #[fV 154 #[],fV 195 #[pV p1],fV 195 #[pV p2],fV 195 #[pV p3],fV 195 #[pV p4],fV 195 #[pV p5],fV 195 #[pV p6],fV 195 #[pV p7],fV 159 #[],fV 161 #[],fV 163 #[],fV 165 #[]] rfl rfl 206 _ (blk0 (B1.out.trans (B2.out.trans (B3.out.trans (B4.out.trans (B5.out.trans (B6.out.trans B7.out)))))) HS.out H0.out) i206 rfl (one_12 0 #[] _ _ _ _ _ _ _ _ rfl rfl rfl rfl rfl rfl rfl rfl) ?_)
  | fail)
 obtain ⟨L,hL⟩:∃L:Array Value,#[fV 154 #[],fV 195 #[pV p1],fV 195 #[pV p2],fV 195 #[pV p3],fV 195 #[pV p4],fV 195 #[pV p5],fV 195 #[pV p6],fV 195 #[pV p7],fV 159 #[],fV 161 #[],fV 163 #[],fV 165 #[]]=L:=⟨_,rfl⟩;have hrow:v7.heap[w.heap.size]? = some (.cells _ 206):=blk0 (B1.out.trans (B2.out.trans (B3.out.trans (B4.out.trans (B5.out.trans (B6.out.trans B7.out)))))) HS.out H0.out;refine bodyPost_ret (results_cell_row rfl _ _ w.heap.size 206 #[fV 154 #[],fV 195 #[pV p1],fV 195 #[pV p2],fV 195 #[pV p3],fV 195 #[pV p4],fV 195 #[pV p5],fV 195 #[pV p6],fV 195 #[pV p7],fV 159 #[],fV 161 #[],fV 163 #[],fV 165 #[]] (0,0) _ rfl (setRow_heap _ _ _ _ _ (0,0) hrow) Tryz.underlying206 rfl i206) rfl ?_
 have hs:=HS.out;have s1:=B1.out.out.size;have s2:=B2.out.out.size;have s3:=B3.out.out.size;have s4:=B4.out.out.size;have s5:=B5.out.out.size;have s6:=B6.out.out.size;have l1:=L1.out;have l2:=L2.out;have l3:=L3.out;have l4:=L4.out;have l5:=L5.out;have l6:=L6.out;have l7:=L7.out;have k6:=B7.out;have k5:=B6.out.trans k6;have k4:=B5.out.trans k5;have k3:=B4.out.trans k4;have k2:=B3.out.trans k3;have k1:=B2.out.trans k2
 have c:∀{u:World} {p:Nat} {x:Value},Bl u v7→p≠w.heap.size→u.cell? ⟨p,0,none⟩=some x→(v7.setRow w.heap.size #[fV 154 #[],fV 195 #[pV p1],fV 195 #[pV p2],fV 195 #[pV p3],fV 195 #[pV p4],fV 195 #[pV p5],fV 195 #[pV p6],fV 195 #[pV p7],fV 159 #[],fV 161 #[],fV 163 #[],fV 165 #[]]).cell? ⟨p,0,none⟩=some x:=fun hb hp hx=>(cell_setRow_other _ _ _ _ hp).trans (hb.cell hx);refine ⟨_,rfl,⟨fun op hop=>?_⟩,⟨below_setRow (HB0.out.trans (B1.out.trans k1)).out (Nat.le_refl _) _⟩⟩
 match op,hop with
 | 0,_=>exact ⟨154,#[],fun w''=>rfl,unit_0 _,rfl,.inr ⟨by decide,rfl⟩⟩
 | 1,_=>exact ⟨195,#[pV p1],fun w''=>rfl,unit_shift (c k1 (by omega) A1.out.1) (c k1 (by omega) A1.out.2) (by omega),rfl,.inl ⟨rfl,_,rfl⟩⟩
 | 2,_=>exact ⟨195,#[pV p2],fun w''=>rfl,unit_shift (c k2 (by omega) A2.out.1) (c k2 (by omega) A2.out.2) (by omega),rfl,.inl ⟨rfl,_,rfl⟩⟩
 | 3,_=>exact ⟨195,#[pV p3],fun w''=>rfl,unit_shift (c k3 (by omega) A3.out.1) (c k3 (by omega) A3.out.2) (by omega),rfl,.inl ⟨rfl,_,rfl⟩⟩
 | 4,_=>exact ⟨195,#[pV p4],fun w''=>rfl,unit_plain (c k4 (by omega) A4.out) (by omega),rfl,.inl ⟨rfl,_,rfl⟩⟩
 | 5,_=>exact ⟨195,#[pV p5],fun w''=>rfl,unit_plain (c k5 (by omega) A5.out) (by omega),rfl,.inl ⟨rfl,_,rfl⟩⟩
 | 6,_=>exact ⟨195,#[pV p6],fun w''=>rfl,unit_plain (c k6 (by omega) A6.out) (by omega),rfl,.inl ⟨rfl,_,rfl⟩⟩
 | 7,_=>exact ⟨195,#[pV p7],fun w''=>rfl,unit_plain (c (Bl.refl _) (by omega) A7.out) (by omega),rfl,.inl ⟨rfl,_,rfl⟩⟩
 | 8,_=>exact ⟨159,#[],fun w''=>rfl,unit_8 _,rfl,.inr ⟨by decide,rfl⟩⟩
 | 9,_=>exact ⟨161,#[],fun w''=>rfl,unit_9 _,rfl,.inr ⟨by decide,rfl⟩⟩
 | 10,_=>exact ⟨163,#[],fun w''=>rfl,unit_10 _,rfl,.inr ⟨by decide,rfl⟩⟩
 | 11,_=>exact ⟨165,#[],fun w''=>rfl,unit_11 _,rfl,.inr ⟨by decide,rfl⟩⟩
theorem units_no {op k:Nat} (h:op<12) (hk:ukOf op=k) (hn:k≠195) (w:World):Calls Tryz.prog 122 #[] w fun e w'=>∃L,e=.returned (.agg L)∧(∀w'',(Instr.index 206 (.agg L) (.int .i64 (op:Int))).run Tryz.prog w''=.ok (.agg #[.func (.func k) #[] #[]]) w'')∧UnitC op k #[] w'∧Bl w w':=by
 refine (units_any w).mono ?_;rintro e w' ⟨L,rfl,hU,hb⟩;obtain ⟨k',caps,h1,h2,rfl,h3⟩:=hU.at_ op h;rw [hk] at h1 h2 h3
 rcases h3 with ⟨h3,_⟩ | ⟨_,rfl⟩
 · exact absurd h3 hn
 · exact ⟨L,rfl,h1,h2,hb⟩
theorem units_p {op:Nat} (h:op<12) (hk:ukOf op=195) (w:World):Calls Tryz.prog 122 #[] w fun e w'=>∃L p,e=.returned (.agg L)∧(∀w'',(Instr.index 206 (.agg L) (.int .i64 (op:Int))).run Tryz.prog w''=.ok (.agg #[.func (.func 195) #[] #[pV p]]) w'')∧UnitC op 195 #[pV p] w'∧Bl w w':=by
 refine (units_any w).mono ?_;rintro e w' ⟨L,rfl,hU,hb⟩;obtain ⟨k',caps,h1,h2,rfl,h3⟩:=hU.at_ op h;rw [hk] at h1 h2 h3
 rcases h3 with ⟨_,p,rfl⟩ | ⟨h3,_⟩
 · exact ⟨L,p,rfl,h1,h2,hb⟩
 · exact absurd rfl h3
end Go.Proofs.YtjmiaemabhlnjaaGreatDoor.Chains.Shifts
end
section
set_option linter.all false
set_option maxRecDepth 20000
namespace Go.Proofs.YtjmiaemabhlnjaaGreatDoor.Chains.Shifts
theorem getD_set {α:Type} (l:List α) (i j:Nat) (x y:α) (hi:i<l.length):(l.set i x).getD j y=if j=i then x else l.getD j y:=by
 by_cases h:j=i
 · subst h
   rw [if_pos rfl,List.getD_eq_getElem?_getD,List.getElem?_set_self hi]
   rfl
 · rw [if_neg h,List.getD_eq_getElem?_getD,List.getElem?_set_ne (fun e=>h e.symm),List.getD_eq_getElem?_getD]
theorem reg_put (s:RS) (hs:s.R.length=16) {j:Nat} (hj:j<16) (x q:Nat):reg (putR s j x) q=if q=j then x else reg s q:=getD_set _ _ _ _ _ (by omega)
theorem r_put {d:Nat} {a b:RS} {tr:List Bool} (ha:a.R.length=16) (hb:b.R.length=16) (ht:tr.length=16) (h:∀j,j<16→reg b j=sh d (tr.getD j false) (reg a j)) {q:Nat} (hq:q<16) {g:Bool} {x y:Nat} (hxy:y=sh d g x) :
 ∀j,j<16→reg (putR b q y) j=sh d ((tr.set q g).getD j false) (reg (putR a q x) j):=by
 intro j hj;rw [reg_put b hb hq,reg_put a ha hq,getD_set _ _ _ _ _ (by omega)]
 by_cases e:j=q
 · rw [if_pos e,if_pos e,if_pos e,hxy]
 · rw [if_neg e,if_neg e,if_neg e,h j hj]
theorem sh_f (d x:Nat):sh d false x=x:=rfl
theorem sh_t (d x:Nat):sh d true x=(x+d)%4294967296:=rfl
theorem addr_sh {i k d n x w:Nat} (hi:i≤124) (hk:k≤124) (hd:d=(4294967296+k - i)%4294967296) (hn:n≤4096) (hx:x<4294967296) (h1:i≤(x+w)%4294967296) (h2:(x+w)%4294967296<i+4*n) :
 ((x+d)%4294967296+w)%4294967296=(x+w)%4294967296 - i+k:=by
 subst hd;omega
theorem pc_sh {i k d n pc:Nat} (hi:i≤124) (hk:k≤124) (hd:d=(4294967296+k - i)%4294967296) (hn:n≤4096) (h1:i≤pc) (h2:pc<i+4*n):(pc+d)%4294967296=pc - i+k:=by
 subst hd;omega
theorem reg_lt {s:RS} (h:∀x∈s.R,x<4294967296) (hl:s.R.length=16) {j:Nat} (hj:j<16):reg s j<4294967296:=by
 unfold reg;rw [List.getD_eq_getElem?_getD,List.getElem?_eq_getElem (by omega)];exact h _ (List.getElem_mem _)
structure IOk (i:I):Prop where
 kd:1≤i.kd∧i.kd≤7
 a:i.a<16
 b:i.b<16
 c:i.c<16
 op:i.op<16
 mem:i.kd=5→i.op≤3
 mov:i.kd=1→i.op=0→i.u=false
theorem alu_R (U:Alu) (s:RS) (op:Nat) (u:Bool) (b n:Nat):(aluS U s op u b n).s.R=s.R:=by
 unfold aluS
 split
 · rfl
 · split
   · rfl
   · split<;>rfl
theorem alu_sim {U:Alu} {d:Nat} {s s':RS} {op:Nat} {u tb tc cv:Bool} {b n b' n':Nat} (hb:b'=sh d tb b) (hn:n'=sh d tc n) (hbl:b<4294967296) (hnl:n<4294967296) (hd:d<4294967296)
 (hcv:cv=false→s'.C=s.C∧s'.V=s.V) (hH:s'.H=s.H) (hmv:op=0→tc=true→u=false)
 (hok:(op==0 || (op==8 || op==9) && !(tb&&tc) && !(tc&&op==9) && !(u&&cv) || !(op==8 || op==9) && !tb && !tc)=true) :
 (aluS U s' op u b' n').ok=(aluS U s op u b n).ok∧(aluS U s' op u b' n').x=sh d (op==0&&tc || (op==8 || op==9)&&(tb || tc)) (aluS U s op u b n).x∧(aluS U s' op u b' n').s.H=(aluS U s op u b n).s.H ∧
   ((if (op==8 || op==9) then (op==0&&tc || (op==8 || op==9)&&(tb || tc)) else cv)=false→(aluS U s' op u b' n').s.C=(aluS U s op u b n).s.C∧(aluS U s' op u b' n').s.V=(aluS U s op u b n).s.V):=by
 by_cases h0:op=0
 · subst h0
   have hv:=hmv rfl;simp only [aluS,if_true];refine ⟨trivial,?_,hH,fun h=>hcv (by simpa using h)⟩
   cases tc with
   | false=>rw [hn];simp [sh]
   | true =>
     rw [hv rfl,hn];simp [sh]
 · by_cases h8:op=8
   · subst h8
     have hc:(u&&s'.C)=(u&&s.C):=by
      cases u with
      | false=>rfl
      | true =>
        cases cv with
        | false=>rw [(hcv rfl).1]
        | true=>cases tb<;>cases tc<;>simp at hok
     simp only [aluS,if_neg h0,if_true,hc]
     have hcl:(u&&s.C).toNat≤1:=by cases (u&&s.C)<;>decide
     generalize (u&&s.C).toNat=e at hcl
     cases tb<;>cases tc
     · refine ⟨trivial,?_,hH,fun _=>?_⟩
       · rw [hb,hn];simp [sh]
       · rw [hb,hn];exact ⟨rfl,rfl⟩
     · refine ⟨trivial,?_,hH,fun h=>by simp at h⟩
       rw [hb,hn];simp [sh];omega
     · refine ⟨trivial,?_,hH,fun h=>by simp at h⟩
       rw [hb,hn];simp [sh];omega
     · simp at hok
   · by_cases h9:op=9
     · subst h9
       have hc:(u&&s'.C)=(u&&s.C):=by
        cases u with
        | false=>rfl
        | true =>
          cases cv with
          | false=>rw [(hcv rfl).1]
          | true=>cases tb<;>cases tc<;>simp at hok
       simp only [aluS,if_neg h0,if_neg h8,if_true,hc]
       have hcl:(u&&s.C).toNat≤1:=by cases (u&&s.C)<;>decide
       generalize (u&&s.C).toNat=e at hcl
       cases tb<;>cases tc
       · refine ⟨trivial,?_,hH,fun _=>?_⟩
         · rw [hb,hn];simp [sh]
         · rw [hb,hn];exact ⟨rfl,rfl⟩
       · simp at hok
       · refine ⟨trivial,?_,hH,fun h=>by simp at h⟩
         rw [hb,hn];simp [sh];omega
       · simp at hok
     · have e8:(op==8)=false:=by simpa using h8
       have e9:(op==9)=false:=by simpa using h9
       have e0:(op==0)=false:=by simpa using h0
       rw [e8,e9,e0] at hok ⊢;simp at hok;obtain ⟨rfl,rfl⟩:=hok;simp only [aluS,if_neg h0,if_neg h8,if_neg h9,hb,hn,sh_f];exact ⟨trivial,by simp [sh],by rw [hH],fun h=>hcv (by simpa using h)⟩
theorem core_put {d i k n:Nat} {a b:MS} {t:TG} (C:Core d i k n a b t) (ha:a.s.R.length=16) (hb:b.s.R.length=16) (ht:t.R.length=16) {sa sb:RS} (hRa:sa.R=a.s.R) (hRb:sb.R=b.s.R) (hH:sb.H=sa.H) {cv:Bool} (hcv:cv=false→sb.C=sa.C∧sb.V=sa.V)
 {A:Nat} (hA:A<16) {g:Bool} {x y:Nat} (hxy:y=sh d g x) :
 Core d i k n {a with s:=showS (putR sa A x) x} {b with s:=showS (putR sb A y) y} {t with R:=t.R.set A g,NZ:=g,CV:=cv}:=by
 have hr:∀j,j<16→reg sb j=sh d (t.R.getD j false) (reg sa j):=fun j hj=>by
  have:=C.r j hj;unfold reg at this ⊢;rw [hRa,hRb];exact this
 refine ⟨r_put (by rw [hRa];exact ha) (by rw [hRb];exact hb) ht hr hA hxy,C.w,fun hg=>?_,hcv,hH,C.inp,C.out⟩
 have e:y=x:=by
  have hg':g=false:=hg;rw [hxy,hg']
  rfl
 subst e;exact ⟨rfl,rfl⟩
theorem d_lt {i k d:Nat} (hd:d=(4294967296+k - i)%4294967296):d<4294967296:=by subst hd;exact Nat.mod_lt _ (by decide)
theorem do_hi {U:Alu} {B:Bytes} {d i k n:Nat} {a b:MS} {t:TG} (F:Fix d i k n a b t) (C:Core d i k n a b t) {ins:I} (ho:IOk ins) (hk:ins.kd=3∨ins.kd=4) (hf:(feedS t ins a.s i n).2=true) :
 (doI U B b ins).2.2=0∧(doI U B a ins).2.2=0∧(doI U B b ins).2.1=(b.pc+4)%4294967296∧(doI U B a ins).2.1=(a.pc+4)%4294967296∧Core d i k n (doI U B a ins).1 (doI U B b ins).1 (feedS t ins a.s i n).1:=by
 rcases hk with h | h
 · simp only [doI,doS,feedS,h]
   simp;exact core_put (g:=false) C F.aR F.bR F.tR rfl rfl C.h C.cv ho.a C.h
 · simp only [doI,doS,feedS,h] at hf ⊢
   simp at hf ⊢;have h1:=C.nz hf.1;have h2:=C.cv hf.2;exact core_put (g:=false) C F.aR F.bR F.tR rfl rfl C.h C.cv ho.a (by rw [h1.1,h1.2,h2.1,h2.2];rfl)
theorem do_alu {U:Alu} {B:Bytes} {d i k n:Nat} {a b:MS} {t:TG} (F:Fix d i k n a b t) (C:Core d i k n a b t) {ins:I} (ho:IOk ins) (hk:ins.kd=1∨ins.kd=2) (hf:(feedS t ins a.s i n).2=true) :
 (doI U B b ins).2.2=(doI U B a ins).2.2∧(doI U B b ins).2.1=(b.pc+4)%4294967296∧(doI U B a ins).2.1=(a.pc+4)%4294967296∧Core d i k n (doI U B a ins).1 (doI U B b ins).1 (if (doI U B a ins).2.2=0 then (feedS t ins a.s i n).1 else t):=by
 have hd:=d_lt F.dd;have hb:=C.r ins.b ho.b;have hc:=C.r ins.c ho.c;have hbl:=reg_lt F.ar F.aR ho.b;have hcl:=reg_lt F.ar F.aR ho.c
 rcases hk with h | h
 · have hA:=alu_sim (U:=U) (op:=ins.op) (u:=ins.u) (cv:=t.CV) hb hc hbl hcl hd C.cv C.h (fun e _=>ho.mov h e) (by simpa [feedS,h] using hf)
   obtain ⟨h1,h2,h3,h4⟩:=hA;have hP:=core_put C F.aR F.bR F.tR (alu_R U a.s ins.op ins.u (reg a.s ins.b) (reg a.s ins.c)) (alu_R U b.s ins.op ins.u (reg b.s ins.b) (reg b.s ins.c)) h3 h4 ho.a h2
   by_cases hok:(aluS U a.s ins.op ins.u (reg a.s ins.b) (reg a.s ins.c)).ok=true
   · simp only [doI,doS,feedS,h]
     simp [h1,hok]
     simpa using hP
   · simp only [doI,doS,feedS,h]
     simp [h1,hok];exact C
 · have hA:=alu_sim (U:=U) (op:=ins.op) (u:=ins.u) (cv:=t.CV) (tc:=false) (n:=word32 ins.im) (n':=word32 ins.im) hb rfl hbl (by unfold word32;omega) hd C.cv C.h (fun _ e=>by cases e) (by simpa [feedS,h] using hf)
   obtain ⟨h1,h2,h3,h4⟩:=hA;have hP:=core_put C F.aR F.bR F.tR (alu_R U a.s ins.op ins.u (reg a.s ins.b) (word32 ins.im)) (alu_R U b.s ins.op ins.u (reg b.s ins.b) (word32 ins.im)) h3 h4 ho.a h2
   by_cases hok:(aluS U a.s ins.op ins.u (reg a.s ins.b) (word32 ins.im)).ok=true
   · simp only [doI,doS,feedS,h]
     simp [h1,hok]
     simpa using hP
   · simp only [doI,doS,feedS,h]
     simp [h1,hok];exact C
theorem taken_eq {a b:RS} {op:Nat} {nz cv:Bool} (hnz:nz=false→b.N=a.N∧b.Z=a.Z) (hcv:cv=false→b.C=a.C∧b.V=a.V) (h:(decide (op%8=7) || !nz && !cv)=true):takenS b op=takenS a op:=by
 by_cases h7:op%8=7
 · unfold takenS
   rw [h7]
   rfl
 · simp [h7] at h
   unfold takenS;rw [(hnz h.1).1,(hnz h.1).2,(hcv h.2).1,(hcv h.2).2]
theorem do_br {U:Alu} {B:Bytes} {d i k n:Nat} {a b:MS} {t:TG} (F:Fix d i k n a b t) (C:Core d i k n a b t) (hpc:b.pc=(a.pc+d)%4294967296) {ins:I} (ho:IOk ins) (hk:ins.kd=6∨ins.kd=7) (hf:(feedS t ins a.s i n).2=true) :
 (doI U B b ins).2.2=0∧(doI U B a ins).2.2=0∧(doI U B b ins).2.1=((doI U B a ins).2.1+d)%4294967296∧Core d i k n (doI U B a ins).1 (doI U B b ins).1 (feedS t ins a.s i n).1:=by
 have hd:=d_lt F.dd;have hc:=C.r ins.c ho.c
 have hT:takenS b.s ins.op=takenS a.s ins.op:=taken_eq C.nz C.cv (by
  rcases hk with h | h
  · simp only [feedS,h] at hf
    simp at hf
    simpa using hf.1
  · simpa [feedS,h] using hf)
 have hlink:Core d i k n {a with s:=putR a.s 15 ((a.pc+4)%4294967296)} {b with s:=putR b.s 15 ((b.pc+4)%4294967296)} {t with R:=t.R.set 15 true} :=
  ⟨r_put F.aR F.bR F.tR C.r (by decide) (by rw [hpc,sh_t];omega),C.w,C.nz,C.cv,C.h,C.inp,C.out⟩
 have hsame:t.R.set 15 (tagR t 15)=t.R:=by
  have hl:=F.tR
  apply List.ext_getElem?
  intro j
  by_cases e:15=j
  · subst e
    rw [List.getElem?_set_self (by omega),List.getElem?_eq_getElem (by omega)];simp [tagR,List.getD_eq_getElem?_getD,hl]
  · rw [List.getElem?_set_ne e]
 by_cases ht:takenS a.s ins.op=true
 · rcases hk with h | h
   · simp only [feedS,h] at hf
     simp [ht] at hf
     have hc':reg b.s ins.c=(reg a.s ins.c+d)%4294967296:=by rw [hc,hf.2,sh_t]
     cases hu:ins.u with
     | true =>
       simp [doI,feedS,h,ht,hT,hu,hc'];exact hlink
     | false =>
       simp [doI,feedS,h,ht,hT,hu,hc'];exact C
   · have hto:((b.pc+4)%4294967296+word32 ins.im*4)%4294967296=(((a.pc+4)%4294967296+word32 ins.im*4)%4294967296+d)%4294967296:=by
      rw [hpc];generalize word32 ins.im=m;omega
     cases hu:ins.u with
     | true =>
       simp [doI,feedS,h,ht,hT,hu];exact ⟨by simpa using hto,hlink⟩
     | false =>
       simp [doI,feedS,h,ht,hT,hu];exact ⟨by simpa using hto,C⟩
 · have ht':takenS a.s ins.op=false:=by simpa using ht
   have hto:(b.pc+4)%4294967296=((a.pc+4)%4294967296+d)%4294967296:=by rw [hpc];omega
   have hts:({t with R:=t.R.set 15 (tagR t 15)}:TG)=t:=by rw [hsame]
   rcases hk with h | h
   · cases hu:ins.u with
     | true =>
       simp [doI,feedS,h,ht',hT,hu];refine ⟨by simpa using hto,?_⟩;rw [hts];exact C
     | false =>
       simp [doI,feedS,h,ht',hT,hu];exact ⟨by simpa using hto,C⟩
   · cases hu:ins.u with
     | true =>
       simp [doI,feedS,h,ht',hT,hu];refine ⟨by simpa using hto,?_⟩;rw [hts];exact C
     | false =>
       simp [doI,feedS,h,ht',hT,hu];exact ⟨by simpa using hto,C⟩
theorem w_put {d i k n:Nat} {a b:List Nat} {W:List Bool} (ha:i / 4+n≤a.length) (hb:k / 4+n≤b.length) (hW:W.length=n) (h:∀j,j<n→b.getD (k / 4+j) 0=sh d (W.getD j false) (a.getD (i / 4+j) 0))
 {q:Nat} (hq:q<n) {g:Bool} {x y:Nat} (hxy:y=sh d g x) :
 ∀j,j<n→(b.set (k / 4+q) y).getD (k / 4+j) 0=sh d ((W.set q g).getD j false) ((a.set (i / 4+q) x).getD (i / 4+j) 0):=by
 intro j hj;rw [getD_set _ _ _ _ _ (by omega),getD_set _ _ _ _ _ (by omega),getD_set _ _ _ _ _ (by omega)]
 by_cases e:j=q
 · subst e
   rw [if_pos rfl,if_pos rfl,if_pos rfl,hxy]
 · rw [if_neg (by omega),if_neg e,if_neg (by omega),h j hj]
theorem at_port {n q:Nat} (hn:n≤4096) (hq:q=4294967232∨q=4294967236∨q=4294967240):atT n q 4=3:=by
 unfold atT
 rcases hq with rfl | rfl | rfl
 · rw [if_pos (by decide),if_neg (by omega)]
 · rw [if_pos (by decide),if_neg (by omega)]
 · rw [if_pos (by decide),if_neg (by omega)]
set_option maxHeartbeats 2000000 in
theorem do_mem {U:Alu} {B:Bytes} {d i k n:Nat} {a b:MS} {t:TG} (F:Fix d i k n a b t) (C:Core d i k n a b t) {ins:I} (ho:IOk ins) (hk:ins.kd=5) (hf:(feedS t ins a.s i n).2=true) :
 (doI U B b ins).2.2=(doI U B a ins).2.2∧(doI U B b ins).2.1=(b.pc+4)%4294967296∧(doI U B a ins).2.1=(a.pc+4)%4294967296∧Core d i k n (doI U B a ins).1 (doI U B b ins).1 (if (doI U B a ins).2.2=0 then (feedS t ins a.s i n).1 else t):=by
 have hd:=d_lt F.dd;have hb:=C.r ins.b ho.b;have hbl:=reg_lt F.ar F.aR ho.b;have ha:=C.r ins.a ho.a;have hop:=ho.mem hk;have hn4:a.n≤4096:=F.a4;have hnb:b.n=a.n:=F.an.symm
 cases htb:tagR t ins.b with
 | false =>
   rw [htb,sh_f] at hb;simp only [feedS,hk,htb] at hf ⊢;simp only [doI,hk,hb];generalize (reg a.s ins.b+word32 ins.im)%4294967296=q at hf ⊢;simp at hf;obtain ⟨⟨hport,hop2⟩,hta⟩:=hf
   have hq:q=4294967232∨q=4294967236∨q=4294967240:=by omega
   have hat:=at_port hn4 hq
   rcases hop2 with h0 | h2
   · rw [h0]
     rcases hq with rfl | rfl | rfl
     · have hin:=C.inp
       cases hi:a.inp with
       | nil =>
         rw [hi] at hin;have hP:=core_put (g:=false) (x:=0) (y:=0) C F.aR F.bR F.tR rfl rfl C.h C.cv ho.a rfl;simp [loadS,hi,hin]
         simpa [hi,hin] using hP
       | cons x r =>
         rw [hi] at hin;have C2:Core d i k n {a with inp:=r} {b with inp:=r} t:=⟨C.r,C.w,C.nz,C.cv,C.h,rfl,C.out⟩;have hP:=core_put (g:=false) (x:=x) (y:=x) C2 F.aR F.bR F.tR rfl rfl C.h C.cv ho.a rfl;simp [loadS,hi,hin];exact hP
     · simp [loadS,hat,hnb]
       exact C
     · simp [loadS,hat,hnb]
       exact C
   · rw [h2]
     rw [h2] at hta
     have hta':tagR t ins.a=false:=by simpa using hta
     rw [hta',sh_f] at ha
     rcases hq with rfl | rfl | rfl
     · simp [storeS,hat,hnb]
       exact C
     · simp [storeS,ha]
       exact ⟨C.r,C.w,C.nz,C.cv,C.h,C.inp,by show b.out++_=a.out++_;rw [C.out]⟩
     · simp [storeS]
       exact C
 | true =>
   rw [htb,sh_t] at hb;simp only [feedS,hk,htb] at hf ⊢;simp only [doI,hk,hb]
   by_cases hr:(reg a.s ins.b+word32 ins.im)%4294967296<i∨i+4*n≤(reg a.s ins.b+word32 ins.im)%4294967296
   · simp [hr] at hf
   have hr1:i≤(reg a.s ins.b+word32 ins.im)%4294967296:=by omega
   have hr2:(reg a.s ins.b+word32 ins.im)%4294967296<i+4*n:=by omega
   have hn4':n≤4096:=by have:=F.ai;omega
   rw [addr_sh F.il F.kl F.dd hn4' hbl hr1 hr2];simp only [hr] at hf ⊢;generalize (reg a.s ins.b+word32 ins.im)%4294967296=q at hf hr1 hr2 ⊢;have i4:=F.i4;have k4:=F.k4;have hai:=F.ai;have hbk:=F.bk;have il:=F.il;have kl:=F.kl;have ham:=F.aM;have hbm:=F.bM;obtain ⟨w0,hw0⟩:∃w0,(q - i) / 4=w0:=⟨_,rfl⟩;rw [hw0] at hf ⊢
   have hwn:w0<n:=by omega
   have e1:q / 4=i / 4+w0:=by omega
   have e2:(q - i+k) / 4=k / 4+w0:=by omega
   have e3:(q - i+k)%4=q%4:=by omega
   have hcw:=C.w w0 hwn
   have p1:¬(q=4294967232):=by omega
   have p2:¬(q - i+k=4294967232):=by omega
   have p3:¬(q=4294967236):=by omega
   have p4:¬(q - i+k=4294967236):=by omega
   have p5:¬(q=4294967240):=by omega
   have p6:¬(q - i+k=4294967240):=by omega
   have l1:i / 4+w0<a.n:=by omega
   have l2:k / 4+w0<b.n:=by omega
   have hatq:atT b.n (q - i+k) 4=atT a.n q 4:=by
    unfold atT;rw [e1,e2,e3];simp [l1,l2]
   rcases (show ins.op=0∨ins.op=1∨ins.op=2∨ins.op=3 by omega) with h | h | h | h
   · rw [h] at hf ⊢
     by_cases hz:atT a.n q 4=0
     · have hP:=core_put (g:=t.W.getD w0 false) (x:=a.M.getD (i / 4+w0) 0) (y:=b.M.getD (k / 4+w0) 0) C F.aR F.bR F.tR rfl rfl C.h C.cv ho.a hcw
       simp only [loadS,hatq,hz,p1,p2,e1,e2]
       simpa using hP
     · simp only [loadS,hatq,hz,p1,p2,e1,e2]
       simpa [hz] using C
   · rw [h] at hf ⊢
     have hwf:t.W.getD w0 false=false:=by simpa using hf
     rw [hwf,sh_f] at hcw;have hP:=core_put (g:=false) (x:=a.M.getD (i / 4+w0) 0 / 2 ^ (q%4*8)%256) (y:=b.M.getD (k / 4+w0) 0 / 2 ^ (q%4*8)%256) C F.aR F.bR F.tR rfl rfl C.h C.cv ho.a (by rw [hcw];rfl);simp only [loadS,e1,e2,e3,l1,l2]
     simpa using hP
   · rw [h] at hf ⊢
     by_cases hz:atT a.n q 4=0
     · have hw:=w_put (by omega) (by omega) F.tW C.w hwn ha
       simp only [storeS,hatq,hz,p3,p4,p5,p6,e1,e2];simp;exact ⟨C.r,hw,C.nz,C.cv,C.h,C.inp,C.out⟩
     · simp only [storeS,hatq,hz,p3,p4,p5,p6,e1,e2]
       simpa [hz] using C
   · rw [h] at hf ⊢
     simp at hf
     have hwf:t.W.getD w0 false=false:=by simpa using hf.1
     have haf:tagR t ins.a=false:=hf.2;rw [hwf,sh_f] at hcw;rw [haf,sh_f] at ha
     have hsame:t.W.set w0 false=t.W:=by
      have hl:=F.tW
      apply List.ext_getElem?
      intro j
      by_cases e:w0=j
      · subst e
        rw [List.getElem?_set_self (by omega),List.getElem?_eq_getElem (by omega)];rw [List.getD_eq_getElem?_getD,List.getElem?_eq_getElem (by omega)] at hwf
        simpa using hwf.symm
      · rw [List.getElem?_set_ne e]
     have hw:=w_put (g:=false) (x:=B.set (a.M.getD (i / 4+w0) 0) (reg a.s ins.a%256) (q%4)) (y:=B.set (b.M.getD (k / 4+w0) 0) (reg b.s ins.a%256) (q%4)) (by omega) (by omega) F.tW C.w hwn (by rw [hcw,ha];rfl);rw [hsame] at hw;simp only [storeS,e1,e2,e3,l1,l2];simp;exact ⟨C.r,hw,C.nz,C.cv,C.h,C.inp,C.out⟩
theorem load_pc (m:MS) (op q:Nat):(loadS m op q).2.2.pc=m.pc:=by
 unfold loadS
 split
 · split<;>rfl
 · split
   · split<;>rfl
   · split<;>rfl
theorem store_pc (B:Bytes) (m:MS) (op q x:Nat):(storeS B m op q x).2.pc=m.pc:=by
 unfold storeS
 split
 · split<;>rfl
 · split
   · rfl
   · split
     · rfl
     · split<;>rfl
theorem do_pc (U:Alu) (B:Bytes) (m:MS) (ins:I):(doI U B m ins).1.pc=m.pc:=by
 unfold doI
 by_cases h5:ins.kd=5
 · simp only [h5,if_true]
   split
   · exact store_pc B m _ _ _
   · show (if _ then _ else _:MS).pc=_
     split
     · exact load_pc m _ _
     · exact load_pc m _ _
 · simp only [if_neg h5]
   split
   · split
     · show (if _ then _ else _:MS).pc=_
       split<;>rfl
     · rfl
   · rfl
theorem step_sim {U:Alu} {B:Bytes} {dec:Nat→Option I} (hdec:∀w ins,dec w=some ins→IOk ins) {d i k n:Nat} {a b:MS} {t:TG} (F:Fix d i k n a b t) (S:Sim d i k n a b t) (hst:a.st=0)
 (h1:i≤a.pc) (h2:a.pc<i+4*n) (h3:(a.pc - i)%4=0) (hW:t.W.getD ((a.pc - i) / 4) false=false) :
 match dec (a.M.getD (a.pc / 4) 0) with
 | none=>(stepS U B dec b).2=2∧(stepS U B dec a).2=2∧Sim d i k n (stepS U B dec a).1 (stepS U B dec b).1 t
 | some ins=>(feedS t ins a.s i n).2=true→(stepS U B dec b).2=(stepS U B dec a).2 ∧
    Sim d i k n (stepS U B dec a).1 (stepS U B dec b).1 (if (stepS U B dec a).1.st=0 then (feedS t ins a.s i n).1 else t):=by
 have hn4:n≤4096:=by have:=F.ai;have:=F.a4;omega
 have hp:=pc_sh F.il F.kl F.dd hn4 h1 h2;have hbp:=S.pc;rw [hp] at hbp;have i4:=F.i4;have k4:=F.k4;have hai:=F.ai;have hbk:=F.bk;obtain ⟨w0,hw0⟩:∃w0,(a.pc - i) / 4=w0:=⟨_,rfl⟩;rw [hw0] at hW
 have hwn:w0<n:=by omega
 have e1:a.pc / 4=i / 4+w0:=by omega
 have e2:b.pc / 4=k / 4+w0:=by omega
 have z1:atT a.n a.pc 4=0:=by
  unfold atT;rw [if_pos (by omega),if_pos (by omega)]
 have z2:atT b.n b.pc 4=0:=by
  unfold atT;rw [if_pos (by omega),if_pos (by omega)]
 have hw:=S.core.w w0 hwn;rw [hW,sh_f] at hw
 have hbs:b.st=0:=by rw [S.st,hst]
 cases hdc:dec (a.M.getD (a.pc / 4) 0) with
 | none =>
   have hdb:dec (b.M.getD (b.pc / 4) 0)=none:=by rw [e2,hw,←e1];exact hdc
   simp only [stepS,hst,hbs,z1,z2,hdc,hdb];simp;exact ⟨⟨S.core.r,S.core.w,S.core.nz,S.core.cv,S.core.h,S.core.inp,S.core.out⟩,S.pc,rfl⟩
 | some ins =>
   intro hf
   have hdb:dec (b.M.getD (b.pc / 4) 0)=some ins:=by rw [e2,hw,←e1];exact hdc
   have ho:=hdec _ _ hdc
   have key:(doI U B b ins).2.2=(doI U B a ins).2.2∧(doI U B b ins).2.1=((doI U B a ins).2.1+d)%4294967296∧Core d i k n (doI U B a ins).1 (doI U B b ins).1 (if (doI U B a ins).2.2=0 then (feedS t ins a.s i n).1 else t):=by
    have hnx:(b.pc+4)%4294967296=((a.pc+4)%4294967296+d)%4294967296:=by rw [S.pc];omega
    rcases (show ins.kd=1∨ins.kd=2∨ins.kd=3∨ins.kd=4∨ins.kd=5∨ins.kd=6∨ins.kd=7 by have:=ho.kd;omega) with h | h | h | h | h | h | h
    · obtain ⟨q1,q2,q3,q4⟩:=do_alu (U:=U) (B:=B) F S.core ho (.inl h) hf
      exact ⟨q1,by rw [q2,q3,hnx],q4⟩
    · obtain ⟨q1,q2,q3,q4⟩:=do_alu (U:=U) (B:=B) F S.core ho (.inr h) hf
      exact ⟨q1,by rw [q2,q3,hnx],q4⟩
    · obtain ⟨q1,q2,q3,q4,q5⟩:=do_hi (U:=U) (B:=B) F S.core ho (.inl h) hf
      exact ⟨by rw [q1,q2],by rw [q3,q4,hnx],by rw [if_pos q2];exact q5⟩
    · obtain ⟨q1,q2,q3,q4,q5⟩:=do_hi (U:=U) (B:=B) F S.core ho (.inr h) hf
      exact ⟨by rw [q1,q2],by rw [q3,q4,hnx],by rw [if_pos q2];exact q5⟩
    · obtain ⟨q1,q2,q3,q4⟩:=do_mem (U:=U) (B:=B) F S.core ho h hf
      exact ⟨q1,by rw [q2,q3,hnx],q4⟩
    · obtain ⟨q1,q2,q3,q4⟩:=do_br (U:=U) (B:=B) F S.core S.pc ho (.inl h) hf
      exact ⟨by rw [q1,q2],q3,by rw [if_pos q2];exact q4⟩
    · obtain ⟨q1,q2,q3,q4⟩:=do_br (U:=U) (B:=B) F S.core S.pc ho (.inr h) hf
      exact ⟨by rw [q1,q2],q3,by rw [if_pos q2];exact q4⟩
   obtain ⟨q1,q2,q3⟩:=key;simp only [stepS,hst,hbs,z1,z2,hdc,hdb];simp;rw [q1];refine ⟨rfl,?_⟩
   by_cases hle:(doI U B a ins).2.2≤1
   · simp only [if_pos hle]
     exact ⟨⟨q3.r,q3.w,q3.nz,q3.cv,q3.h,q3.inp,q3.out⟩,q2,rfl⟩
   · simp only [if_neg hle]
     exact ⟨⟨q3.r,q3.w,q3.nz,q3.cv,q3.h,q3.inp,q3.out⟩,by show (doI U B b ins).1.pc=((doI U B a ins).1.pc+d)%4294967296;rw [do_pc,do_pc];exact S.pc,rfl⟩
structure MOk (m:MS):Prop where
 M:m.M.length=4096
 R:m.s.R.length=16
 n4:m.n≤4096
 w:∀x∈m.M,x<4294967296
 r:∀x∈m.s.R,x<4294967296
 h:m.s.H<4294967296
 i:∀x∈m.inp,x<4294967296
 o:∀x∈m.out,x<4294967296
 p:m.pc<4294967296
structure Good (U:Alu) (B:Bytes):Prop where
 x:∀op u b n,b<4294967296→n<4294967296→U.x op u b n<4294967296
 h:∀op u b n h,b<4294967296→n<4294967296→h<4294967296→U.h op u b n h<4294967296
 fl:∀p q r s,U.fl p q r s<4294967296
 set:∀x y r,x<4294967296→B.set x y r<4294967296
theorem set_lt {l:List Nat} {q x:Nat} (h:∀y∈l,y<4294967296) (hx:x<4294967296):∀y∈l.set q x,y<4294967296:=fun y hy=>by
 rcases List.mem_or_eq_of_mem_set hy with h1 | h1
 · exact h y h1
 · omega
theorem getD_lt {l:List Nat} (h:∀y∈l,y<4294967296) (q:Nat):l.getD q 0<4294967296:=by
 rw [List.getD_eq_getElem?_getD]
 cases hq:l[q]? with
 | none=>decide
 | some x=>exact h x (List.mem_of_getElem? hq)
theorem word32_lt (im:Int):word32 im<4294967296:=by unfold word32;omega
theorem alu_lt {U:Alu} {B:Bytes} (G:Good U B) {s:RS} (hr:∀x∈s.R,x<4294967296) (hh:s.H<4294967296) (op:Nat) (u:Bool) {b n:Nat} (hb:b<4294967296) (hn:n<4294967296):(aluS U s op u b n).x<4294967296∧(aluS U s op u b n).s.H<4294967296:=by
 unfold aluS
 split
 · refine ⟨?_,hh⟩
   show (if u then n*65536%4294967296 else n)<_
   split<;>omega
 · split
   · exact ⟨Nat.mod_lt _ (by decide),hh⟩
   · split
     · exact ⟨Nat.mod_lt _ (by decide),hh⟩
     · exact ⟨G.x _ _ _ _ hb hn,G.h _ _ _ _ _ hb hn hh⟩
theorem put_ok {m:MS} (h:MOk m) {s:RS} (hR:s.R=m.s.R) (hH:s.H<4294967296) {q x:Nat} (hx:x<4294967296):MOk {m with s:=showS (putR s q x) x} :=
 ⟨h.M,by show (s.R.set q x).length=16;rw [hR];simpa using h.R,h.n4,h.w,by show ∀y∈s.R.set q x,_;rw [hR];exact set_lt h.r hx,hH,h.i,h.o,h.p⟩
theorem load_ok {m:MS} (h:MOk m) (op q:Nat):(loadS m op q).1<4294967296∧MOk (loadS m op q).2.2∧(loadS m op q).2.2.s=m.s∧(loadS m op q).2.2.n=m.n:=by
 unfold loadS
 split
 · split
   · exact ⟨by show _%256<_;omega,h,rfl,rfl⟩
   · exact ⟨(show (0:Nat)<4294967296 by decide),h,rfl,rfl⟩
 · split
   · split
     · exact ⟨(show (0:Nat)<4294967296 by decide),h,rfl,rfl⟩
     · rename_i x r hi
       exact ⟨h.i x (by rw [hi];simp),⟨h.M,h.R,h.n4,h.w,h.r,h.h,fun y hy=>h.i y (by rw [hi];simp [hy]),h.o,h.p⟩,rfl,rfl⟩
   · split
     · exact ⟨getD_lt h.w _,h,rfl,rfl⟩
     · exact ⟨(show (0:Nat)<4294967296 by decide),h,rfl,rfl⟩
theorem store_ok {U:Alu} {B:Bytes} (G:Good U B) {m:MS} (h:MOk m) (op q:Nat) {x:Nat} (hx:x<4294967296):MOk (storeS B m op q x).2∧(storeS B m op q x).2.n=m.n:=by
 unfold storeS
 split
 · split
   · exact ⟨⟨by simpa using h.M,h.R,h.n4,set_lt h.w (G.set _ _ _ (getD_lt h.w _)),h.r,h.h,h.i,h.o,h.p⟩,rfl⟩
   · exact ⟨h,rfl⟩
 · split
   · exact ⟨⟨h.M,h.R,h.n4,h.w,h.r,h.h,h.i,fun y hy=>by
      rcases List.mem_append.1 hy with h1 | h1
      · exact h.o y h1
      · have:y=x:=by simpa using h1
        omega,h.p⟩,rfl⟩
   · split
     · exact ⟨h,rfl⟩
     · split
       · exact ⟨⟨by simpa using h.M,h.R,h.n4,set_lt h.w hx,h.r,h.h,h.i,h.o,h.p⟩,rfl⟩
       · exact ⟨h,rfl⟩
theorem reg_ok {m:MS} (h:MOk m) (q:Nat):reg m.s q<4294967296:=getD_lt h.r q
theorem doI_ok {U:Alu} {B:Bytes} (G:Good U B) {m:MS} (h:MOk m) (ins:I):MOk (doI U B m ins).1∧(doI U B m ins).1.n=m.n∧(doI U B m ins).2.1<4294967296:=by
 unfold doI
 by_cases h5:ins.kd=5
 · simp only [h5,if_true]
   split
   · obtain ⟨h1,h2⟩:=store_ok G h ins.op ((reg m.s ins.b+word32 ins.im)%4294967296) (reg_ok h ins.a)
     exact ⟨h1,h2,Nat.mod_lt _ (by decide)⟩
   · obtain ⟨h1,h2,h3,h4⟩:=load_ok h ins.op ((reg m.s ins.b+word32 ins.im)%4294967296)
     refine ⟨?_,?_,Nat.mod_lt _ (by decide)⟩
     · show MOk (if _ then _ else _)
       split
       · exact put_ok h2 rfl h2.h h1
       · exact h2
     · show (if _ then _ else _:MS).n=_
       split
       · exact h4
       · exact h4
 · simp only [if_neg h5]
   split
   · split
     · refine ⟨?_,?_,?_⟩
       · show MOk (if _ then _ else _)
         split
         · exact ⟨h.M,by show (m.s.R.set 15 _).length=16;simpa using h.R,h.n4,h.w,set_lt h.r (Nat.mod_lt _ (by decide)),h.h,h.i,h.o,h.p⟩
         · exact h
       · show (if _ then _ else _:MS).n=_
         split<;>rfl
       · show (if _ then _ else _)<_
         split
         · exact Nat.mod_lt _ (by decide)
         · exact reg_ok h _
     · exact ⟨h,rfl,Nat.mod_lt _ (by decide)⟩
   · refine ⟨?_,rfl,Nat.mod_lt _ (by decide)⟩
     show MOk {m with s:=(doS U m.s ins).1}
     unfold doS
     split
     · exact put_ok h rfl h.h h.h
     · split
       · exact put_ok h rfl h.h (G.fl _ _ _ _)
       · have hn:(if ins.kd=2 then word32 ins.im else reg m.s ins.c)<4294967296:=by
          split
          · exact word32_lt _
          · exact reg_ok h _
         have key:∀nn,nn<4294967296→MOk {m with s:=(if (aluS U m.s ins.op ins.u (reg m.s ins.b) nn).ok then (showS (putR (aluS U m.s ins.op ins.u (reg m.s ins.b) nn).s ins.a (aluS U m.s ins.op ins.u (reg m.s ins.b) nn).x) (aluS U m.s ins.op ins.u (reg m.s ins.b) nn).x,0) else (m.s,5):RS×Nat).1}:=fun nn hnn=>by
          have ha:=alu_lt G h.r h.h ins.op ins.u (reg_ok h ins.b) hnn
          split
          · exact put_ok h (alu_R U m.s ins.op ins.u _ _) ha.2 ha.1
          · exact h
         exact key _ hn
theorem step_ok {U:Alu} {B:Bytes} (G:Good U B) (dec:Nat→Option I) {m:MS} (h:MOk m):MOk (stepS U B dec m).1∧(stepS U B dec m).1.n=m.n:=by
 unfold stepS
 split
 · exact ⟨h,rfl⟩
 · split
   · exact ⟨⟨h.M,h.R,h.n4,h.w,h.r,h.h,h.i,h.o,h.p⟩,rfl⟩
   · split
     · exact ⟨⟨h.M,h.R,h.n4,h.w,h.r,h.h,h.i,h.o,h.p⟩,rfl⟩
     · rename_i ins _
       obtain ⟨h1,h2,h3⟩:=doI_ok G h ins
       show MOk (if _ then _ else _:MS)∧(if _ then _ else _:MS).n=_
       split
       · exact ⟨⟨h1.M,h1.R,h1.n4,h1.w,h1.r,h1.h,h1.i,h1.o,h3⟩,h2⟩
       · exact ⟨⟨h1.M,h1.R,h1.n4,h1.w,h1.r,h1.h,h1.i,h1.o,h1.p⟩,h2⟩
theorem feed_len (t:TG) (ins:I) (s:RS) (base words:Nat):(feedS t ins s base words).1.R.length=t.R.length∧(feedS t ins s base words).1.W.length=t.W.length:=by
 unfold feedS
 by_cases h3:ins.kd=3
 · simp [h3]
 by_cases h4:ins.kd=4
 · simp [h4]
 by_cases h12:ins.kd=1∨ins.kd=2
 · simp [h3,h4,h12]
 by_cases h7:ins.kd=7
 · by_cases hu:ins.u=true<;>simp [h7,hu]
 by_cases h6:ins.kd=6
 · by_cases hu:ins.u=true<;>simp [h6,hu]
 by_cases hb:tagR t ins.b=false
 · by_cases h2:2≤ins.op<;>simp [h3,h4,h12,h7,h6,hb,h2]
 by_cases hr:(reg s ins.b+word32 ins.im)%4294967296<base∨base+4*words≤(reg s ins.b+word32 ins.im)%4294967296
 · simp [h3,h4,h12,h7,h6,hb,hr]
 by_cases o0:ins.op=0
 · simp [h3,h4,h12,h7,h6,hb,hr,o0]
 by_cases o1:ins.op=1
 · simp [h3,h4,h12,h7,h6,hb,hr,o1]
 by_cases o2:ins.op=2
 · simp [h3,h4,h12,h7,h6,hb,hr,o2]
 simp [h3,h4,h12,h7,h6,hb,hr,o0,o1,o2]
end Go.Proofs.YtjmiaemabhlnjaaGreatDoor.Chains.Shifts
end
section
set_option linter.all false
set_option maxRecDepth 20000
namespace Go.Proofs.YtjmiaemabhlnjaaGreatDoor.Chains.Shifts
open Go Go.RowKit Go.Proofs.YtjmiaemabhlnjaaGreatDoor.Chains
abbrev insV (kd op a b c:Nat) (im:Int) (u:Bool):Array Value:=#[.int .i64 (kd:Int),.int .i64 (op:Int),.int .i64 (a:Int),.int .i64 (b:Int),.int .i64 (c:Int),.int .i64 im,.bool u]
theorem results_row_tmp {P:Program} {fn:Func} {p u:Tmp} {ty:TypeId} (h:fn.results=#[.cell p ty,.tmp u]) (tmps:Array Value) (w:World) (g:Nat) (t:TypeId) (cs:Array Value) (fr:Nat×Nat) (d:TypeDesc)
 (hp:tmps.getD p undef=.pointer (some ⟨g,0,none⟩)) (hg:w.heap[g]? = some (.cells cs t fr))
 (hu:P.underlying ty=some d) (hd:(match d with | .struct _ | .array _ _=>true | _=>false)=true) (hi:(P.info? ty).map (·.size)=some cs.size) :
 (results fn tmps).run P w=.ok (.tuple #[.agg cs,tmps.getD u undef]) w:=by
 have hp':tmps[p]?.getD undef=.pointer (some ⟨g,0,none⟩):=by simpa using hp
 simp [results,h,hp',asAddr,run_loadVar_row w g t ty cs fr d hg hu hd hi]
theorem i68l {s:RS} (h:s.Ok):(Tryz.prog.info? 68).map (·.size)=some s.arr.size:=by rw [h.cell.1];exact i68
structure DoW (w:World) (g:Nat) (s:RS) (kd op a b c:Nat) (im:Int) (u:Bool) (Z:Array Value):Prop where
 r:RB w g s
 i:w.heap[g+1]? = some (.cells (insV kd op a b c im u) 72 (0,0))
 z:w.heap[g+2]? = some (.cells Z 68 (0,0))
 zl:Z.size=21
theorem DoW.keep {w w':World} {g:Nat} {s:RS} {kd op a b c:Nat} {im:Int} {u:Bool} {Z:Array Value} (h:DoW w g s kd op a b c im u Z) (k:Bl w w'):DoW w' g s kd op a b c im u Z :=
 ⟨h.r.keep k,by rw [k.blk (Array.getElem?_eq_some_iff.1 h.i).1];exact h.i,by rw [k.blk (Array.getElem?_eq_some_iff.1 h.z).1];exact h.z,h.zl⟩
theorem DoW.grow {w w':World} {g g':Nat} {s:RS} {kd op a b c:Nat} {im:Int} {u:Bool} {Z:Array Value} (h:DoW w g s kd op a b c im u Z) (k:w.grownBy w' (some g')) (hg:g+2<g'):DoW w' g s kd op a b c im u Z :=
 ⟨⟨by rw [k.block _ h.r.lt (by simp;omega)];exact h.r.h,h.r.ok⟩,by rw [k.block _ (Array.getElem?_eq_some_iff.1 h.i).1 (by simp;omega)];exact h.i,by rw [k.block _ (Array.getElem?_eq_some_iff.1 h.z).1 (by simp;omega)];exact h.z,h.zl⟩
theorem DoW.ic {w:World} {g:Nat} {s:RS} {kd op a b c:Nat} {im:Int} {u:Bool} {Z:Array Value} (h:DoW w g s kd op a b c im u Z) {j:Nat} {v:Value} (hv:(insV kd op a b c im u)[j]? = some v):w.cell? ⟨g+1,j,none⟩=some v:=by
 rw [cell_of_row w (g+1) j _ _ (0,0) h.i];exact hv
theorem reg_at {s:RS} (h:s.Ok) {j:Nat} (hj:j<16):s.arr[j]? = some (.int .u32 ((reg s j:Nat):Int)):=by
 have hl:=h.len
 have hu:(u32n s.R).length=16:=by simpa [u32n] using hl
 have:j<s.R.length:=by omega
 simp [RS.arr,RS.cells,List.getElem?_append_left,hu,hj,u32n,reg,this,List.getD_eq_getElem?_getD]
theorem arr_R {s:RS} (h:s.Ok) {j:Nat} (hj:j<16) (x:Nat):s.arr.setIfInBounds j (.int .u32 (x:Int))=(putR s j x).arr:=by
 have hl:=h.len
 have hu:(u32n s.R).length=16:=by simpa [u32n] using hl
 show (List.toArray (u32n s.R++_)).setIfInBounds j _=List.toArray (u32n (s.R.set j x)++_)
 rw [List.setIfInBounds_toArray,List.set_append_left _ _ (by omega),u32n,u32n,List.map_set]
 rfl
theorem ok_put {s:RS} (h:s.Ok) (j:Nat) {x:Nat} (hx:x<4294967296):(putR s j x).Ok :=
 ⟨by show (s.R.set j x).length=16;simpa using h.len,set_lt h.lt hx,h.hlt⟩
theorem ok_show {s:RS} (h:s.Ok) (x:Nat):(showS s x).Ok:=⟨h.len,h.lt,h.hlt⟩
theorem RB.setR {w:World} {g:Nat} {s:RS} (h:RB w g s) {j:Nat} (hj:j<16) {x:Nat} (hx:x<4294967296):RB (w.setCell ⟨g,j,none⟩ (.int .u32 (x:Int))) g (putR s j x) :=
 ⟨by rw [heap_setCell_same w g j _ _ _ h.h,arr_R h.ok hj],ok_put h.ok j hx⟩
abbrev zR:Array Value:=#[.int .u32 0,.int .u32 0,.int .u32 0,.int .u32 0,.int .u32 0,.int .u32 0,.int .u32 0,.int .u32 0,.int .u32 0,.int .u32 0,.int .u32 0,.int .u32 0,.int .u32 0,.int .u32 0,.int .u32 0,.int .u32 0,.int .u32 0,.bool false,.bool false,.bool false,.bool false]
theorem i72:(Tryz.prog.info? 72).map (·.size)=some 7:=by kernel_rfl
structure RN (w:World) (g:Nat) (s:RS) (RV:Array Value):Prop where
 b:RB w g s
 e:s.arr=RV
theorem RN.h {w:World} {g:Nat} {s:RS} {RV:Array Value} (h:RN w g s RV):w.heap[g]? = some (.cells RV 68 (0,0)):=by rw [←h.e];exact h.b.h
theorem RN.sz {w:World} {g:Nat} {s:RS} {RV:Array Value} (h:RN w g s RV):(Tryz.prog.info? 68).map (·.size)=some RV.size:=by rw [←h.e];exact i68l h.b.ok
theorem RN.one {w:World} {g:Nat} {s:RS} {RV:Array Value} (h:RN w g s RV):RV.all (·.oneCell')=true:=by rw [←h.e];exact s.one
theorem RN.l21 {w:World} {g:Nat} {s:RS} {RV:Array Value} (h:RN w g s RV):RV.size=21:=by rw [←h.e];exact h.b.ok.cell.1
theorem do_z {w w1 w2 w3:World} {s:RS} {kd op a b c:Nat} {im:Int} {u:Bool} {x:Value} (D1:DoW w1 w.heap.size s kd op a b c im u zR) (D2:DoW w2 w.heap.size s kd op a b c im u zR) (B3:Bl (w2.setCell ⟨w1.heap.size,a,none⟩ x) w3):w3.heap[w.heap.size+2]? = some (.cells zR 68 (0,0)) :=
 ((D2.grow (grown_setG w2 w1.heap.size a x) (Array.getElem?_eq_some_iff.1 D1.z).1).keep B3).z
theorem do_bl {w w1 w2 w3:World} {a:Nat} {x:Value} {V:Array Value} (B1:Bl w w1) (B2:Bl w w2) (B3:Bl (w2.setCell ⟨w1.heap.size,a,none⟩ x) w3):Bl w (w3.setRow (w.heap.size+2) V) :=
 ⟨below_setRow ((B2.puts (p:=⟨w1.heap.size,a,none⟩) B1.out.size x).trans B3).out (by omega) _⟩
theorem sz3 {s:RS} {RV:Array Value} (h:s.Ok) (e:s.arr=RV):(Tryz.prog.info? 68).map (·.size)=some RV.size∧RV.size=21∧RV.all (·.oneCell')=true:=by subst e;exact ⟨i68l h,h.cell.1,s.one⟩
theorem do_hi_any {s:RS} (h:s.Ok) {op a b c:Nat} {im:Int} {u:Bool} (ha:a<16) (hm:∀wx,Calls Tryz.prog 81 #[.agg (insV 3 op a b c im u)] wx fun e w'=>e=.returned (.bool true)∧Bl wx w') (w:World) :
 Calls Tryz.prog 86 #[.agg s.arr,.agg (insV 3 op a b c im u)] w fun e w'=>e=.returned (.tuple #[.agg (showS (putR s a s.H) s.H).arr,.int .i64 0])∧Bl w w':=by
 have HM:=Aside.mk hm;have HS:=Aside.mk h;obtain ⟨RV,hRV⟩:∃RV,s.arr=RV:=⟨_,rfl⟩;obtain ⟨RV2,hRV2⟩:∃RV2,(putR s a s.H).arr=RV2:=⟨_,rfl⟩;obtain ⟨RV3,hRV3⟩:∃RV3,(showS (putR s a s.H) s.H).arr=RV3:=⟨_,rfl⟩;have HSh:=Aside.mk (fun wx=>show_any (ok_put h a h.hlt) s.H h.hlt wx);rw [hRV2,hRV3] at HSh;rw [hRV,hRV3];obtain ⟨w0,hw0⟩:∃w0,((w.alloc (.cells RV 68)).alloc (.cells (insV 3 op a b c im u) 72)).alloc (.cells zR 68)=w0:=⟨_,rfl⟩
 have hD:DoW w0 w.heap.size s 3 op a b c im u zR:=by
  rw [←hw0,←hRV]
  have k:((w.alloc (.cells s.arr 68)).alloc (.cells (insV 3 op a b c im u) 72)).heap.size=w.heap.size+2:=by simp
  have n2:=heap_alloc_new ((w.alloc (.cells s.arr 68)).alloc (.cells (insV 3 op a b c im u) 72)) (.cells zR 68);rw [k] at n2;exact ⟨⟨(heap_alloc_old _ _ (by simp;omega)).trans (heap_alloc2_old w _ _),h⟩,(heap_alloc_old _ _ (by simp)).trans (heap_alloc2_new w _ _),n2,rfl⟩
 have D0:=Aside.mk hD;have B0:=Aside.mk (show Bl w w0 by rw [←hw0];exact (((Bl.refl w).alloc _).alloc _).alloc _);have E1:=Aside.mk hRV;have E2:=Aside.mk hRV2;have E3:=Aside.mk hRV3;have Z3:=Aside.mk (sz3 (ok_show (ok_put h a h.hlt) s.H) hRV3);have HH:=h.hlt;obtain ⟨H,hH⟩:∃H,s.H=H:=⟨_,rfl⟩;rw [hH] at HSh E2 E3 HH;clear hm h hD hRV hRV2 hRV3;go_enter Tryz.func86,Tryz.ntmps86
 go_wp2_with (first
  | (go_at_call 81;with_reducible refine (HM.out _).mono ?_;rintro e w1 ⟨rfl,hb⟩;have D1:=Aside.mk (D0.out.keep hb);have B1:=Aside.mk (B0.out.trans hb);clear hb
     have c0:=D1.out.ic (j:=0) rfl;have c2:=D1.out.ic (j:=2) rfl;have cH:=D1.out.r.cell (arr_at D1.out.r.ok).1;rw [hH] at cH
     have R1:=Aside.mk (RN.mk D1.out.r E1.out))
  | (refine wpList_load_row rfl 72 (.tmp 3) rfl (w.heap.size+1) rfl 72 _ (0,0) _ D0.out.i Tryz.underlying72 rfl i72 ?_)
  | (refine wpList_load_row rfl 68 (.tmp 2) rfl w.heap.size rfl 68 RV (0,0) _ R1.out.h Tryz.underlying68 rfl R1.out.sz ?_)
  | (refine wpList_store_row rfl 68 (.tmp 6) (.tmp 19) rfl w1.heap.size RV rfl rfl 68 _ (heap_alloc_new w1 _) R1.out.sz (by rw [R1.out.l21];rfl) R1.out.one ?_
     rw [World.setRow_alloc_new];obtain ⟨w2,hw2⟩:∃w2,w1.alloc (.cells RV 68)=w2:=⟨_,rfl⟩;rw [hw2];have B2:=Aside.mk (show Bl w1 w2 by rw [←hw2];exact (Bl.refl w1).alloc _);have R2:=Aside.mk (show RB w2 w1.heap.size s from ⟨by rw [←hw2,E1.out];exact heap_alloc_new w1 _,HS.out⟩);have D2:=Aside.mk (D1.out.keep B2.out);clear hw2 c0 c2 cH;have c0:=D2.out.ic (j:=0) rfl;have c2:=D2.out.ic (j:=2) rfl;have cH:=D2.out.r.cell (arr_at D2.out.r.ok).1;rw [hH] at cH
     have ca:=R2.out.cell (reg_at R2.out.ok ha);have fa:=R2.out.frz a)
  | (refine wpList_load_row rfl 68 (.tmp 6) rfl w1.heap.size rfl 68 RV2 (0,0) _ ((R2.out.setR ha HH).h.trans (by rw [E2.out])) Tryz.underlying68 rfl (by rw [←E2.out];exact i68l (ok_put HS.out a HH)) ?_)
  | (go_at_call 85;with_reducible refine (HSh.out _).mono ?_;rintro e w3 ⟨rfl,hb3⟩;have B3:=Aside.mk hb3;clear hb3)
  | (refine wpList_store_row rfl 68 (.tmp 4) (.tmp 68) rfl (w.heap.size+2) RV3 rfl rfl 68 _ (do_z D1.out D2.out B3.out) Z3.out.1 (by rw [Z3.out.2.1];rfl) Z3.out.2.2 ?_))
 refine bodyPost_ret (results_row_tmp rfl _ _ (w.heap.size+2) 68 RV3 (0,0) _ rfl (setRow_heap _ _ _ _ _ (0,0) (do_z D1.out D2.out B3.out)) Tryz.underlying68 rfl Z3.out.1) rfl ?_;exact ⟨rfl,do_bl B1.out (B1.out.trans B2.out) B3.out⟩
theorem do_fl_any {s:RS} (h:s.Ok) {op a b c:Nat} {im:Int} {u:Bool} (ha:a<16) (hm:∀wx,Calls Tryz.prog 81 #[.agg (insV 4 op a b c im u)] wx fun e w'=>e=.returned (.bool true)∧Bl wx w') (w:World) :
 Calls Tryz.prog 86 #[.agg s.arr,.agg (insV 4 op a b c im u)] w fun e w'=>e=.returned (.tuple #[.agg (showS (putR s a (flN s.N s.Z s.C s.V)) (flN s.N s.Z s.C s.V)).arr,.int .i64 0])∧Bl w w':=by
 have HM:=Aside.mk hm;have HS:=Aside.mk h;obtain ⟨RV,hRV⟩:∃RV,s.arr=RV:=⟨_,rfl⟩;obtain ⟨RV2,hRV2⟩:∃RV2,(putR s a (flN s.N s.Z s.C s.V)).arr=RV2:=⟨_,rfl⟩;obtain ⟨RV3,hRV3⟩:∃RV3,(showS (putR s a (flN s.N s.Z s.C s.V)) (flN s.N s.Z s.C s.V)).arr=RV3:=⟨_,rfl⟩;have HSh:=Aside.mk (fun wx=>show_any (ok_put h a (fl_lt s.N s.Z s.C s.V)) (flN s.N s.Z s.C s.V) (fl_lt s.N s.Z s.C s.V) wx);rw [hRV2,hRV3] at HSh
 rw [hRV,hRV3];obtain ⟨w0,hw0⟩:∃w0,((w.alloc (.cells RV 68)).alloc (.cells (insV 4 op a b c im u) 72)).alloc (.cells zR 68)=w0:=⟨_,rfl⟩
 have hD:DoW w0 w.heap.size s 4 op a b c im u zR:=by
  rw [←hw0,←hRV]
  have k:((w.alloc (.cells s.arr 68)).alloc (.cells (insV 4 op a b c im u) 72)).heap.size=w.heap.size+2:=by simp
  have n2:=heap_alloc_new ((w.alloc (.cells s.arr 68)).alloc (.cells (insV 4 op a b c im u) 72)) (.cells zR 68);rw [k] at n2;exact ⟨⟨(heap_alloc_old _ _ (by simp;omega)).trans (heap_alloc2_old w _ _),h⟩,(heap_alloc_old _ _ (by simp)).trans (heap_alloc2_new w _ _),n2,rfl⟩
 have D0:=Aside.mk hD;have B0:=Aside.mk (show Bl w w0 by rw [←hw0];exact (((Bl.refl w).alloc _).alloc _).alloc _);have E1:=Aside.mk hRV;have E2:=Aside.mk hRV2;have E3:=Aside.mk hRV3;have Z3:=Aside.mk (sz3 (ok_show (ok_put h a (fl_lt s.N s.Z s.C s.V)) (flN s.N s.Z s.C s.V)) hRV3);have HH:=fl_lt s.N s.Z s.C s.V;have HF:=Aside.mk (fun wx=>flags_0 RV s.N s.Z s.C s.V (by rw [←hRV];exact (arr_at h).2.1) (by rw [←hRV];exact (arr_at h).2.2.1) (by rw [←hRV];exact (arr_at h).2.2.2.1) (by rw [←hRV];exact (arr_at h).2.2.2.2) wx)
 obtain ⟨H,hH⟩:∃H,flN s.N s.Z s.C s.V=H:=⟨_,rfl⟩;rw [hH] at HSh E2 E3 HH HF;clear hm h hD hRV hRV2 hRV3;go_enter Tryz.func86,Tryz.ntmps86
 go_wp2_with (first
  | (go_at_call 81;with_reducible refine (HM.out _).mono ?_;rintro e w1 ⟨rfl,hb⟩;have D1:=Aside.mk (D0.out.keep hb);have B1:=Aside.mk (B0.out.trans hb);clear hb
     have c0:=D1.out.ic (j:=0) rfl;have c2:=D1.out.ic (j:=2) rfl
     have R1:=Aside.mk (RN.mk D1.out.r E1.out))
  | (refine wpList_load_row rfl 72 (.tmp 3) rfl (w.heap.size+1) rfl 72 _ (0,0) _ D0.out.i Tryz.underlying72 rfl i72 ?_)
  | (refine wpList_load_row rfl 68 (.tmp 2) rfl w.heap.size rfl 68 RV (0,0) _ R1.out.h Tryz.underlying68 rfl R1.out.sz ?_)
  | (refine wpList_store_row rfl 68 (.tmp 6) (.tmp 19) rfl w1.heap.size RV rfl rfl 68 _ (heap_alloc_new w1 _) R1.out.sz (by rw [R1.out.l21];rfl) R1.out.one ?_
     rw [World.setRow_alloc_new];obtain ⟨w2a,hw2⟩:∃w2,w1.alloc (.cells RV 68)=w2:=⟨_,rfl⟩;rw [hw2];have B2a:=Aside.mk (show Bl w1 w2a by rw [←hw2];exact (Bl.refl w1).alloc _);have R2a:=Aside.mk (show RB w2a w1.heap.size s from ⟨by rw [←hw2,E1.out];exact heap_alloc_new w1 _,HS.out⟩);have D2a:=Aside.mk (D1.out.keep B2a.out);clear hw2 c0 c2;have c0:=D2a.out.ic (j:=0) rfl;have c2:=D2a.out.ic (j:=2) rfl
     have R1a:=Aside.mk (RN.mk D2a.out.r E1.out))
  | (refine wpList_load_row rfl 68 (.tmp 2) rfl w.heap.size rfl 68 RV (0,0) _ R1a.out.h Tryz.underlying68 rfl R1a.out.sz ?_)
  | (go_at_call 121;with_reducible refine (HF.out _).mono ?_;rintro e w2 ⟨rfl,hb⟩
     have B2:=Aside.mk (B2a.out.trans hb);have R2:=Aside.mk (R2a.out.keep hb);have D2:=Aside.mk (D2a.out.keep hb);clear hb c0 c2;have c0:=D2.out.ic (j:=0) rfl;have c2:=D2.out.ic (j:=2) rfl
     have ca:=R2.out.cell (reg_at R2.out.ok ha);have fa:=R2.out.frz a)
  | (refine wpList_load_row rfl 68 (.tmp 6) rfl w1.heap.size rfl 68 RV2 (0,0) _ ((R2.out.setR ha HH).h.trans (by rw [E2.out])) Tryz.underlying68 rfl (by rw [←E2.out];exact i68l (ok_put HS.out a HH)) ?_)
  | (go_at_call 85;with_reducible refine (HSh.out _).mono ?_;rintro e w3 ⟨rfl,hb3⟩;have B3:=Aside.mk hb3;clear hb3)
  | (refine wpList_store_row rfl 68 (.tmp 4) (.tmp 68) rfl (w.heap.size+2) RV3 rfl rfl 68 _ (do_z D1.out D2.out B3.out) Z3.out.1 (by rw [Z3.out.2.1];rfl) Z3.out.2.2 ?_))
 refine bodyPost_ret (results_row_tmp rfl _ _ (w.heap.size+2) 68 RV3 (0,0) _ rfl (setRow_heap _ _ _ _ _ (0,0) (do_z D1.out D2.out B3.out)) Tryz.underlying68 rfl Z3.out.1) rfl ?_;exact ⟨rfl,do_bl B1.out (B1.out.trans B2.out) B3.out⟩
def bv (l:List Bool):List Value:=l.map Value.bool
def tgL (t:TG) (sl:Value):List Value:=bv t.R++[sl,.bool t.NZ,.bool t.CV]
def tgV (t:TG) (sl:Value):Array Value:=(tgL t sl).toArray
structure RdB (w:World) (ad:Addr) (c:Nat) (l:List Bool):Prop where
 le:l.length≤c
 mx:c≤maxLen
 cells:∀j x,l[j]? = some x→w.cell? (ad.add j)=some (.bool x)
theorem RdB.keep {w w':World} {ad:Addr} {c:Nat} {l:List Bool} (h:RdB w ad c l) (k:Bl w w'):RdB w' ad c l:=⟨h.le,h.mx,fun j x hj=>k.cell (h.cells j x hj)⟩
theorem RdB.vals {w:World} {ad:Addr} {c:Nat} {l:List Bool} (h:RdB w ad c l):∀j u,(bv l)[j]? = some u→w.cell? (ad.add j)=some u:=by
 intro j u hj;rw [bv,List.getElem?_map] at hj
 cases hq:l[j]? with
 | none=>rw [hq] at hj;cases hj
 | some x =>
   rw [hq] at hj;obtain rfl:=Option.some.inj hj;exact h.cells j x hq
theorem bv_one (l:List Bool):∀u∈bv l,u.oneCell'=true:=by
 intro u hu;obtain ⟨x,_,rfl⟩:=List.mem_map.1 hu
 rfl
structure OwB (w:World) (base g n cap:Nat) (l:List Bool):Prop where
 len:l.length=n
 le:n≤cap
 mx:cap≤maxLen
 hb:base≤g
 own:w.ownsRow base 4 1 (.slice (some ⟨g,0,none⟩) n cap) n (bv l)
theorem OwB.keep {w w':World} {base g n cap:Nat} {l:List Bool} (h:OwB w base g n cap l) (k:Bl w w'):OwB w' base g n cap l:=⟨h.len,h.le,h.mx,h.hb,own_bl h.own k⟩
theorem OwB.at {w:World} {base g n cap:Nat} {l:List Bool} (h:OwB w base g n cap l) {j:Nat} {x:Bool} (hx:l[j]? = some x):w.cell? ⟨g,j,none⟩=some (.bool x)∧w.frozen? ⟨g,j,none⟩=false:=by
 have hj:j<n:=by rw [←h.len];exact (List.getElem?_eq_some_iff.1 hx).1
 refine ⟨?_,h.own.frozenAt j⟩;rw [h.own.cellAt j (by omega)];simp [bv,List.getElem?_map,hx]
theorem OwB.put {w:World} {base g n cap:Nat} {l:List Bool} (h:OwB w base g n cap l) (j:Nat) (x:Bool):OwB (w.setCell ⟨g,j,none⟩ (.bool x)) base g n cap (l.set j x) :=
 ⟨by simpa using h.len,h.le,h.mx,h.hb,by
   have:=(h.own.stored j (.bool x)).1
   simpa [bv,List.map_set] using this⟩
theorem OwB.rd {w:World} {base g n cap:Nat} {l:List Bool} (h:OwB w base g n cap l):RdB w ⟨g,0,none⟩ cap l :=
 ⟨by rw [h.len];exact h.le,h.mx,fun j x hx=>by
   have e:(⟨g,0,none⟩:Addr).add j=⟨g,j,none⟩:=by unfold Addr.add;split<;>simp_all
   rw [e]
   exact (h.at hx).1⟩
theorem OwB.off {w:World} {base g n cap:Nat} {l:List Bool} (h:OwB w base g n cap l) {g':Nat} (hne:g≠g') (i:Nat) (v:Value):OwB (w.setCell ⟨g',i,none⟩ v) base g n cap l :=
 ⟨h.len,h.le,h.mx,h.hb,own_set h.own (fun e=>hne (Option.some.inj e)) i v⟩
theorem OwB.lt {w:World} {base g n cap:Nat} {l:List Bool} (h:OwB w base g n cap l):g<w.heap.size:=(h.own.lt g rfl).2
theorem own_owb {w:World} {base n:Nat} {v:Value} {l:List Bool} (h:w.ownsRow base 4 1 v n (bv l)) (hv:v≠.slice none 0 0):∃g cap,v=.slice (some ⟨g,0,none⟩) n cap∧OwB w base g n cap l:=by
 obtain ⟨h1,h2⟩:=h
 rcases h2 with ⟨rfl,h0⟩ | ⟨g,cap,cur,rfl,hg,hh,hl,hm,hs,ht⟩
 · exact absurd rfl hv
 · exact ⟨g,cap,rfl,by simpa [bv] using h1,hl,hm,hg,⟨h1,.inr ⟨g,cap,cur,rfl,hg,hh,hl,hm,hs,ht⟩⟩⟩
theorem infoB:(Tryz.prog.info? 4).map (fun i=>(i.zero,i.size,i.bytes))=some (some (.bool false),1,1):=by kernel_rfl
structure TB (w:World) (g:Nat) (t:TG) (sl:Value):Prop where
 h:w.heap[g]? = some (.cells (tgV t sl) 62 (0,0))
 len:t.R.length=16
theorem TB.lt {w:World} {g:Nat} {t:TG} {sl:Value} (h:TB w g t sl):g<w.heap.size:=(Array.getElem?_eq_some_iff.1 h.h).1
theorem TB.keep {w w':World} {g:Nat} {t:TG} {sl:Value} (h:TB w g t sl) (k:Bl w w'):TB w' g t sl:=⟨by rw [k.blk h.lt];exact h.h,h.len⟩
theorem TB.frz {w:World} {g:Nat} {t:TG} {sl:Value} (h:TB w g t sl) (j:Nat):w.frozen? ⟨g,j,none⟩=false:=frozen_of_row w g j _ _ h.h
theorem TB.bl {t:TG} (h:t.R.length=16):(bv t.R).length=16:=by simpa [bv] using h
theorem TB.rc {w:World} {g:Nat} {t:TG} {sl:Value} (h:TB w g t sl) {j:Nat} (hj:j<16):w.cell? ⟨g,j,none⟩=some (.bool (tagR t j)):=by
 rw [cell_of_row w g j _ _ (0,0) h.h];have hl:=h.len;have:=TB.bl hl
 show (tgL t sl).toArray[j]? = _
 simp [tgL,List.getElem?_append_left,this,hj,bv,tagR,hl,List.getD_eq_getElem?_getD]
theorem TB.cs {w:World} {g:Nat} {t:TG} {sl:Value} (h:TB w g t sl):w.cell? ⟨g,16,none⟩=some sl∧w.cell? ⟨g,17,none⟩=some (.bool t.NZ)∧w.cell? ⟨g,18,none⟩=some (.bool t.CV):=by
 have:=TB.bl h.len
 refine ⟨?_,?_,?_⟩<;>(rw [cell_of_row w g _ _ _ (0,0) h.h];show (tgL t sl).toArray[_]? = _;simp [tgL,List.getElem?_append_right,this])
theorem TB.off {w:World} {g:Nat} {t:TG} {sl:Value} (h:TB w g t sl) {g':Nat} (hne:g'≠g) (i:Nat) (v:Value):TB (w.setCell ⟨g',i,none⟩ v) g t sl :=
 ⟨by rw [heap_setCell_other w ⟨g',i,none⟩ g v (fun e=>hne (by simp [e]))];exact h.h,h.len⟩
theorem TB.setR {w:World} {g:Nat} {t:TG} {sl:Value} (h:TB w g t sl) {j:Nat} (hj:j<16) (b:Bool):TB (w.setCell ⟨g,j,none⟩ (.bool b)) g {t with R:=t.R.set j b} sl:=by
 have hl:=h.len;have hb:=TB.bl hl;refine ⟨?_,by simpa using hl⟩;rw [heap_setCell_same w g j _ _ _ h.h]
 congr 2
 show (tgL t sl).toArray.setIfInBounds j _=(tgL _ sl).toArray
 rw [List.setIfInBounds_toArray];simp [tgL,List.set_append_left,hb,hj,bv,List.map_set,hl]
theorem TB.setNZ {w:World} {g:Nat} {t:TG} {sl:Value} (h:TB w g t sl) (b:Bool):TB (w.setCell ⟨g,17,none⟩ (.bool b)) g {t with NZ:=b} sl:=by
 have hb:=TB.bl h.len;refine ⟨?_,h.len⟩;rw [heap_setCell_same w g 17 _ _ _ h.h]
 show some (Obj.cells ((tgL t sl).toArray.setIfInBounds 17 _) 62 (0,0))=some (Obj.cells (tgL _ sl).toArray 62 (0,0))
 rw [List.setIfInBounds_toArray];simp [tgL,List.set_append_right,hb]
theorem TB.setCV {w:World} {g:Nat} {t:TG} {sl:Value} (h:TB w g t sl) (b:Bool):TB (w.setCell ⟨g,18,none⟩ (.bool b)) g {t with CV:=b} sl:=by
 have hb:=TB.bl h.len;refine ⟨?_,h.len⟩;rw [heap_setCell_same w g 18 _ _ _ h.h]
 show some (Obj.cells ((tgL t sl).toArray.setIfInBounds 18 _) 62 (0,0))=some (Obj.cells (tgL _ sl).toArray 62 (0,0))
 rw [List.setIfInBounds_toArray];simp [tgL,List.set_append_right,hb]
theorem TB.setW {w:World} {g:Nat} {t:TG} {sl:Value} (h:TB w g t sl) (sl':Value):TB (w.setCell ⟨g,16,none⟩ sl') g t sl':=by
 have hb:=TB.bl h.len;refine ⟨?_,h.len⟩;rw [heap_setCell_same w g 16 _ _ _ h.h]
 show some (Obj.cells ((tgL t sl).toArray.setIfInBounds 16 _) 62 (0,0))=some (Obj.cells (tgL _ sl').toArray 62 (0,0))
 rw [List.setIfInBounds_toArray];simp [tgL,List.set_append_right,hb]
theorem i62:(Tryz.prog.info? 62).map (·.size)=some 19:=by kernel_rfl
theorem tg_size {t:TG} (h:t.R.length=16) (sl:Value):(tgV t sl).size=19:=by
 have:=TB.bl h
 show (tgL t sl).toArray.size=19
 simp [tgL,this]
theorem tg_one {t:TG} {sl:Value} (h:sl.oneCell'=true):(tgV t sl).all (·.oneCell')=true :=
 all_oneCell_toArray (cs:=tgL t sl) (by
  intro v hv;simp only [tgL,List.mem_append,List.mem_cons,List.not_mem_nil,or_false] at hv
  rcases hv with h1 | rfl | rfl | rfl
  · exact bv_one _ v h1
  · exact h
  · rfl
  · rfl)
theorem i62s {t:TG} (h:t.R.length=16) (sl:Value):(Tryz.prog.info? 62).map (·.size)=some (tgV t sl).size:=by rw [tg_size h];exact i62
theorem keep4 {W w:World} {g:Nat} {p1 p2 p3 p4:Addr} {v1 v2 v3 v4:Value} (h1:W.cell? p1=some v1) (h2:W.cell? p2=some v2) (h3:W.cell? p3=some v3) (h4:W.cell? p4=some v4) (n1:p1.block≠g) (n2:p2.block≠g) (n3:p3.block≠g) (n4:p4.block≠g) (k:W.grownBy w (some g)) :
 w.cell? p1=some v1∧w.cell? p2=some v2∧w.cell? p3=some v3∧w.cell? p4=some v4 :=
 ⟨k.cell h1 (by simp;exact n1),k.cell h2 (by simp;exact n2),k.cell h3 (by simp;exact n3),k.cell h4 (by simp;exact n4)⟩
theorem unitC_0 {op k:Nat} {w:World} (h:UnitC op k #[] w) {g:Nat} {s s2:RS} {u ok:Bool} {b n x:Nat} (hr:RB w g s) (hl:b<4294967296∧n<4294967296) (he:(aluS UA s op u b n).ok=ok∧(aluS UA s op u b n).x=x∧(aluS UA s op u b n).s=s2) :
 Calls Tryz.prog k #[.pointer (some ⟨g,0,none⟩),.int .u32 (b:Int),.int .u32 (n:Int),.bool u] w fun e w'=>e=.returned (.tuple #[.int .u32 (x:Int),.bool ok])∧RB w' g s2∧w.grownBy w' (some g):=by
 have:=h w (Bl.refl w) g s hr u b n hl.1 hl.2;rw [he.1,he.2.1,he.2.2] at this
 simpa using this
theorem unitC_1 {op k p:Nat} {w:World} (h:UnitC op k #[pV p] w) {g:Nat} {s s2:RS} {u ok:Bool} {b n x:Nat} (hr:RB w g s) (hl:b<4294967296∧n<4294967296) (he:(aluS UA s op u b n).ok=ok∧(aluS UA s op u b n).x=x∧(aluS UA s op u b n).s=s2) :
 Calls Tryz.prog k #[.pointer (some ⟨g,0,none⟩),.int .u32 (b:Int),.int .u32 (n:Int),.bool u,.pointer (some ⟨p,0,none⟩)] w fun e w'=>e=.returned (.tuple #[.int .u32 (x:Int),.bool ok])∧RB w' g s2∧w.grownBy w' (some g):=by
 have:=h w (Bl.refl w) g s hr u b n hl.1 hl.2;rw [he.1,he.2.1,he.2.2] at this
 simpa using this
theorem field_0 (v:Value) (w:World):(Instr.field 205 (.agg #[v]) 0).run Tryz.prog w=.ok v w:=by kernel_rfl
theorem RB.drew {w:World} {g:Nat} {s:RS} (h:RB w g s):RB w.drew g s:=⟨h.h,h.ok⟩
theorem alu_s_ok {s:RS} (h:s.Ok) (op:Nat) (u:Bool) {b n:Nat} (hb:b<4294967296) (hn:n<4294967296):(aluS UA s op u b n).x<4294967296∧(aluS UA s op u b n).s.Ok:=by
 have hR:=alu_R UA s op u b n
 have hx:(aluS UA s op u b n).x<4294967296∧(aluS UA s op u b n).s.H<4294967296:=by
  unfold aluS
  split
  · refine ⟨?_,h.hlt⟩
    show (if u then n*65536%4294967296 else n)<_
    split<;>omega
  · split
    · exact ⟨Nat.mod_lt _ (by decide),h.hlt⟩
    · split
      · exact ⟨Nat.mod_lt _ (by decide),h.hlt⟩
      · exact ⟨ua_x _ _ _ _ hb hn,ua_h _ _ _ _ _ hb hn h.hlt⟩
 exact ⟨hx.1,by rw [hR];exact h.len,by rw [hR];exact h.lt,hx.2⟩
theorem reg_lt' {s:RS} (h:s.Ok) (j:Nat):reg s j<4294967296:=getD_lt h.lt j
end Go.Proofs.YtjmiaemabhlnjaaGreatDoor.Chains.Shifts
end
