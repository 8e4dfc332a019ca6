/- A part of the proof of TopShifts. -/
import Derived.Test.YtjmiaemabhlnjaaGreatDoorR7
import Derived.Laws.BitsLemmas
section
set_option linter.all false
set_option maxRecDepth 20000
namespace Go.Proofs.YtjmiaemabhlnjaaGreatDoor.Isa
open Go Go.RowKit Go.Proofs.YtjmiaemabhlnjaaGreatDoor.FieldM Go.Proofs.YtjmiaemabhlnjaaGreatDoor.Field
theorem may_of {i:Ins} (h1:1≤i.kd) (h7:i.kd≤7) (o0:0≤i.op) (o1:i.op≤15) (hr:readN (wordN i)=i) (ht:tailN i.kd i.op i.b i.im i.u=true):mayN i=true:=by
 rw [mayN_is,hr,ht];simp [h1,h7,o0,o1]
theorem dec_b2i (u:Bool) {p:Prop} [Decidable p] (h:p↔b2i u=1):decide p=u:=by
 cases u
 · exact decide_eq_false (by rw [h];decide)
 · exact decide_eq_true (by rw [h];rfl)
theorem may_reg {op a b c:Int} {u:Bool} (o0:0≤op) (o1:op≤11) (a0:0≤a) (a1:a≤15) (b0:0≤b) (b1:b≤15) (c0:0≤c) (c1:c≤15) (hb:op=0→b=0) (hu:u=true→8≤op∧op≤10) :
 mayN ⟨1,op,a,b,c,0,u⟩=true:=by
 have e:=word1 op a b c 0 u;have hr:=b2i_range u
 have hu1:b2i u=1→8≤op:=by cases u;(intro h;exact absurd h (by decide));exact fun _=>(hu rfl).1
 refine may_of (by simp) (by simp) o0 (by simp;omega) ?_ ?_
 · have hu':=fun p [Decidable p]=>dec_b2i u (p:=p)
   generalize wordN _=w at *;rw [read_reg (by omega) (by omega)];have h2:=hu' (w / 536870912%2=1) (by omega);rw [h2];simp only [Ins.mk.injEq,true_and,and_true];omega
 · simp only [tailN,true_or,if_true]
   by_cases h:op=0
   · subst h
     have:u=false:=by cases u;rfl;exact absurd (hu rfl).1 (by omega)
     subst this;simp [hb rfl]
   · rw [if_neg h,if_neg (by omega)]
     cases u
     · rfl
     · have:=hu rfl
       simp [this.1,this.2]
theorem may_imm {op a b im:Int} {u:Bool} (o0:0≤op) (o1:op≤11) (a0:0≤a) (a1:a≤15) (b0:0≤b) (b1:b≤15) (m0 : -65536≤im) (m1:im≤65535) (hb:op=0→b=0) (hu:u=true→(8≤op∧op≤10)∨(op=0∧0≤im)) :
 mayN ⟨2,op,a,b,0,im,u⟩=true:=by
 have e:=word2 op a b 0 im u;have hr:=b2i_range u;refine may_of (by simp) (by simp) o0 (by simp;omega) ?_ ?_
 · have hu':=fun p [Decidable p]=>dec_b2i u (p:=p)
   rw [b2i_dec] at e;generalize wordN _=w at *
   have r:readN w=⟨2,(w / 65536%16:Nat),(w / 16777216%16:Nat),(w / 1048576%16:Nat),0,((w%65536:Nat):Int) - ((w / 268435456%2:Nat):Int)*65536,decide (w / 536870912%2=1)⟩:=by
    have h:w / 1073741824%4=1:=by split at e<;>omega
    simp [readN,h]
   rw [r];have h2:=hu' (w / 536870912%2=1) (by split at e<;>omega);rw [h2];simp only [Ins.mk.injEq,true_and,and_true]
   split at e<;>omega
 · simp only [tailN,or_true,if_true]
   by_cases h:op=0
   · subst h
     rw [hb rfl];cases u
     · simp
     · rcases hu rfl with h | h
       · omega
       · simp [h.2]
   · rw [if_neg h,if_neg (by omega)]
     cases u
     · rfl
     · rcases hu rfl with h' | h'
       · simp [h'.1,h'.2]
       · omega
theorem may_hi {a:Int} (a0:0≤a) (a1:a≤15):mayN ⟨3,0,a,0,0,0,false⟩=true:=by
 have e:=word3 0 a 0 0 0 false;refine may_of (by simp) (by simp) (by simp) (by simp) ?_ (by simp [tailN]);generalize wordN _=w at *
 have h:w / 1073741824%4=0:=by omega
 have h2:w / 536870912%2=1:=by omega
 have h3:w / 65536%16=0:=by omega
 simp only [readN,h,h2,h3,and_self,if_true,Ins.mk.injEq,true_and,and_true];omega
theorem may_fl {a:Int} (a0:0≤a) (a1:a≤15):mayN ⟨4,0,a,0,0,0,false⟩=true:=by
 have e:=word4 0 a 0 0 0 false;refine may_of (by simp) (by simp) (by simp) (by simp) ?_ (by simp [tailN]);generalize wordN _=w at *
 have h:w / 1073741824%4=0:=by omega
 have h2:w / 536870912%2=1:=by omega
 have h3:w / 65536%16=0:=by omega
 simp only [readN,h,h2,h3,and_self,if_true,Ins.mk.injEq,true_and,and_true];omega
theorem may_mem {op a b im:Int} (o0:0≤op) (o1:op≤3) (a0:0≤a) (a1:a≤15) (b0:0≤b) (b1:b≤15) (m0 : -524288≤im) (m1:im<524288):mayN ⟨5,op,a,b,0,im,false⟩=true:=by
 have e:=word5 op a b 0 im false;refine may_of (by simp) (by simp) o0 (by simp;omega) ?_ (by simp [tailN])
 have e2:b2i (op%2==1)=op%2:=by
  rcases (show op%2=0∨op%2=1 by omega) with h | h<;>rw [h]<;>rfl
 rw [b2i_dec,e2] at e;generalize wordN _=w at *
 have h:w / 1073741824%4=2:=by split at e<;>omega
 rw [read_mem h,signed20];simp only [Ins.mk.injEq,true_and,and_true]
 split at e<;>split<;>omega
theorem may_br {op c:Int} {u:Bool} (o0:0≤op) (o1:op≤15) (c0:0≤c) (c1:c≤15):mayN ⟨6,op,0,0,c,0,u⟩=true:=by
 have e:=word6 op 0 0 c 0 u;have hr:=b2i_range u;refine may_of (by simp) (by simp) o0 o1 ?_ (by simp [tailN]);have hu':=fun p [Decidable p]=>dec_b2i u (p:=p);generalize wordN _=w at *
 have r:readN w=⟨6,(w / 16777216%16:Nat),0,0,(w%16:Nat),0,decide (w / 268435456%2=1)⟩:=by
  have h:w / 1073741824%4=3:=by omega
  have h2:w / 536870912%2=0:=by omega
  simp [readN,h,h2]
 rw [r,hu' (w / 268435456%2=1) (by omega)];simp only [Ins.mk.injEq,true_and,and_true];omega
theorem may_jmp {op im:Int} {u:Bool} (o0:0≤op) (o1:op≤15) (m0 : -8388608≤im) (m1:im<8388608):mayN ⟨7,op,0,0,0,im,u⟩=true:=by
 have e:=word7 op 0 0 0 im u;have hr:=b2i_range u;refine may_of (by simp) (by simp) o0 o1 ?_ (by simp [tailN]);have hu':=fun p [Decidable p]=>dec_b2i u (p:=p);generalize wordN _=w at *;rw [read_jmp (by omega) (by omega),hu' (w / 268435456%2=1) (by omega),signed24];simp only [Ins.mk.injEq,true_and,and_true]
 split<;>omega
theorem read_fields (w:Nat):0≤(readN w).a∧(readN w).a≤15∧0≤(readN w).b∧(readN w).b≤15∧0≤(readN w).c∧(readN w).c≤15 ∧ -8388608≤(readN w).im∧(readN w).im<8388608:=by
 have h1 : -8388608≤signedN w 19∧signedN w 19<8388608:=by rw [signed20];split<;>omega
 have h2 : -8388608≤signedN w 23∧signedN w 23<8388608:=by rw [signed24];split<;>omega
 unfold readN
 split
 · split
   · simp only;omega
   · simp only;omega
 · split
   · simp only;omega
   · split
     · simp only;omega
     · split
       · simp only;omega
       · simp only;omega
theorem may_fields {i:Ins} (h:mayN i=true):0≤i.a∧i.a≤15∧0≤i.b∧i.b≤15∧0≤i.c∧i.c≤15 ∧ -8388608≤i.im∧i.im<8388608:=by
 rw [may_read h];exact read_fields _
end Go.Proofs.YtjmiaemabhlnjaaGreatDoor.Isa
end
