/- A part of the proof of TopShifts. -/
import Derived.Test.YtjmiaemabhlnjaaGreatDoorR15
section
set_option linter.all false
set_option maxRecDepth 20000
namespace Go.Proofs.YtjmiaemabhlnjaaGreatDoor.Isa
open Go Go.RowKit Go.Proofs.YtjmiaemabhlnjaaGreatDoor.FieldM Go.Proofs.YtjmiaemabhlnjaaGreatDoor.Field
attribute [local go_sem high] eqIns
set_option maxRecDepth 100000 in
set_option maxHeartbeats 40000000 in
theorem rmay_2 (op a b c im:Int) (u:Bool) (W:World)
 (a0:0≤a) (a1:a≤15) (b0:0≤b) (b1:b≤15) (c0:0≤c) (c1:c≤15) :
 Calls Tryz.prog 78 #[.agg #[.int .i64 2,.int .i64 op,.int .i64 a,.int .i64 b,.int .i64 c,.int .i64 im,.bool u]] W fun e w'=>e=.returned (.bool (mayN ⟨2,op,a,b,c,im,u⟩))∧Bl W w':=by
 have RA:=reg_is (n:=a) (r:=true) (by simp [a0,a1]);have RB:=reg_is (n:=b) (r:=true) (by simp [b0,b1]);have RC:=reg_is (n:=c) (r:=true) (by simp [c0,c1]);have hb0:b2i false=0:=rfl;have hb1:b2i true=1:=rfl;have B0:=Field.Aside.mk hb0;have B1:=Field.Aside.mk hb1;clear hb0 hb1;go_enter Tryz.func78,Tryz.ntmps78
 go_wp2_with fail
 refine (RA.out _).mono ?_;rintro e wa ⟨rfl,rfl⟩
 go_wp2_with fail
 refine (RB.out _).mono ?_;rintro e wa ⟨rfl,rfl⟩
 go_wp2_with fail
 refine (RC.out _).mono ?_;rintro e wa ⟨rfl,rfl⟩
 by_cases o0:0≤op
 · by_cases o1:op≤11
   · by_cases z:op=0
     · subst z
       by_cases zb:b=0
       · subst zb
         by_cases zc:c=0
         · subst zc
           by_cases m1:im≤65535
           · by_cases m0 : -65536≤im
             · by_cases mp:0≤im
               · cases u
                 · all_goals go_wp2_with fail
                   all_goals (refine bodyPost_ret (v:=.bool true) ?_ rfl ⟨by rw [may_yes (by unfold RMayI;rw [B0.out];omega)],?_⟩)
                   all_goals first | (simp only [results,Tryz.results78];go_simp;done) | (repeat (first | exact Bl.refl _ | apply Bl.alloc))
                 · all_goals go_wp2_with fail
                   all_goals (refine bodyPost_ret (v:=.bool true) ?_ rfl ⟨by rw [may_yes (by unfold RMayI;rw [B1.out];omega)],?_⟩)
                   all_goals first | (simp only [results,Tryz.results78];go_simp;done) | (repeat (first | exact Bl.refl _ | apply Bl.alloc))
               · cases u
                 · all_goals go_wp2_with fail
                   all_goals (refine bodyPost_ret (v:=.bool true) ?_ rfl ⟨by rw [may_yes (by unfold RMayI;rw [B0.out];omega)],?_⟩)
                   all_goals first | (simp only [results,Tryz.results78];go_simp;done) | (repeat (first | exact Bl.refl _ | apply Bl.alloc))
                 · all_goals go_wp2_with fail
                   all_goals (refine bodyPost_ret (v:=.bool false) ?_ rfl ⟨by rw [may_no (by unfold RMayI;rw [B1.out];omega)],?_⟩)
                   all_goals first | (simp only [results,Tryz.results78];go_simp;done) | (repeat (first | exact Bl.refl _ | apply Bl.alloc))
             · all_goals go_wp2_with fail
               all_goals (refine bodyPost_ret (v:=.bool false) ?_ rfl ⟨by rw [may_no (by unfold RMayI;omega)],?_⟩)
               all_goals first | (simp only [results,Tryz.results78];go_simp;done) | (repeat (first | exact Bl.refl _ | apply Bl.alloc))
           · all_goals go_wp2_with fail
             all_goals (refine bodyPost_ret (v:=.bool false) ?_ rfl ⟨by rw [may_no (by unfold RMayI;omega)],?_⟩)
             all_goals first | (simp only [results,Tryz.results78];go_simp;done) | (repeat (first | exact Bl.refl _ | apply Bl.alloc))
         · have qc:(0==c)=false:=beq_eq_false_iff_ne.2 (fun h=>zc h.symm)
           have rc:(c==0)=false:=beq_eq_false_iff_ne.2 zc
           all_goals go_wp2_with fail
           all_goals (refine bodyPost_ret (v:=.bool false) ?_ rfl ⟨by rw [may_no (by unfold RMayI;omega)],?_⟩)
           all_goals first | (simp only [results,Tryz.results78];go_simp;done) | (repeat (first | exact Bl.refl _ | apply Bl.alloc))
       · have qb:(0==b)=false:=beq_eq_false_iff_ne.2 (fun h=>zb h.symm)
         have rb:(b==0)=false:=beq_eq_false_iff_ne.2 zb
         all_goals go_wp2_with fail
         all_goals (refine bodyPost_ret (v:=.bool false) ?_ rfl ⟨by rw [may_no (by unfold RMayI;omega)],?_⟩)
         all_goals first | (simp only [results,Tryz.results78];go_simp;done) | (repeat (first | exact Bl.refl _ | apply Bl.alloc))
     · have q0:(op==0)=false:=beq_eq_false_iff_ne.2 z
       have q0':(op != 0)=true:=bne_iff_ne.2 z
       by_cases z8:8≤op
       · by_cases z10:op≤10
         · by_cases zc:c=0
           · subst zc
             cases u
             · by_cases m1:im≤65535
               · by_cases m0 : -65536≤im
                 · by_cases mp:0≤im
                   · all_goals go_wp2_with fail
                     all_goals (refine bodyPost_ret (v:=.bool true) ?_ rfl ⟨by rw [may_yes (by unfold RMayI;rw [B0.out];omega)],?_⟩)
                     all_goals first | (simp only [results,Tryz.results78];go_simp;done) | (repeat (first | exact Bl.refl _ | apply Bl.alloc))
                   · all_goals go_wp2_with fail
                     all_goals (refine bodyPost_ret (v:=.bool true) ?_ rfl ⟨by rw [may_yes (by unfold RMayI;rw [B0.out];omega)],?_⟩)
                     all_goals first | (simp only [results,Tryz.results78];go_simp;done) | (repeat (first | exact Bl.refl _ | apply Bl.alloc))
                 · all_goals go_wp2_with fail
                   all_goals (refine bodyPost_ret (v:=.bool false) ?_ rfl ⟨by rw [may_no (by unfold RMayI;omega)],?_⟩)
                   all_goals first | (simp only [results,Tryz.results78];go_simp;done) | (repeat (first | exact Bl.refl _ | apply Bl.alloc))
               · all_goals go_wp2_with fail
                 all_goals (refine bodyPost_ret (v:=.bool false) ?_ rfl ⟨by rw [may_no (by unfold RMayI;omega)],?_⟩)
                 all_goals first | (simp only [results,Tryz.results78];go_simp;done) | (repeat (first | exact Bl.refl _ | apply Bl.alloc))
             · by_cases m1:im≤65535
               · by_cases m0 : -65536≤im
                 · by_cases mp:0≤im
                   · all_goals go_wp2_with fail
                     all_goals (refine bodyPost_ret (v:=.bool true) ?_ rfl ⟨by rw [may_yes (by unfold RMayI;rw [B1.out];omega)],?_⟩)
                     all_goals first | (simp only [results,Tryz.results78];go_simp;done) | (repeat (first | exact Bl.refl _ | apply Bl.alloc))
                   · all_goals go_wp2_with fail
                     all_goals (refine bodyPost_ret (v:=.bool true) ?_ rfl ⟨by rw [may_yes (by unfold RMayI;rw [B1.out];omega)],?_⟩)
                     all_goals first | (simp only [results,Tryz.results78];go_simp;done) | (repeat (first | exact Bl.refl _ | apply Bl.alloc))
                 · all_goals go_wp2_with fail
                   all_goals (refine bodyPost_ret (v:=.bool false) ?_ rfl ⟨by rw [may_no (by unfold RMayI;omega)],?_⟩)
                   all_goals first | (simp only [results,Tryz.results78];go_simp;done) | (repeat (first | exact Bl.refl _ | apply Bl.alloc))
               · all_goals go_wp2_with fail
                 all_goals (refine bodyPost_ret (v:=.bool false) ?_ rfl ⟨by rw [may_no (by unfold RMayI;omega)],?_⟩)
                 all_goals first | (simp only [results,Tryz.results78];go_simp;done) | (repeat (first | exact Bl.refl _ | apply Bl.alloc))
           · have qc:(0==c)=false:=beq_eq_false_iff_ne.2 (fun h=>zc h.symm)
             have rc:(c==0)=false:=beq_eq_false_iff_ne.2 zc
             all_goals go_wp2_with fail
             all_goals (refine bodyPost_ret (v:=.bool false) ?_ rfl ⟨by rw [may_no (by unfold RMayI;omega)],?_⟩)
             all_goals first | (simp only [results,Tryz.results78];go_simp;done) | (repeat (first | exact Bl.refl _ | apply Bl.alloc))
         · by_cases zc:c=0
           · subst zc
             cases u
             · by_cases m1:im≤65535
               · by_cases m0 : -65536≤im
                 · by_cases mp:0≤im
                   · all_goals go_wp2_with fail
                     all_goals (refine bodyPost_ret (v:=.bool true) ?_ rfl ⟨by rw [may_yes (by unfold RMayI;rw [B0.out];omega)],?_⟩)
                     all_goals first | (simp only [results,Tryz.results78];go_simp;done) | (repeat (first | exact Bl.refl _ | apply Bl.alloc))
                   · all_goals go_wp2_with fail
                     all_goals (refine bodyPost_ret (v:=.bool true) ?_ rfl ⟨by rw [may_yes (by unfold RMayI;rw [B0.out];omega)],?_⟩)
                     all_goals first | (simp only [results,Tryz.results78];go_simp;done) | (repeat (first | exact Bl.refl _ | apply Bl.alloc))
                 · all_goals go_wp2_with fail
                   all_goals (refine bodyPost_ret (v:=.bool false) ?_ rfl ⟨by rw [may_no (by unfold RMayI;omega)],?_⟩)
                   all_goals first | (simp only [results,Tryz.results78];go_simp;done) | (repeat (first | exact Bl.refl _ | apply Bl.alloc))
               · all_goals go_wp2_with fail
                 all_goals (refine bodyPost_ret (v:=.bool false) ?_ rfl ⟨by rw [may_no (by unfold RMayI;omega)],?_⟩)
                 all_goals first | (simp only [results,Tryz.results78];go_simp;done) | (repeat (first | exact Bl.refl _ | apply Bl.alloc))
             · all_goals go_wp2_with fail
               all_goals (refine bodyPost_ret (v:=.bool false) ?_ rfl ⟨by rw [may_no (by unfold RMayI;rw [B1.out];omega)],?_⟩)
               all_goals first | (simp only [results,Tryz.results78];go_simp;done) | (repeat (first | exact Bl.refl _ | apply Bl.alloc))
           · have qc:(0==c)=false:=beq_eq_false_iff_ne.2 (fun h=>zc h.symm)
             have rc:(c==0)=false:=beq_eq_false_iff_ne.2 zc
             all_goals go_wp2_with fail
             all_goals (refine bodyPost_ret (v:=.bool false) ?_ rfl ⟨by rw [may_no (by unfold RMayI;omega)],?_⟩)
             all_goals first | (simp only [results,Tryz.results78];go_simp;done) | (repeat (first | exact Bl.refl _ | apply Bl.alloc))
       · by_cases zc:c=0
         · subst zc
           cases u
           · by_cases m1:im≤65535
             · by_cases m0 : -65536≤im
               · by_cases mp:0≤im
                 · all_goals go_wp2_with fail
                   all_goals (refine bodyPost_ret (v:=.bool true) ?_ rfl ⟨by rw [may_yes (by unfold RMayI;rw [B0.out];omega)],?_⟩)
                   all_goals first | (simp only [results,Tryz.results78];go_simp;done) | (repeat (first | exact Bl.refl _ | apply Bl.alloc))
                 · all_goals go_wp2_with fail
                   all_goals (refine bodyPost_ret (v:=.bool true) ?_ rfl ⟨by rw [may_yes (by unfold RMayI;rw [B0.out];omega)],?_⟩)
                   all_goals first | (simp only [results,Tryz.results78];go_simp;done) | (repeat (first | exact Bl.refl _ | apply Bl.alloc))
               · all_goals go_wp2_with fail
                 all_goals (refine bodyPost_ret (v:=.bool false) ?_ rfl ⟨by rw [may_no (by unfold RMayI;omega)],?_⟩)
                 all_goals first | (simp only [results,Tryz.results78];go_simp;done) | (repeat (first | exact Bl.refl _ | apply Bl.alloc))
             · all_goals go_wp2_with fail
               all_goals (refine bodyPost_ret (v:=.bool false) ?_ rfl ⟨by rw [may_no (by unfold RMayI;omega)],?_⟩)
               all_goals first | (simp only [results,Tryz.results78];go_simp;done) | (repeat (first | exact Bl.refl _ | apply Bl.alloc))
           · all_goals go_wp2_with fail
             all_goals (refine bodyPost_ret (v:=.bool false) ?_ rfl ⟨by rw [may_no (by unfold RMayI;rw [B1.out];omega)],?_⟩)
             all_goals first | (simp only [results,Tryz.results78];go_simp;done) | (repeat (first | exact Bl.refl _ | apply Bl.alloc))
         · have qc:(0==c)=false:=beq_eq_false_iff_ne.2 (fun h=>zc h.symm)
           have rc:(c==0)=false:=beq_eq_false_iff_ne.2 zc
           all_goals go_wp2_with fail
           all_goals (refine bodyPost_ret (v:=.bool false) ?_ rfl ⟨by rw [may_no (by unfold RMayI;omega)],?_⟩)
           all_goals first | (simp only [results,Tryz.results78];go_simp;done) | (repeat (first | exact Bl.refl _ | apply Bl.alloc))
   · all_goals go_wp2_with fail
     all_goals (refine bodyPost_ret (v:=.bool false) ?_ rfl ⟨by rw [may_no (by unfold RMayI;omega)],?_⟩)
     all_goals first | (simp only [results,Tryz.results78];go_simp;done) | (repeat (first | exact Bl.refl _ | apply Bl.alloc))
 · all_goals go_wp2_with fail
   all_goals (refine bodyPost_ret (v:=.bool false) ?_ rfl ⟨by rw [may_no (by unfold RMayI;omega)],?_⟩)
   all_goals first | (simp only [results,Tryz.results78];go_simp;done) | (repeat (first | exact Bl.refl _ | apply Bl.alloc))
end Go.Proofs.YtjmiaemabhlnjaaGreatDoor.Isa
end
