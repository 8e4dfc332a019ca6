/- A part of the proof of TopShifts. -/
import Derived.Test.YtjmiaemabhlnjaaGreatDoorR15
section
set_option linter.all false
set_option maxRecDepth 20000
namespace Go.Proofs.YtjmiaemabhlnjaaGreatDoor.Isa
open Go Go.RowKit Go.Proofs.YtjmiaemabhlnjaaGreatDoor.FieldM Go.Proofs.YtjmiaemabhlnjaaGreatDoor.Field
attribute [local go_sem high] eqIns
set_option maxRecDepth 100000 in
set_option maxHeartbeats 40000000 in
theorem rmay_6 (op a b c im:Int) (u:Bool) (W:World)
 (a0:0≤a) (a1:a≤15) (b0:0≤b) (b1:b≤15) (c0:0≤c) (c1:c≤15) :
 Calls Tryz.prog 78 #[.agg #[.int .i64 6,.int .i64 op,.int .i64 a,.int .i64 b,.int .i64 c,.int .i64 im,.bool u]] W fun e w'=>e=.returned (.bool (mayN ⟨6,op,a,b,c,im,u⟩))∧Bl W w':=by
 have RA:=reg_is (n:=a) (r:=true) (by simp [a0,a1]);have RB:=reg_is (n:=b) (r:=true) (by simp [b0,b1]);have RC:=reg_is (n:=c) (r:=true) (by simp [c0,c1]);have hb0:b2i false=0:=rfl;have hb1:b2i true=1:=rfl;have B0:=Field.Aside.mk hb0;have B1:=Field.Aside.mk hb1;clear hb0 hb1;go_enter Tryz.func78,Tryz.ntmps78
 go_wp2_with fail
 refine (RA.out _).mono ?_;rintro e wa ⟨rfl,rfl⟩
 go_wp2_with fail
 refine (RB.out _).mono ?_;rintro e wa ⟨rfl,rfl⟩
 go_wp2_with fail
 refine (RC.out _).mono ?_;rintro e wa ⟨rfl,rfl⟩
 by_cases za:a=0
 · subst za
   by_cases zb:b=0
   · subst zb
     by_cases zim:im=0
     · subst zim
       by_cases mf:0≤op∧op≤15
       · have FQ:=reg_is (n:=op) (r:=true) (by simp;omega)
         all_goals go_wp2_with fail
         all_goals (refine (FQ.out _).mono ?_;rintro e wa ⟨rfl,rfl⟩)
         all_goals go_wp2_with fail
         all_goals (refine bodyPost_ret (v:=.bool true) ?_ rfl ⟨by rw [may_yes (by unfold RMayI;omega)],?_⟩)
         all_goals first | (simp only [results,Tryz.results78];go_simp;done) | (repeat (first | exact Bl.refl _ | apply Bl.alloc))
       · have FQ:=reg_is (n:=op) (r:=false) (by simp;omega)
         all_goals go_wp2_with fail
         all_goals (refine (FQ.out _).mono ?_;rintro e wa ⟨rfl,rfl⟩)
         all_goals go_wp2_with fail
         all_goals (refine bodyPost_ret (v:=.bool false) ?_ rfl ⟨by rw [may_no (by unfold RMayI;omega)],?_⟩)
         all_goals first | (simp only [results,Tryz.results78];go_simp;done) | (repeat (first | exact Bl.refl _ | apply Bl.alloc))
     · have qim:(0==im)=false:=beq_eq_false_iff_ne.2 (fun h=>zim h.symm)
       have rim:(im==0)=false:=beq_eq_false_iff_ne.2 zim
       all_goals go_wp2_with fail
       all_goals (refine bodyPost_ret (v:=.bool false) ?_ rfl ⟨by rw [may_no (by unfold RMayI;omega)],?_⟩)
       all_goals first | (simp only [results,Tryz.results78];go_simp;done) | (repeat (first | exact Bl.refl _ | apply Bl.alloc))
   · have qb:(0==b)=false:=beq_eq_false_iff_ne.2 (fun h=>zb h.symm)
     have rb:(b==0)=false:=beq_eq_false_iff_ne.2 zb
     all_goals go_wp2_with fail
     all_goals (refine bodyPost_ret (v:=.bool false) ?_ rfl ⟨by rw [may_no (by unfold RMayI;omega)],?_⟩)
     all_goals first | (simp only [results,Tryz.results78];go_simp;done) | (repeat (first | exact Bl.refl _ | apply Bl.alloc))
 · have qa:(0==a)=false:=beq_eq_false_iff_ne.2 (fun h=>za h.symm)
   have ra:(a==0)=false:=beq_eq_false_iff_ne.2 za
   all_goals go_wp2_with fail
   all_goals (refine bodyPost_ret (v:=.bool false) ?_ rfl ⟨by rw [may_no (by unfold RMayI;omega)],?_⟩)
   all_goals first | (simp only [results,Tryz.results78];go_simp;done) | (repeat (first | exact Bl.refl _ | apply Bl.alloc))
set_option maxRecDepth 100000 in
set_option maxHeartbeats 40000000 in
theorem rmay_7 (op a b c im:Int) (u:Bool) (W:World)
 (a0:0≤a) (a1:a≤15) (b0:0≤b) (b1:b≤15) (c0:0≤c) (c1:c≤15) :
 Calls Tryz.prog 78 #[.agg #[.int .i64 7,.int .i64 op,.int .i64 a,.int .i64 b,.int .i64 c,.int .i64 im,.bool u]] W fun e w'=>e=.returned (.bool (mayN ⟨7,op,a,b,c,im,u⟩))∧Bl W w':=by
 have RA:=reg_is (n:=a) (r:=true) (by simp [a0,a1]);have RB:=reg_is (n:=b) (r:=true) (by simp [b0,b1]);have RC:=reg_is (n:=c) (r:=true) (by simp [c0,c1]);have hb0:b2i false=0:=rfl;have hb1:b2i true=1:=rfl;have B0:=Field.Aside.mk hb0;have B1:=Field.Aside.mk hb1;clear hb0 hb1;go_enter Tryz.func78,Tryz.ntmps78
 go_wp2_with fail
 refine (RA.out _).mono ?_;rintro e wa ⟨rfl,rfl⟩
 go_wp2_with fail
 refine (RB.out _).mono ?_;rintro e wa ⟨rfl,rfl⟩
 go_wp2_with fail
 refine (RC.out _).mono ?_;rintro e wa ⟨rfl,rfl⟩
 by_cases za:a=0
 · subst za
   by_cases zb:b=0
   · subst zb
     by_cases zc:c=0
     · subst zc
       by_cases mo:0≤op∧op≤15
       · have RQ:=reg_is (n:=op) (r:=true) (by simp;omega)
         have FB:=fits_is (v:=im) (n:=24) (fits24 im)
         by_cases mf : -8388608≤im∧im<8388608
         · have FR:=FB.out
           rw [decide_eq_true mf] at FR;have FQ:=Field.Aside.mk FR;clear FR FB
           all_goals go_wp2_with fail
           all_goals (refine (RQ.out _).mono ?_;rintro e wa ⟨rfl,rfl⟩)
           all_goals go_wp2_with fail
           all_goals (refine (FQ.out _).mono ?_;rintro e wa ⟨rfl,rfl⟩)
           all_goals go_wp2_with fail
           all_goals (refine bodyPost_ret (v:=.bool true) ?_ rfl ⟨by rw [may_yes (by unfold RMayI;omega)],?_⟩)
           all_goals first | (simp only [results,Tryz.results78];go_simp;done) | (repeat (first | exact Bl.refl _ | apply Bl.alloc))
         · have FR:=FB.out
           rw [decide_eq_false mf] at FR;have FQ:=Field.Aside.mk FR;clear FR FB
           all_goals go_wp2_with fail
           all_goals (refine (RQ.out _).mono ?_;rintro e wa ⟨rfl,rfl⟩)
           all_goals go_wp2_with fail
           all_goals (refine (FQ.out _).mono ?_;rintro e wa ⟨rfl,rfl⟩)
           all_goals go_wp2_with fail
           all_goals (refine bodyPost_ret (v:=.bool false) ?_ rfl ⟨by rw [may_no (by unfold RMayI;omega)],?_⟩)
           all_goals first | (simp only [results,Tryz.results78];go_simp;done) | (repeat (first | exact Bl.refl _ | apply Bl.alloc))
       · have RQ:=reg_is (n:=op) (r:=false) (by simp;omega)
         all_goals go_wp2_with fail
         all_goals (refine (RQ.out _).mono ?_;rintro e wa ⟨rfl,rfl⟩)
         all_goals go_wp2_with fail
         all_goals (refine bodyPost_ret (v:=.bool false) ?_ rfl ⟨by rw [may_no (by unfold RMayI;omega)],?_⟩)
         all_goals first | (simp only [results,Tryz.results78];go_simp;done) | (repeat (first | exact Bl.refl _ | apply Bl.alloc))
     · have qc:(0==c)=false:=beq_eq_false_iff_ne.2 (fun h=>zc h.symm)
       have rc:(c==0)=false:=beq_eq_false_iff_ne.2 zc
       all_goals go_wp2_with fail
       all_goals (refine bodyPost_ret (v:=.bool false) ?_ rfl ⟨by rw [may_no (by unfold RMayI;omega)],?_⟩)
       all_goals first | (simp only [results,Tryz.results78];go_simp;done) | (repeat (first | exact Bl.refl _ | apply Bl.alloc))
   · have qb:(0==b)=false:=beq_eq_false_iff_ne.2 (fun h=>zb h.symm)
     have rb:(b==0)=false:=beq_eq_false_iff_ne.2 zb
     all_goals go_wp2_with fail
     all_goals (refine bodyPost_ret (v:=.bool false) ?_ rfl ⟨by rw [may_no (by unfold RMayI;omega)],?_⟩)
     all_goals first | (simp only [results,Tryz.results78];go_simp;done) | (repeat (first | exact Bl.refl _ | apply Bl.alloc))
 · have qa:(0==a)=false:=beq_eq_false_iff_ne.2 (fun h=>za h.symm)
   have ra:(a==0)=false:=beq_eq_false_iff_ne.2 za
   all_goals go_wp2_with fail
   all_goals (refine bodyPost_ret (v:=.bool false) ?_ rfl ⟨by rw [may_no (by unfold RMayI;omega)],?_⟩)
   all_goals first | (simp only [results,Tryz.results78];go_simp;done) | (repeat (first | exact Bl.refl _ | apply Bl.alloc))
set_option maxRecDepth 100000 in
set_option maxHeartbeats 40000000 in
theorem rmay_o (kd op a b c im:Int) (u:Bool) (W:World)
 (a0:0≤a) (a1:a≤15) (b0:0≤b) (b1:b≤15) (c0:0≤c) (c1:c≤15)
 (hk:kd<1∨7<kd) :
 Calls Tryz.prog 78 #[.agg #[.int .i64 kd,.int .i64 op,.int .i64 a,.int .i64 b,.int .i64 c,.int .i64 im,.bool u]] W fun e w'=>e=.returned (.bool (mayN ⟨kd,op,a,b,c,im,u⟩))∧Bl W w':=by
 have RA:=reg_is (n:=a) (r:=true) (by simp [a0,a1]);have RB:=reg_is (n:=b) (r:=true) (by simp [b0,b1]);have RC:=reg_is (n:=c) (r:=true) (by simp [c0,c1]);have hb0:b2i false=0:=rfl;have hb1:b2i true=1:=rfl;have B0:=Field.Aside.mk hb0;have B1:=Field.Aside.mk hb1;clear hb0 hb1;go_enter Tryz.func78,Tryz.ntmps78
 go_wp2_with fail
 refine (RA.out _).mono ?_;rintro e wa ⟨rfl,rfl⟩
 go_wp2_with fail
 refine (RB.out _).mono ?_;rintro e wa ⟨rfl,rfl⟩
 go_wp2_with fail
 refine (RC.out _).mono ?_;rintro e wa ⟨rfl,rfl⟩;have k1:(kd==1)=false:=beq_eq_false_iff_ne.2 (by omega);have k2:(kd==2)=false:=beq_eq_false_iff_ne.2 (by omega);have k3:(kd==3)=false:=beq_eq_false_iff_ne.2 (by omega);have k4:(kd==4)=false:=beq_eq_false_iff_ne.2 (by omega);have k5:(kd==5)=false:=beq_eq_false_iff_ne.2 (by omega);have k6:(kd==6)=false:=beq_eq_false_iff_ne.2 (by omega);have k7:(kd==7)=false:=beq_eq_false_iff_ne.2 (by omega)
 all_goals go_wp2_with fail
 all_goals (refine bodyPost_ret (v:=.bool false) ?_ rfl ⟨by rw [may_no (by unfold RMayI;omega)],?_⟩)
 all_goals first | (simp only [results,Tryz.results78];go_simp;done) | (repeat (first | exact Bl.refl _ | apply Bl.alloc))
set_option maxRecDepth 100000 in
set_option maxHeartbeats 40000000 in
theorem rmay_r (kd op a b c im:Int) (u:Bool) (W:World)
 (hr:¬(0≤a∧a≤15∧0≤b∧b≤15∧0≤c∧c≤15)) :
 Calls Tryz.prog 78 #[.agg #[.int .i64 kd,.int .i64 op,.int .i64 a,.int .i64 b,.int .i64 c,.int .i64 im,.bool u]] W fun e w'=>e=.returned (.bool (mayN ⟨kd,op,a,b,c,im,u⟩))∧Bl W w':=by
 go_enter Tryz.func78,Tryz.ntmps78
 go_wp2_with fail
 by_cases ha:0≤a∧a≤15
 · have RA:=reg_is (n:=a) (r:=true) (by simp [ha.1,ha.2])
   refine (RA.out _).mono ?_;rintro e wa ⟨rfl,rfl⟩
   go_wp2_with fail
   by_cases hb:0≤b∧b≤15
   · have RB:=reg_is (n:=b) (r:=true) (by simp [hb.1,hb.2])
     have RC:=reg_is (n:=c) (r:=false) (by simp;omega);refine (RB.out _).mono ?_;rintro e wa ⟨rfl,rfl⟩
     go_wp2_with fail
     refine (RC.out _).mono ?_;rintro e wa ⟨rfl,rfl⟩
     all_goals go_wp2_with fail
     all_goals (refine bodyPost_ret (v:=.bool false) ?_ rfl ⟨by rw [may_no (by unfold RMayI;omega)],?_⟩)
     all_goals first | (simp only [results,Tryz.results78];go_simp;done) | (repeat (first | exact Bl.refl _ | apply Bl.alloc))
   · have RB:=reg_is (n:=b) (r:=false) (by simp;omega)
     refine (RB.out _).mono ?_;rintro e wa ⟨rfl,rfl⟩
     all_goals go_wp2_with fail
     all_goals (refine bodyPost_ret (v:=.bool false) ?_ rfl ⟨by rw [may_no (by unfold RMayI;omega)],?_⟩)
     all_goals first | (simp only [results,Tryz.results78];go_simp;done) | (repeat (first | exact Bl.refl _ | apply Bl.alloc))
 · have RA:=reg_is (n:=a) (r:=false) (by simp;omega)
   refine (RA.out _).mono ?_;rintro e wa ⟨rfl,rfl⟩
   all_goals go_wp2_with fail
   all_goals (refine bodyPost_ret (v:=.bool false) ?_ rfl ⟨by rw [may_no (by unfold RMayI;omega)],?_⟩)
   all_goals first | (simp only [results,Tryz.results78];go_simp;done) | (repeat (first | exact Bl.refl _ | apply Bl.alloc))
end Go.Proofs.YtjmiaemabhlnjaaGreatDoor.Isa
end
