/-
  WordOpposites' walk: the differences of two words, both ways about, are opposites.
-/
import Derived.Test.YthgnniiiekkodaaSub
namespace Go.Proofs.Ythgnniiiekkodaa.Hand
open Go.RowKit Go.Proofs.Ythgnniiiekkodaa.PWordAll Go.Proofs.YthgnniiiekkodaaW.PrintWords Go.Proofs.YthgnniiiekkodaaW.PrintLast Go.Proofs.YthgnniiiekkodaaW.PrintMore
open Go.Proofs.Ythgnniiiekkodaa.WordM

theorem sub_is {a b r : Int} {cy p q : Bool} (ha : 0 ≤ a ∧ a < 4294967296) (hb : 0 ≤ b ∧ b < 4294967296) (h1 : subR a b cy = r) (h2 : subC a b cy = p) (h3 : subV a b cy = q) :
    Aside0 (∀ w, Calls Try.prog 17 #[.int .u32 a, .int .u32 b, .bool cy] w fun e w' => e = .returned (.tuple #[.int .u32 r, .bool p, .bool q]) ∧ Drawn0 w w') :=
  ⟨fun w => by rw [← h1, ← h2, ← h3]; exact sub_any a b cy ha hb w⟩
theorem add_is {a b r : Int} {cy p q : Bool} (ha : 0 ≤ a ∧ a < 4294967296) (hb : 0 ≤ b ∧ b < 4294967296) (h1 : addR a b cy = r) (h2 : addC a b cy = p) (h3 : addV a b cy = q) :
    Aside0 (∀ w, Calls Try.prog 16 #[.int .u32 a, .int .u32 b, .bool cy] w fun e w' => e = .returned (.tuple #[.int .u32 r, .bool p, .bool q]) ∧ Drawn0 w w') :=
  ⟨fun w => by rw [← h1, ← h2, ← h3]; exact add_any a b cy ha hb w⟩

set_option maxHeartbeats 3200000 in
set_option maxRecDepth 100000 in
theorem opp_eq0 (a b x y z l : Int) (v1 v2 v3 v4 v5 v6 v7 v8 v9 : Bool) (w : World)
   (S1 : Aside0 (∀ w, Calls Try.prog 17 #[.int .u32 a, .int .u32 b, .bool false] w fun e w' => e = .returned (.tuple #[.int .u32 x, .bool false, .bool v1]) ∧ Drawn0 w w'))
   (S2 : Aside0 (∀ w, Calls Try.prog 17 #[.int .u32 b, .int .u32 a, .bool false] w fun e w' => e = .returned (.tuple #[.int .u32 y, .bool false, .bool v2]) ∧ Drawn0 w w'))
   (A1 : Aside0 (∀ w, Calls Try.prog 16 #[.int .u32 x, .int .u32 y, .bool false] w fun e w' => e = .returned (.tuple #[.int .u32 0, .bool false, .bool v3]) ∧ Drawn0 w w'))
   (S3 : Aside0 (∀ w, Calls Try.prog 17 #[.int .u32 0, .int .u32 a, .bool false] w fun e w' => e = .returned (.tuple #[.int .u32 z, .bool false, .bool v4]) ∧ Drawn0 w w'))
   (S4 : Aside0 (∀ w, Calls Try.prog 17 #[.int .u32 0, .int .u32 z, .bool false] w fun e w' => e = .returned (.tuple #[.int .u32 a, .bool v5, .bool v6]) ∧ Drawn0 w w'))
   (S5 : Aside0 (∀ w, Calls Try.prog 17 #[.int .u32 a, .int .u32 b, .bool true] w fun e w' => e = .returned (.tuple #[.int .u32 l, .bool true, .bool v7]) ∧ Drawn0 w w'))
   (A2 : Aside0 (∀ w, Calls Try.prog 16 #[.int .u32 l, .int .u32 1, .bool false] w fun e w' => e = .returned (.tuple #[.int .u32 x, .bool v8, .bool v9]) ∧ Drawn0 w w'))
   (_f1 : (a != b) = false) (_f2 : (a == b) = true) (_f3 : (a != 0) = false) (_f4 : (a == 0) = true) (_f5 : decide (a ≤ b) = true) :
    Calls Try.prog 9 #[.int .u32 a, .int .u32 b] w fun e w' => e = .returned (.bool true) ∧ Drawn0 w w' := by
  go_enter Try.func9, Try.ntmps9
  go_wp2_with (first | (go_at_call 11; refine (shown_any _).mono ?_; rintro e w1 ⟨rfl, ⟨nd, rfl⟩⟩) | (go_at_call 16; (first | (with_reducible refine (A1.out _).mono ?_) | (with_reducible refine (A2.out _).mono ?_)); rintro e w1 ⟨rfl, ⟨nd, rfl⟩⟩) | (go_at_call 17; (first | (with_reducible refine (S1.out _).mono ?_) | (with_reducible refine (S2.out _).mono ?_) | (with_reducible refine (S3.out _).mono ?_) | (with_reducible refine (S4.out _).mono ?_) | (with_reducible refine (S5.out _).mono ?_)); rintro e w1 ⟨rfl, ⟨nd, rfl⟩⟩))
  go_ret
  exact ⟨rfl, by repeat (first | exact Drawn0.refl _ | apply Drawn0.step)⟩

set_option maxHeartbeats 3200000 in
set_option maxRecDepth 100000 in
theorem opp_eq1 (a b x y z l : Int) (v1 v2 v3 v4 v5 v6 v7 v8 v9 : Bool) (w : World)
   (S1 : Aside0 (∀ w, Calls Try.prog 17 #[.int .u32 a, .int .u32 b, .bool false] w fun e w' => e = .returned (.tuple #[.int .u32 x, .bool false, .bool v1]) ∧ Drawn0 w w'))
   (S2 : Aside0 (∀ w, Calls Try.prog 17 #[.int .u32 b, .int .u32 a, .bool false] w fun e w' => e = .returned (.tuple #[.int .u32 y, .bool false, .bool v2]) ∧ Drawn0 w w'))
   (A1 : Aside0 (∀ w, Calls Try.prog 16 #[.int .u32 x, .int .u32 y, .bool false] w fun e w' => e = .returned (.tuple #[.int .u32 0, .bool false, .bool v3]) ∧ Drawn0 w w'))
   (S3 : Aside0 (∀ w, Calls Try.prog 17 #[.int .u32 0, .int .u32 a, .bool false] w fun e w' => e = .returned (.tuple #[.int .u32 z, .bool true, .bool v4]) ∧ Drawn0 w w'))
   (S4 : Aside0 (∀ w, Calls Try.prog 17 #[.int .u32 0, .int .u32 z, .bool false] w fun e w' => e = .returned (.tuple #[.int .u32 a, .bool v5, .bool v6]) ∧ Drawn0 w w'))
   (S5 : Aside0 (∀ w, Calls Try.prog 17 #[.int .u32 a, .int .u32 b, .bool true] w fun e w' => e = .returned (.tuple #[.int .u32 l, .bool true, .bool v7]) ∧ Drawn0 w w'))
   (A2 : Aside0 (∀ w, Calls Try.prog 16 #[.int .u32 l, .int .u32 1, .bool false] w fun e w' => e = .returned (.tuple #[.int .u32 x, .bool v8, .bool v9]) ∧ Drawn0 w w'))
   (_f1 : (a != b) = false) (_f2 : (a == b) = true) (_f3 : (a != 0) = true) (_f4 : (a == 0) = false) (_f5 : decide (a ≤ b) = true) :
    Calls Try.prog 9 #[.int .u32 a, .int .u32 b] w fun e w' => e = .returned (.bool true) ∧ Drawn0 w w' := by
  go_enter Try.func9, Try.ntmps9
  go_wp2_with (first | (go_at_call 11; refine (shown_any _).mono ?_; rintro e w1 ⟨rfl, ⟨nd, rfl⟩⟩) | (go_at_call 16; (first | (with_reducible refine (A1.out _).mono ?_) | (with_reducible refine (A2.out _).mono ?_)); rintro e w1 ⟨rfl, ⟨nd, rfl⟩⟩) | (go_at_call 17; (first | (with_reducible refine (S1.out _).mono ?_) | (with_reducible refine (S2.out _).mono ?_) | (with_reducible refine (S3.out _).mono ?_) | (with_reducible refine (S4.out _).mono ?_) | (with_reducible refine (S5.out _).mono ?_)); rintro e w1 ⟨rfl, ⟨nd, rfl⟩⟩))
  go_ret
  exact ⟨rfl, by repeat (first | exact Drawn0.refl _ | apply Drawn0.step)⟩

set_option maxHeartbeats 3200000 in
set_option maxRecDepth 100000 in
theorem opp_lt0 (a b x y z l : Int) (v1 v2 v3 v4 v5 v6 v7 v8 v9 : Bool) (w : World)
   (S1 : Aside0 (∀ w, Calls Try.prog 17 #[.int .u32 a, .int .u32 b, .bool false] w fun e w' => e = .returned (.tuple #[.int .u32 x, .bool true, .bool v1]) ∧ Drawn0 w w'))
   (S2 : Aside0 (∀ w, Calls Try.prog 17 #[.int .u32 b, .int .u32 a, .bool false] w fun e w' => e = .returned (.tuple #[.int .u32 y, .bool false, .bool v2]) ∧ Drawn0 w w'))
   (A1 : Aside0 (∀ w, Calls Try.prog 16 #[.int .u32 x, .int .u32 y, .bool false] w fun e w' => e = .returned (.tuple #[.int .u32 0, .bool true, .bool v3]) ∧ Drawn0 w w'))
   (S3 : Aside0 (∀ w, Calls Try.prog 17 #[.int .u32 0, .int .u32 a, .bool false] w fun e w' => e = .returned (.tuple #[.int .u32 z, .bool false, .bool v4]) ∧ Drawn0 w w'))
   (S4 : Aside0 (∀ w, Calls Try.prog 17 #[.int .u32 0, .int .u32 z, .bool false] w fun e w' => e = .returned (.tuple #[.int .u32 a, .bool v5, .bool v6]) ∧ Drawn0 w w'))
   (S5 : Aside0 (∀ w, Calls Try.prog 17 #[.int .u32 a, .int .u32 b, .bool true] w fun e w' => e = .returned (.tuple #[.int .u32 l, .bool true, .bool v7]) ∧ Drawn0 w w'))
   (A2 : Aside0 (∀ w, Calls Try.prog 16 #[.int .u32 l, .int .u32 1, .bool false] w fun e w' => e = .returned (.tuple #[.int .u32 x, .bool v8, .bool v9]) ∧ Drawn0 w w'))
   (_f1 : (a != b) = true) (_f2 : (a == b) = false) (_f3 : (a != 0) = false) (_f4 : (a == 0) = true) (_f5 : decide (a ≤ b) = true) :
    Calls Try.prog 9 #[.int .u32 a, .int .u32 b] w fun e w' => e = .returned (.bool true) ∧ Drawn0 w w' := by
  go_enter Try.func9, Try.ntmps9
  go_wp2_with (first | (go_at_call 11; refine (shown_any _).mono ?_; rintro e w1 ⟨rfl, ⟨nd, rfl⟩⟩) | (go_at_call 16; (first | (with_reducible refine (A1.out _).mono ?_) | (with_reducible refine (A2.out _).mono ?_)); rintro e w1 ⟨rfl, ⟨nd, rfl⟩⟩) | (go_at_call 17; (first | (with_reducible refine (S1.out _).mono ?_) | (with_reducible refine (S2.out _).mono ?_) | (with_reducible refine (S3.out _).mono ?_) | (with_reducible refine (S4.out _).mono ?_) | (with_reducible refine (S5.out _).mono ?_)); rintro e w1 ⟨rfl, ⟨nd, rfl⟩⟩))
  go_ret
  exact ⟨rfl, by repeat (first | exact Drawn0.refl _ | apply Drawn0.step)⟩

set_option maxHeartbeats 3200000 in
set_option maxRecDepth 100000 in
theorem opp_lt1 (a b x y z l : Int) (v1 v2 v3 v4 v5 v6 v7 v8 v9 : Bool) (w : World)
   (S1 : Aside0 (∀ w, Calls Try.prog 17 #[.int .u32 a, .int .u32 b, .bool false] w fun e w' => e = .returned (.tuple #[.int .u32 x, .bool true, .bool v1]) ∧ Drawn0 w w'))
   (S2 : Aside0 (∀ w, Calls Try.prog 17 #[.int .u32 b, .int .u32 a, .bool false] w fun e w' => e = .returned (.tuple #[.int .u32 y, .bool false, .bool v2]) ∧ Drawn0 w w'))
   (A1 : Aside0 (∀ w, Calls Try.prog 16 #[.int .u32 x, .int .u32 y, .bool false] w fun e w' => e = .returned (.tuple #[.int .u32 0, .bool true, .bool v3]) ∧ Drawn0 w w'))
   (S3 : Aside0 (∀ w, Calls Try.prog 17 #[.int .u32 0, .int .u32 a, .bool false] w fun e w' => e = .returned (.tuple #[.int .u32 z, .bool true, .bool v4]) ∧ Drawn0 w w'))
   (S4 : Aside0 (∀ w, Calls Try.prog 17 #[.int .u32 0, .int .u32 z, .bool false] w fun e w' => e = .returned (.tuple #[.int .u32 a, .bool v5, .bool v6]) ∧ Drawn0 w w'))
   (S5 : Aside0 (∀ w, Calls Try.prog 17 #[.int .u32 a, .int .u32 b, .bool true] w fun e w' => e = .returned (.tuple #[.int .u32 l, .bool true, .bool v7]) ∧ Drawn0 w w'))
   (A2 : Aside0 (∀ w, Calls Try.prog 16 #[.int .u32 l, .int .u32 1, .bool false] w fun e w' => e = .returned (.tuple #[.int .u32 x, .bool v8, .bool v9]) ∧ Drawn0 w w'))
   (_f1 : (a != b) = true) (_f2 : (a == b) = false) (_f3 : (a != 0) = true) (_f4 : (a == 0) = false) (_f5 : decide (a ≤ b) = true) :
    Calls Try.prog 9 #[.int .u32 a, .int .u32 b] w fun e w' => e = .returned (.bool true) ∧ Drawn0 w w' := by
  go_enter Try.func9, Try.ntmps9
  go_wp2_with (first | (go_at_call 11; refine (shown_any _).mono ?_; rintro e w1 ⟨rfl, ⟨nd, rfl⟩⟩) | (go_at_call 16; (first | (with_reducible refine (A1.out _).mono ?_) | (with_reducible refine (A2.out _).mono ?_)); rintro e w1 ⟨rfl, ⟨nd, rfl⟩⟩) | (go_at_call 17; (first | (with_reducible refine (S1.out _).mono ?_) | (with_reducible refine (S2.out _).mono ?_) | (with_reducible refine (S3.out _).mono ?_) | (with_reducible refine (S4.out _).mono ?_) | (with_reducible refine (S5.out _).mono ?_)); rintro e w1 ⟨rfl, ⟨nd, rfl⟩⟩))
  go_ret
  exact ⟨rfl, by repeat (first | exact Drawn0.refl _ | apply Drawn0.step)⟩

set_option maxHeartbeats 3200000 in
set_option maxRecDepth 100000 in
theorem opp_gt1 (a b x y z l : Int) (v1 v2 v3 v4 v5 v6 v7 v8 v9 : Bool) (w : World)
   (S1 : Aside0 (∀ w, Calls Try.prog 17 #[.int .u32 a, .int .u32 b, .bool false] w fun e w' => e = .returned (.tuple #[.int .u32 x, .bool false, .bool v1]) ∧ Drawn0 w w'))
   (S2 : Aside0 (∀ w, Calls Try.prog 17 #[.int .u32 b, .int .u32 a, .bool false] w fun e w' => e = .returned (.tuple #[.int .u32 y, .bool true, .bool v2]) ∧ Drawn0 w w'))
   (A1 : Aside0 (∀ w, Calls Try.prog 16 #[.int .u32 x, .int .u32 y, .bool false] w fun e w' => e = .returned (.tuple #[.int .u32 0, .bool true, .bool v3]) ∧ Drawn0 w w'))
   (S3 : Aside0 (∀ w, Calls Try.prog 17 #[.int .u32 0, .int .u32 a, .bool false] w fun e w' => e = .returned (.tuple #[.int .u32 z, .bool true, .bool v4]) ∧ Drawn0 w w'))
   (S4 : Aside0 (∀ w, Calls Try.prog 17 #[.int .u32 0, .int .u32 z, .bool false] w fun e w' => e = .returned (.tuple #[.int .u32 a, .bool v5, .bool v6]) ∧ Drawn0 w w'))
   (S5 : Aside0 (∀ w, Calls Try.prog 17 #[.int .u32 a, .int .u32 b, .bool true] w fun e w' => e = .returned (.tuple #[.int .u32 l, .bool false, .bool v7]) ∧ Drawn0 w w'))
   (A2 : Aside0 (∀ w, Calls Try.prog 16 #[.int .u32 l, .int .u32 1, .bool false] w fun e w' => e = .returned (.tuple #[.int .u32 x, .bool v8, .bool v9]) ∧ Drawn0 w w'))
   (_f1 : (a != b) = true) (_f2 : (a == b) = false) (_f3 : (a != 0) = true) (_f4 : (a == 0) = false) (_f5 : decide (a ≤ b) = false) :
    Calls Try.prog 9 #[.int .u32 a, .int .u32 b] w fun e w' => e = .returned (.bool true) ∧ Drawn0 w w' := by
  go_enter Try.func9, Try.ntmps9
  go_wp2_with (first | (go_at_call 11; refine (shown_any _).mono ?_; rintro e w1 ⟨rfl, ⟨nd, rfl⟩⟩) | (go_at_call 16; (first | (with_reducible refine (A1.out _).mono ?_) | (with_reducible refine (A2.out _).mono ?_)); rintro e w1 ⟨rfl, ⟨nd, rfl⟩⟩) | (go_at_call 17; (first | (with_reducible refine (S1.out _).mono ?_) | (with_reducible refine (S2.out _).mono ?_) | (with_reducible refine (S3.out _).mono ?_) | (with_reducible refine (S4.out _).mono ?_) | (with_reducible refine (S5.out _).mono ?_)); rintro e w1 ⟨rfl, ⟨nd, rfl⟩⟩))
  go_ret
  exact ⟨rfl, by repeat (first | exact Drawn0.refl _ | apply Drawn0.step)⟩


theorem opp_walk (a b : Int) (W : World) (wa : (Lit.int .u32 a).wf = true) (wb : (Lit.int .u32 b).wf = true) :
    Calls Try.prog 9 #[.int .u32 a, .int .u32 b] W fun e w' => e = .returned (.bool true) ∧ Below W.heap.size W w' := by
  have ha := wf32 wa
  have hb := wf32 wb
  have z : (0 : Int) ≤ 0 ∧ (0 : Int) < 4294967296 := by omega
  have o1 : (0 : Int) ≤ 1 ∧ (1 : Int) < 4294967296 := by omega
  have h0 : one false = 0 := rfl
  have h1 : one true = 1 := rfl
  have r1 : addR (subR a b false) (subR b a false) false = 0 := by unfold addR subR; rw [h0]; omega
  have r2 : subR 0 (subR 0 a false) false = a := by unfold subR; rw [h0]; omega
  have r3 : addR (subR a b true) 1 false = subR a b false := by unfold addR subR; rw [h0, h1]; omega
  have fin : ∀ e w', (e = Ending.returned (.bool true) ∧ Drawn0 W w') → e = .returned (.bool true) ∧ Below W.heap.size W w' := fun e w' ⟨h1, h2⟩ => ⟨h1, h2.below⟩
  by_cases q1 : a = b
  · by_cases q2 : a = 0
    · have c1 : subC a b false = false := by unfold subC; rw [h0]; exact decide_eq_false (by omega)
      have c2 : subC b a false = false := by unfold subC; rw [h0]; exact decide_eq_false (by omega)
      have c3 : addC (subR a b false) (subR b a false) false = false := by unfold addC subR; rw [h0]; exact decide_eq_false (by omega)
      have c4 : subC 0 a false = false := by unfold subC; rw [h0]; exact decide_eq_false (by omega)
      have c5 : subC a b true = true := by unfold subC; rw [h1]; exact decide_eq_true (by omega)
      have p1 : (a != b) = false := by rw [bne_eq_false_iff_eq]; omega
      have p2 : (a == b) = true := beq_iff_eq.2 (by omega)
      have p3 : (a != 0) = false := by rw [bne_eq_false_iff_eq]; omega
      have p4 : (a == 0) = true := beq_iff_eq.2 (by omega)
      have p5 : decide (a ≤ b) = true := by exact decide_eq_true (by omega)
      exact (opp_eq0 a b (subR a b false) (subR b a false) (subR 0 a false) (subR a b true) _ _ _ _ _ _ _ _ _ W
            (sub_is ha hb rfl c1 rfl) (sub_is hb ha rfl c2 rfl) (add_is (subR_range _ _ _) (subR_range _ _ _) r1 c3 rfl) (sub_is z ha rfl c4 rfl) (sub_is z (subR_range _ _ _) r2 rfl rfl) (sub_is ha hb rfl c5 rfl) (add_is (subR_range _ _ _) o1 r3 rfl rfl)
            p1 p2 p3 p4 p5).mono fin
    · have c1 : subC a b false = false := by unfold subC; rw [h0]; exact decide_eq_false (by omega)
      have c2 : subC b a false = false := by unfold subC; rw [h0]; exact decide_eq_false (by omega)
      have c3 : addC (subR a b false) (subR b a false) false = false := by unfold addC subR; rw [h0]; exact decide_eq_false (by omega)
      have c4 : subC 0 a false = true := by unfold subC; rw [h0]; exact decide_eq_true (by omega)
      have c5 : subC a b true = true := by unfold subC; rw [h1]; exact decide_eq_true (by omega)
      have p1 : (a != b) = false := by rw [bne_eq_false_iff_eq]; omega
      have p2 : (a == b) = true := beq_iff_eq.2 (by omega)
      have p3 : (a != 0) = true := bne_iff_ne.2 (by omega)
      have p4 : (a == 0) = false := beq_eq_false_iff_ne.2 (by omega)
      have p5 : decide (a ≤ b) = true := by exact decide_eq_true (by omega)
      exact (opp_eq1 a b (subR a b false) (subR b a false) (subR 0 a false) (subR a b true) _ _ _ _ _ _ _ _ _ W
            (sub_is ha hb rfl c1 rfl) (sub_is hb ha rfl c2 rfl) (add_is (subR_range _ _ _) (subR_range _ _ _) r1 c3 rfl) (sub_is z ha rfl c4 rfl) (sub_is z (subR_range _ _ _) r2 rfl rfl) (sub_is ha hb rfl c5 rfl) (add_is (subR_range _ _ _) o1 r3 rfl rfl)
            p1 p2 p3 p4 p5).mono fin
  · by_cases q3 : a < b
    · by_cases q2 : a = 0
      · have c1 : subC a b false = true := by unfold subC; rw [h0]; exact decide_eq_true (by omega)
        have c2 : subC b a false = false := by unfold subC; rw [h0]; exact decide_eq_false (by omega)
        have c3 : addC (subR a b false) (subR b a false) false = true := by unfold addC subR; rw [h0]; exact decide_eq_true (by omega)
        have c4 : subC 0 a false = false := by unfold subC; rw [h0]; exact decide_eq_false (by omega)
        have c5 : subC a b true = true := by unfold subC; rw [h1]; exact decide_eq_true (by omega)
        have p1 : (a != b) = true := bne_iff_ne.2 (by omega)
        have p2 : (a == b) = false := beq_eq_false_iff_ne.2 (by omega)
        have p3 : (a != 0) = false := by rw [bne_eq_false_iff_eq]; omega
        have p4 : (a == 0) = true := beq_iff_eq.2 (by omega)
        have p5 : decide (a ≤ b) = true := by exact decide_eq_true (by omega)
        exact (opp_lt0 a b (subR a b false) (subR b a false) (subR 0 a false) (subR a b true) _ _ _ _ _ _ _ _ _ W
              (sub_is ha hb rfl c1 rfl) (sub_is hb ha rfl c2 rfl) (add_is (subR_range _ _ _) (subR_range _ _ _) r1 c3 rfl) (sub_is z ha rfl c4 rfl) (sub_is z (subR_range _ _ _) r2 rfl rfl) (sub_is ha hb rfl c5 rfl) (add_is (subR_range _ _ _) o1 r3 rfl rfl)
              p1 p2 p3 p4 p5).mono fin
      · have c1 : subC a b false = true := by unfold subC; rw [h0]; exact decide_eq_true (by omega)
        have c2 : subC b a false = false := by unfold subC; rw [h0]; exact decide_eq_false (by omega)
        have c3 : addC (subR a b false) (subR b a false) false = true := by unfold addC subR; rw [h0]; exact decide_eq_true (by omega)
        have c4 : subC 0 a false = true := by unfold subC; rw [h0]; exact decide_eq_true (by omega)
        have c5 : subC a b true = true := by unfold subC; rw [h1]; exact decide_eq_true (by omega)
        have p1 : (a != b) = true := bne_iff_ne.2 (by omega)
        have p2 : (a == b) = false := beq_eq_false_iff_ne.2 (by omega)
        have p3 : (a != 0) = true := bne_iff_ne.2 (by omega)
        have p4 : (a == 0) = false := beq_eq_false_iff_ne.2 (by omega)
        have p5 : decide (a ≤ b) = true := by exact decide_eq_true (by omega)
        exact (opp_lt1 a b (subR a b false) (subR b a false) (subR 0 a false) (subR a b true) _ _ _ _ _ _ _ _ _ W
              (sub_is ha hb rfl c1 rfl) (sub_is hb ha rfl c2 rfl) (add_is (subR_range _ _ _) (subR_range _ _ _) r1 c3 rfl) (sub_is z ha rfl c4 rfl) (sub_is z (subR_range _ _ _) r2 rfl rfl) (sub_is ha hb rfl c5 rfl) (add_is (subR_range _ _ _) o1 r3 rfl rfl)
              p1 p2 p3 p4 p5).mono fin
    · have c1 : subC a b false = false := by unfold subC; rw [h0]; exact decide_eq_false (by omega)
      have c2 : subC b a false = true := by unfold subC; rw [h0]; exact decide_eq_true (by omega)
      have c3 : addC (subR a b false) (subR b a false) false = true := by unfold addC subR; rw [h0]; exact decide_eq_true (by omega)
      have c4 : subC 0 a false = true := by unfold subC; rw [h0]; exact decide_eq_true (by omega)
      have c5 : subC a b true = false := by unfold subC; rw [h1]; exact decide_eq_false (by omega)
      have p1 : (a != b) = true := bne_iff_ne.2 (by omega)
      have p2 : (a == b) = false := beq_eq_false_iff_ne.2 (by omega)
      have p3 : (a != 0) = true := bne_iff_ne.2 (by omega)
      have p4 : (a == 0) = false := beq_eq_false_iff_ne.2 (by omega)
      have p5 : decide (a ≤ b) = false := by exact decide_eq_false (by omega)
      exact (opp_gt1 a b (subR a b false) (subR b a false) (subR 0 a false) (subR a b true) _ _ _ _ _ _ _ _ _ W
            (sub_is ha hb rfl c1 rfl) (sub_is hb ha rfl c2 rfl) (add_is (subR_range _ _ _) (subR_range _ _ _) r1 c3 rfl) (sub_is z ha rfl c4 rfl) (sub_is z (subR_range _ _ _) r2 rfl rfl) (sub_is ha hb rfl c5 rfl) (add_is (subR_range _ _ _) o1 r3 rfl rfl)
            p1 p2 p3 p4 p5).mono fin

end Go.Proofs.Ythgnniiiekkodaa.Hand
