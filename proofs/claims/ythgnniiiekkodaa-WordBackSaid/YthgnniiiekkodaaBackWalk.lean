/-
  WordBack's walk: what was added is subtracted, with the same carry as borrow; each carry is just the other one's.
-/
import Derived.Test.YthgnniiiekkodaaSub
namespace Go.Proofs.Ythgnniiiekkodaa.Hand
open Go.RowKit Go.Proofs.Ythgnniiiekkodaa.PWordAll Go.Proofs.YthgnniiiekkodaaW.PrintWords Go.Proofs.YthgnniiiekkodaaW.PrintLast Go.Proofs.YthgnniiiekkodaaW.PrintMore
open Go.Proofs.Ythgnniiiekkodaa.WordM

set_option maxHeartbeats 3200000 in
set_option maxRecDepth 100000 in
theorem back_nn (a b r t : Int) (cy c e0 v2 v3 : Bool) (w : World)
   (A1 : Aside0 (∀ w, Calls Try.prog 16 #[.int .u32 a, .int .u32 b, .bool cy] w fun e w' => e = .returned (.tuple #[.int .u32 r, .bool c, .bool false]) ∧ Drawn0 w w'))
   (S1 : Aside0 (∀ w, Calls Try.prog 17 #[.int .u32 r, .int .u32 b, .bool cy] w fun e w' => e = .returned (.tuple #[.int .u32 a, .bool c, .bool v2]) ∧ Drawn0 w w'))
   (S2 : Aside0 (∀ w, Calls Try.prog 17 #[.int .u32 a, .int .u32 b, .bool cy] w fun e w' => e = .returned (.tuple #[.int .u32 t, .bool e0, .bool false]) ∧ Drawn0 w w'))
   (A2 : Aside0 (∀ w, Calls Try.prog 16 #[.int .u32 t, .int .u32 b, .bool cy] w fun e w' => e = .returned (.tuple #[.int .u32 a, .bool e0, .bool v3]) ∧ Drawn0 w w'))
   (A3 : Aside0 (∀ w, Calls Try.prog 16 #[.int .u32 a, .int .u32 0, .bool false] w fun e w' => e = .returned (.tuple #[.int .u32 a, .bool false, .bool false]) ∧ Drawn0 w w'))
   (S3 : Aside0 (∀ w, Calls Try.prog 17 #[.int .u32 a, .int .u32 a, .bool false] w fun e w' => e = .returned (.tuple #[.int .u32 0, .bool false, .bool false]) ∧ Drawn0 w w'))
   (A4 : Aside0 (∀ w, Calls Try.prog 16 #[.int .u32 b, .int .u32 a, .bool cy] w fun e w' => e = .returned (.tuple #[.int .u32 r, .bool c, .bool false]) ∧ Drawn0 w w')) :
    Calls Try.prog 7 #[.int .u32 a, .int .u32 b, .bool cy] w fun e w' => e = .returned (.bool true) ∧ Drawn0 w w' := by
  go_enter Try.func7, Try.ntmps7
  go_wp2_with (first | (go_at_call 11; refine (shown_any _).mono ?_; rintro e w1 ⟨rfl, ⟨nd, rfl⟩⟩) | (go_at_call 16; (first | (with_reducible refine (A1.out _).mono ?_) | (with_reducible refine (A2.out _).mono ?_) | (with_reducible refine (A3.out _).mono ?_) | (with_reducible refine (A4.out _).mono ?_)); rintro e w1 ⟨rfl, ⟨nd, rfl⟩⟩) | (go_at_call 17; (first | (with_reducible refine (S1.out _).mono ?_) | (with_reducible refine (S2.out _).mono ?_) | (with_reducible refine (S3.out _).mono ?_)); rintro e w1 ⟨rfl, ⟨nd, rfl⟩⟩))
  go_ret
  exact ⟨rfl, by repeat (first | exact Drawn0.refl _ | apply Drawn0.step)⟩

set_option maxHeartbeats 3200000 in
set_option maxRecDepth 100000 in
theorem back_ov (a b r t : Int) (cy c e0 v2 v3 : Bool) (w : World)
   (A1 : Aside0 (∀ w, Calls Try.prog 16 #[.int .u32 a, .int .u32 b, .bool cy] w fun e w' => e = .returned (.tuple #[.int .u32 r, .bool c, .bool true]) ∧ Drawn0 w w'))
   (S1 : Aside0 (∀ w, Calls Try.prog 17 #[.int .u32 r, .int .u32 b, .bool cy] w fun e w' => e = .returned (.tuple #[.int .u32 a, .bool c, .bool v2]) ∧ Drawn0 w w'))
   (S2 : Aside0 (∀ w, Calls Try.prog 17 #[.int .u32 a, .int .u32 b, .bool cy] w fun e w' => e = .returned (.tuple #[.int .u32 t, .bool e0, .bool false]) ∧ Drawn0 w w'))
   (A2 : Aside0 (∀ w, Calls Try.prog 16 #[.int .u32 t, .int .u32 b, .bool cy] w fun e w' => e = .returned (.tuple #[.int .u32 a, .bool e0, .bool v3]) ∧ Drawn0 w w'))
   (A3 : Aside0 (∀ w, Calls Try.prog 16 #[.int .u32 a, .int .u32 0, .bool false] w fun e w' => e = .returned (.tuple #[.int .u32 a, .bool false, .bool false]) ∧ Drawn0 w w'))
   (S3 : Aside0 (∀ w, Calls Try.prog 17 #[.int .u32 a, .int .u32 a, .bool false] w fun e w' => e = .returned (.tuple #[.int .u32 0, .bool false, .bool false]) ∧ Drawn0 w w'))
   (A4 : Aside0 (∀ w, Calls Try.prog 16 #[.int .u32 b, .int .u32 a, .bool cy] w fun e w' => e = .returned (.tuple #[.int .u32 r, .bool c, .bool true]) ∧ Drawn0 w w'))
   (f1 : (a / 2147483648 == b / 2147483648) = true) :
    Calls Try.prog 7 #[.int .u32 a, .int .u32 b, .bool cy] w fun e w' => e = .returned (.bool true) ∧ Drawn0 w w' := by
  go_enter Try.func7, Try.ntmps7
  go_wp2_with (first | (go_at_call 11; refine (shown_any _).mono ?_; rintro e w1 ⟨rfl, ⟨nd, rfl⟩⟩) | (go_at_call 16; (first | (with_reducible refine (A1.out _).mono ?_) | (with_reducible refine (A2.out _).mono ?_) | (with_reducible refine (A3.out _).mono ?_) | (with_reducible refine (A4.out _).mono ?_)); rintro e w1 ⟨rfl, ⟨nd, rfl⟩⟩) | (go_at_call 17; (first | (with_reducible refine (S1.out _).mono ?_) | (with_reducible refine (S2.out _).mono ?_) | (with_reducible refine (S3.out _).mono ?_)); rintro e w1 ⟨rfl, ⟨nd, rfl⟩⟩))
  go_ret
  exact ⟨rfl, by repeat (first | exact Drawn0.refl _ | apply Drawn0.step)⟩

set_option maxHeartbeats 3200000 in
set_option maxRecDepth 100000 in
theorem back_un (a b r t : Int) (cy c e0 v2 v3 : Bool) (w : World)
   (A1 : Aside0 (∀ w, Calls Try.prog 16 #[.int .u32 a, .int .u32 b, .bool cy] w fun e w' => e = .returned (.tuple #[.int .u32 r, .bool c, .bool false]) ∧ Drawn0 w w'))
   (S1 : Aside0 (∀ w, Calls Try.prog 17 #[.int .u32 r, .int .u32 b, .bool cy] w fun e w' => e = .returned (.tuple #[.int .u32 a, .bool c, .bool v2]) ∧ Drawn0 w w'))
   (S2 : Aside0 (∀ w, Calls Try.prog 17 #[.int .u32 a, .int .u32 b, .bool cy] w fun e w' => e = .returned (.tuple #[.int .u32 t, .bool e0, .bool true]) ∧ Drawn0 w w'))
   (A2 : Aside0 (∀ w, Calls Try.prog 16 #[.int .u32 t, .int .u32 b, .bool cy] w fun e w' => e = .returned (.tuple #[.int .u32 a, .bool e0, .bool v3]) ∧ Drawn0 w w'))
   (A3 : Aside0 (∀ w, Calls Try.prog 16 #[.int .u32 a, .int .u32 0, .bool false] w fun e w' => e = .returned (.tuple #[.int .u32 a, .bool false, .bool false]) ∧ Drawn0 w w'))
   (S3 : Aside0 (∀ w, Calls Try.prog 17 #[.int .u32 a, .int .u32 a, .bool false] w fun e w' => e = .returned (.tuple #[.int .u32 0, .bool false, .bool false]) ∧ Drawn0 w w'))
   (A4 : Aside0 (∀ w, Calls Try.prog 16 #[.int .u32 b, .int .u32 a, .bool cy] w fun e w' => e = .returned (.tuple #[.int .u32 r, .bool c, .bool false]) ∧ Drawn0 w w'))
   (_f1 : (a / 2147483648 == b / 2147483648) = false) (f2 : (a / 2147483648 != b / 2147483648) = true) :
    Calls Try.prog 7 #[.int .u32 a, .int .u32 b, .bool cy] w fun e w' => e = .returned (.bool true) ∧ Drawn0 w w' := by
  go_enter Try.func7, Try.ntmps7
  go_wp2_with (first | (go_at_call 11; refine (shown_any _).mono ?_; rintro e w1 ⟨rfl, ⟨nd, rfl⟩⟩) | (go_at_call 16; (first | (with_reducible refine (A1.out _).mono ?_) | (with_reducible refine (A2.out _).mono ?_) | (with_reducible refine (A3.out _).mono ?_) | (with_reducible refine (A4.out _).mono ?_)); rintro e w1 ⟨rfl, ⟨nd, rfl⟩⟩) | (go_at_call 17; (first | (with_reducible refine (S1.out _).mono ?_) | (with_reducible refine (S2.out _).mono ?_) | (with_reducible refine (S3.out _).mono ?_)); rintro e w1 ⟨rfl, ⟨nd, rfl⟩⟩))
  go_ret
  exact ⟨rfl, by repeat (first | exact Drawn0.refl _ | apply Drawn0.step)⟩

theorem sub_is {a b r : Int} {cy p q : Bool} (ha : 0 ≤ a ∧ a < 4294967296) (hb : 0 ≤ b ∧ b < 4294967296) (h1 : subR a b cy = r) (h2 : subC a b cy = p) (h3 : subV a b cy = q) :
    Aside0 (∀ w, Calls Try.prog 17 #[.int .u32 a, .int .u32 b, .bool cy] w fun e w' => e = .returned (.tuple #[.int .u32 r, .bool p, .bool q]) ∧ Drawn0 w w') :=
  ⟨fun w => by rw [← h1, ← h2, ← h3]; exact sub_any a b cy ha hb w⟩
theorem add_is {a b r : Int} {cy p q : Bool} (ha : 0 ≤ a ∧ a < 4294967296) (hb : 0 ≤ b ∧ b < 4294967296) (h1 : addR a b cy = r) (h2 : addC a b cy = p) (h3 : addV a b cy = q) :
    Aside0 (∀ w, Calls Try.prog 16 #[.int .u32 a, .int .u32 b, .bool cy] w fun e w' => e = .returned (.tuple #[.int .u32 r, .bool p, .bool q]) ∧ Drawn0 w w') :=
  ⟨fun w => by rw [← h1, ← h2, ← h3]; exact add_any a b cy ha hb w⟩

theorem back_sub {a b : Int} (cy : Bool) (ha : 0 ≤ a ∧ a < 4294967296) (hb : 0 ≤ b ∧ b < 4294967296) : subR (addR a b cy) b cy = a ∧ subC (addR a b cy) b cy = addC a b cy := by
  have h := one_range cy
  unfold subR subC addR addC
  generalize one cy = t at *
  exact ⟨by omega, bool_ext (by rw [decide_eq_true_iff, decide_eq_true_iff]; omega)⟩
theorem back_add {a b : Int} (cy : Bool) (ha : 0 ≤ a ∧ a < 4294967296) (hb : 0 ≤ b ∧ b < 4294967296) : addR (subR a b cy) b cy = a ∧ addC (subR a b cy) b cy = subC a b cy := by
  have h := one_range cy
  unfold subR subC addR addC
  generalize one cy = t at *
  exact ⟨by omega, bool_ext (by rw [decide_eq_true_iff, decide_eq_true_iff]; omega)⟩
theorem add_swap (a b : Int) (cy : Bool) : addR b a cy = addR a b cy ∧ addC b a cy = addC a b cy ∧ addV b a cy = addV a b cy := by
  unfold addR addC addV
  rw [Int.add_comm b a, Int.add_comm (wrap32 b) (wrap32 a)]
  exact ⟨rfl, rfl, rfl⟩
theorem add_zero {a : Int} (ha : 0 ≤ a ∧ a < 4294967296) : addR a 0 false = a ∧ addC a 0 false = false ∧ addV a 0 false = false := by
  have r := w32r a
  unfold addR addC addV outS one
  refine ⟨by simp; omega, decide_eq_false (by simp; omega), decide_eq_false ?_⟩
  rw [show wrap32 0 = 0 by unfold wrap32; omega]
  simp
  omega
theorem sub_self (a : Int) : subR a a false = 0 ∧ subC a a false = false ∧ subV a a false = false := by
  unfold subR subC subV outS one
  refine ⟨by simp, by simp, ?_⟩
  rw [Int.sub_self]
  decide
theorem add_over_sign {a b : Int} (cy : Bool) (ha : 0 ≤ a ∧ a < 4294967296) (hb : 0 ≤ b ∧ b < 4294967296) (h : addV a b cy = true) : a / 2147483648 = b / 2147483648 := by
  have h1 := one_range cy
  unfold addV outS at h
  rw [decide_eq_true_iff] at h
  unfold wrap32 at h
  generalize one cy = t at *
  omega
theorem sub_over_sign {a b : Int} (cy : Bool) (_ha : 0 ≤ a ∧ a < 4294967296) (hb : 0 ≤ b ∧ b < 4294967296) (h : subV a b cy = true) : a / 2147483648 ≠ b / 2147483648 := by
  have h1 := one_range cy
  unfold subV outS at h
  rw [decide_eq_true_iff] at h
  unfold wrap32 at h
  generalize one cy = t at *
  omega

theorem back_walk (a b : Int) (cy : Bool) (W : World) (wa : (Lit.int .u32 a).wf = true) (wb : (Lit.int .u32 b).wf = true) :
    Calls Try.prog 7 #[.int .u32 a, .int .u32 b, .bool cy] W fun e w' => e = .returned (.bool true) ∧ Below W.heap.size W w' := by
  have ha := wf32 wa
  have hb := wf32 wb
  have hr := addR_range a b cy
  have ht := subR_range a b cy
  have z : (0 : Int) ≤ 0 ∧ (0 : Int) < 4294967296 := by omega
  have s1 := back_sub cy ha hb
  have s2 := back_add cy ha hb
  have s3 := add_swap a b cy
  have s4 := add_zero ha
  have s5 := sub_self a
  have A1 := add_is (r := addR a b cy) (p := addC a b cy) (q := addV a b cy) ha hb rfl rfl rfl
  have S1 := sub_is (q := subV (addR a b cy) b cy) hr hb s1.1 s1.2 rfl
  have S2 := sub_is (r := subR a b cy) (p := subC a b cy) (q := subV a b cy) ha hb rfl rfl rfl
  have A2 := add_is (q := addV (subR a b cy) b cy) ht hb s2.1 s2.2 rfl
  have A3 := add_is ha z s4.1 s4.2.1 s4.2.2
  have S3 := sub_is ha ha s5.1 s5.2.1 s5.2.2
  have A4 := add_is hb ha s3.1 s3.2.1 s3.2.2
  have fin : ∀ e w', (e = Ending.returned (.bool true) ∧ Drawn0 W w') → e = .returned (.bool true) ∧ Below W.heap.size W w' := fun e w' ⟨h1, h2⟩ => ⟨h1, h2.below⟩
  cases hv : addV a b cy with
  | true =>
    rw [hv] at A1 A4
    have e1 := add_over_sign cy ha hb hv
    cases ho : subV a b cy with
    | true => exact absurd e1 (sub_over_sign cy ha hb ho)
    | false =>
      rw [ho] at S2
      exact (back_ov a b _ _ cy _ _ _ _ W A1 S1 S2 A2 A3 S3 A4 (beq_iff_eq.2 e1)).mono fin
  | false =>
    rw [hv] at A1 A4
    cases ho : subV a b cy with
    | true =>
      rw [ho] at S2
      have e1 := sub_over_sign cy ha hb ho
      exact (back_un a b _ _ cy _ _ _ _ W A1 S1 S2 A2 A3 S3 A4 (beq_eq_false_iff_ne.2 e1) (bne_iff_ne.2 e1)).mono fin
    | false =>
      rw [ho] at S2
      exact (back_nn a b _ _ cy _ _ _ _ W A1 S1 S2 A2 A3 S3 A4).mono fin

end Go.Proofs.Ythgnniiiekkodaa.Hand
