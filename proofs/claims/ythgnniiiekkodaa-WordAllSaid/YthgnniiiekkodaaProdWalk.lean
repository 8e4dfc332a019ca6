/-
  WordProducts' walk: products do not hang on which factor stands first; small factors' product; the lower half is the same with a sign and without.
-/
import Derived.Test.YthgnniiiekkodaaSub
namespace Go.Proofs.Ythgnniiiekkodaa.Hand
open Go.RowKit Go.Proofs.Ythgnniiiekkodaa.PWordAll Go.Proofs.YthgnniiiekkodaaW.PrintWords Go.Proofs.YthgnniiiekkodaaW.PrintLast Go.Proofs.YthgnniiiekkodaaW.PrintMore
open Go.Proofs.Ythgnniiiekkodaa.WordM

theorem prod_u {a b : Int} (ha : 0 ≤ a ∧ a < 4294967296) (hb : 0 ≤ b ∧ b < 4294967296) : 0 ≤ a * b ∧ a * b ≤ 18446744065119617025 := by
  refine ⟨Int.mul_nonneg ha.1 hb.1, ?_⟩
  have : a * b ≤ 4294967295 * 4294967295 := Int.mul_le_mul (by omega) (by omega) hb.1 (by omega)
  omega
theorem prod_s (a b : Int) : -4611686018427387904 ≤ wrap32 a * wrap32 b ∧ wrap32 a * wrap32 b ≤ 4611686018427387904 := by
  have r := w32r a
  have s := w32r b
  have h : (wrap32 a * wrap32 b).natAbs ≤ 2147483648 * 2147483648 := by
    rw [Int.natAbs_mul]
    exact Nat.mul_le_mul (by omega) (by omega)
  omega

theorem mul_u {a b : Int} (ha : 0 ≤ a ∧ a < 4294967296) (hb : 0 ≤ b ∧ b < 4294967296) : word_Mul.f a b true = some (a * b % 4294967296, a * b / 4294967296) := by
  have p := prod_u ha hb
  simp only [word_Mul.f, if_true]
  rw [u64_wrap a, u64_wrap b, Int.emod_eq_of_lt (a := a) (by omega) (by omega), Int.emod_eq_of_lt (a := b) (by omega) (by omega), u64_wrap]
  generalize a * b = x at *
  congr 2 <;> omega
theorem mul_s (a b : Int) : word_Mul.f a b false = some ((wrap32 a * wrap32 b) % 4294967296, (wrap32 a * wrap32 b) % 18446744073709551616 / 4294967296) := by
  have p := prod_s a b
  have r := w32r a
  have s := w32r b
  simp only [word_Mul.f]
  rw [if_neg (by simp), w64 (a := wrap32 a) (by omega) (by omega), w64 (a := wrap32 b) (by omega) (by omega)]
  generalize wrap32 a * wrap32 b = x at *
  rw [w64 (by omega) (by omega), u64_wrap]
  congr 2 <;> omega

theorem low_same {a b : Int} (ha : 0 ≤ a ∧ a < 4294967296) (hb : 0 ≤ b ∧ b < 4294967296) : (wrap32 a * wrap32 b) % 4294967296 = a * b % 4294967296 := by
  rw [Int.mul_emod]
  have h1 : wrap32 a % 4294967296 = a := by unfold wrap32; omega
  have h2 : wrap32 b % 4294967296 = b := by unfold wrap32; omega
  rw [h1, h2]

theorem small {a b : Int} (ha : 0 ≤ a ∧ a < 65536) (hb : 0 ≤ b ∧ b < 65536) : word_Mul.f a b false = some (a * b % 4294967296, 0) := by
  rw [mul_s]
  have h1 : wrap32 a = a := by unfold wrap32; omega
  have h2 : wrap32 b = b := by unfold wrap32; omega
  have p : 0 ≤ a * b ∧ a * b ≤ 65535 * 65535 := ⟨Int.mul_nonneg ha.1 hb.1, Int.mul_le_mul (by omega) (by omega) hb.1 (by omega)⟩
  rw [h1, h2]
  generalize a * b = x at *
  congr 2
  omega

theorem big : word_Mul.f 65536 65536 true = some (0, 1) := by decide +kernel


set_option maxHeartbeats 3200000 in
set_option maxRecDepth 100000 in
theorem prod_lo (a b hi hs : Int) (w : World) (_ha : 0 ≤ a) (_ha2 : a ≤ 4294967295) (_hb : 0 ≤ b) (_hb2 : b ≤ 4294967295)
   (M1 : Aside0 (∀ w, Calls Try.prog 14 #[.int .u32 a, .int .u32 b, .bool true] w fun e w' => e = .returned (.tuple #[.int .u32 (a * b % 4294967296), .int .u32 hi]) ∧ Drawn0 w w'))
   (M2 : Aside0 (∀ w, Calls Try.prog 14 #[.int .u32 b, .int .u32 a, .bool true] w fun e w' => e = .returned (.tuple #[.int .u32 (a * b % 4294967296), .int .u32 hi]) ∧ Drawn0 w w'))
   (M3 : Aside0 (∀ w, Calls Try.prog 14 #[.int .u32 a, .int .u32 b, .bool false] w fun e w' => e = .returned (.tuple #[.int .u32 (a * b % 4294967296), .int .u32 hs]) ∧ Drawn0 w w'))
   (M4 : Aside0 (∀ w, Calls Try.prog 14 #[.int .u32 b, .int .u32 a, .bool false] w fun e w' => e = .returned (.tuple #[.int .u32 (a * b % 4294967296), .int .u32 hs]) ∧ Drawn0 w w'))
   (M5 : Aside0 (∀ w, Calls Try.prog 14 #[.int .u32 a, .int .u32 1, .bool true] w fun e w' => e = .returned (.tuple #[.int .u32 a, .int .u32 0]) ∧ Drawn0 w w'))
   (M6 : Aside0 (∀ w, Calls Try.prog 14 #[.int .u32 a, .int .u32 1, .bool false] w fun e w' => e = .returned (.tuple #[.int .u32 a, .int .u32 0]) ∧ Drawn0 w w'))
   (M7 : Aside0 (∀ w, Calls Try.prog 14 #[.int .u32 (a % 65536), .int .u32 (b % 65536), .bool false] w fun e w' => e = .returned (.tuple #[.int .u32 ((a % 65536) * (b % 65536) % 4294967296), .int .u32 0]) ∧ Drawn0 w w'))
   (M8 : Aside0 (∀ w, Calls Try.prog 14 #[.int .u32 65536, .int .u32 65536, .bool true] w fun e w' => e = .returned (.tuple #[.int .u32 0, .int .u32 1]) ∧ Drawn0 w w'))
   (_f1 : (a / 2147483648 == 1) = false) (_f2 : a < 2147483648) :
    Calls Try.prog 5 #[.int .u32 a, .int .u32 b] w fun e w' => e = .returned (.bool true) ∧ Drawn0 w w' := by
  go_enter Try.func5, Try.ntmps5
  go_wp2_with (first | (go_at_call 11; refine (shown_any _).mono ?_; rintro e w1 ⟨rfl, ⟨nd, rfl⟩⟩) | (go_at_call 14; (first | (with_reducible refine (M1.out _).mono ?_) | (with_reducible refine (M2.out _).mono ?_) | (with_reducible refine (M3.out _).mono ?_) | (with_reducible refine (M4.out _).mono ?_) | (with_reducible refine (M5.out _).mono ?_) | (with_reducible refine (M6.out _).mono ?_) | (with_reducible refine (M7.out _).mono ?_) | (with_reducible refine (M8.out _).mono ?_)); rintro e w1 ⟨rfl, ⟨nd, rfl⟩⟩))
  go_ret
  exact ⟨rfl, by repeat (first | exact Drawn0.refl _ | apply Drawn0.step)⟩

set_option maxHeartbeats 3200000 in
set_option maxRecDepth 100000 in
theorem prod_hi (a b hi hs : Int) (w : World) (_ha : 0 ≤ a) (_ha2 : a ≤ 4294967295) (_hb : 0 ≤ b) (_hb2 : b ≤ 4294967295)
   (M1 : Aside0 (∀ w, Calls Try.prog 14 #[.int .u32 a, .int .u32 b, .bool true] w fun e w' => e = .returned (.tuple #[.int .u32 (a * b % 4294967296), .int .u32 hi]) ∧ Drawn0 w w'))
   (M2 : Aside0 (∀ w, Calls Try.prog 14 #[.int .u32 b, .int .u32 a, .bool true] w fun e w' => e = .returned (.tuple #[.int .u32 (a * b % 4294967296), .int .u32 hi]) ∧ Drawn0 w w'))
   (M3 : Aside0 (∀ w, Calls Try.prog 14 #[.int .u32 a, .int .u32 b, .bool false] w fun e w' => e = .returned (.tuple #[.int .u32 (a * b % 4294967296), .int .u32 hs]) ∧ Drawn0 w w'))
   (M4 : Aside0 (∀ w, Calls Try.prog 14 #[.int .u32 b, .int .u32 a, .bool false] w fun e w' => e = .returned (.tuple #[.int .u32 (a * b % 4294967296), .int .u32 hs]) ∧ Drawn0 w w'))
   (M5 : Aside0 (∀ w, Calls Try.prog 14 #[.int .u32 a, .int .u32 1, .bool true] w fun e w' => e = .returned (.tuple #[.int .u32 a, .int .u32 0]) ∧ Drawn0 w w'))
   (M6 : Aside0 (∀ w, Calls Try.prog 14 #[.int .u32 a, .int .u32 1, .bool false] w fun e w' => e = .returned (.tuple #[.int .u32 a, .int .u32 4294967295]) ∧ Drawn0 w w'))
   (M7 : Aside0 (∀ w, Calls Try.prog 14 #[.int .u32 (a % 65536), .int .u32 (b % 65536), .bool false] w fun e w' => e = .returned (.tuple #[.int .u32 ((a % 65536) * (b % 65536) % 4294967296), .int .u32 0]) ∧ Drawn0 w w'))
   (M8 : Aside0 (∀ w, Calls Try.prog 14 #[.int .u32 65536, .int .u32 65536, .bool true] w fun e w' => e = .returned (.tuple #[.int .u32 0, .int .u32 1]) ∧ Drawn0 w w'))
   (_f1 : (a / 2147483648 == 1) = true) (_f2 : 2147483648 ≤ a) :
    Calls Try.prog 5 #[.int .u32 a, .int .u32 b] w fun e w' => e = .returned (.bool true) ∧ Drawn0 w w' := by
  go_enter Try.func5, Try.ntmps5
  go_wp2_with (first | (go_at_call 11; refine (shown_any _).mono ?_; rintro e w1 ⟨rfl, ⟨nd, rfl⟩⟩) | (go_at_call 14; (first | (with_reducible refine (M1.out _).mono ?_) | (with_reducible refine (M2.out _).mono ?_) | (with_reducible refine (M3.out _).mono ?_) | (with_reducible refine (M4.out _).mono ?_) | (with_reducible refine (M5.out _).mono ?_) | (with_reducible refine (M6.out _).mono ?_) | (with_reducible refine (M7.out _).mono ?_) | (with_reducible refine (M8.out _).mono ?_)); rintro e w1 ⟨rfl, ⟨nd, rfl⟩⟩))
  go_ret
  exact ⟨rfl, by repeat (first | exact Drawn0.refl _ | apply Drawn0.step)⟩

theorem mul_is {a b r q : Int} {c : Bool} (h : word_Mul.f a b c = some (r, q)) : Aside0 (∀ w, Calls Try.prog 14 #[.int .u32 a, .int .u32 b, .bool c] w fun e w' => e = .returned (.tuple #[.int .u32 r, .int .u32 q]) ∧ Drawn0 w w') :=
  ⟨fun w => word_Mul.calls a b c r q w h⟩
theorem one_s {a : Int} (ha : 0 ≤ a ∧ a < 4294967296) : word_Mul.f a 1 false = some (a, if 2147483648 ≤ a then 4294967295 else 0) := by
  rw [mul_s a 1, show wrap32 1 = 1 by unfold wrap32; omega, Int.mul_one]
  split
  · unfold wrap32; congr 2 <;> omega
  · unfold wrap32; congr 2 <;> omega
theorem one_u {a : Int} (ha : 0 ≤ a ∧ a < 4294967296) : word_Mul.f a 1 true = some (a, 0) := by
  rw [mul_u ha ⟨by omega, by omega⟩, Int.mul_one]
  congr 2 <;> omega
theorem products_walk (a b : Int) (W : World) (wa : (Lit.int .u32 a).wf = true) (wb : (Lit.int .u32 b).wf = true) :
    Calls Try.prog 5 #[.int .u32 a, .int .u32 b] W fun e w' => e = .returned (.bool true) ∧ Below W.heap.size W w' := by
  have ha := wf32 wa
  have hb := wf32 wb
  have fin : ∀ e w', (e = Ending.returned (.bool true) ∧ Drawn0 W w') → e = .returned (.bool true) ∧ Below W.heap.size W w' := fun e w' ⟨h1, h2⟩ => ⟨h1, h2.below⟩
  have M1 := mul_is (mul_u ha hb)
  have e2 := mul_u hb ha
  rw [Int.mul_comm b a] at e2
  have M2 := mul_is e2
  have e3 := mul_s a b
  rw [low_same ha hb] at e3
  have M3 := mul_is e3
  have e4 := mul_s b a
  rw [Int.mul_comm (wrap32 b) (wrap32 a), low_same ha hb] at e4
  have M4 := mul_is e4
  have M5 := mul_is (one_u ha)
  have e6 := one_s ha
  have M7 := mul_is (small (a := a % 65536) (b := b % 65536) (by omega) (by omega))
  have M8 := mul_is big
  by_cases c : 2147483648 ≤ a
  · rw [if_pos c] at e6
    exact (prod_hi a b _ _ W ha.1 (by omega) hb.1 (by omega) M1 M2 M3 M4 M5 (mul_is e6) M7 M8 (beq_iff_eq.2 (by omega)) c).mono fin
  · rw [if_neg c] at e6
    exact (prod_lo a b _ _ W ha.1 (by omega) hb.1 (by omega) M1 M2 M3 M4 M5 (mul_is e6) M7 M8 (beq_eq_false_iff_ne.2 (by omega)) (by omega)).mono fin

end Go.Proofs.Ythgnniiiekkodaa.Hand
