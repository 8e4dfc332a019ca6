/-
  Contracts of package word that the print does not take (Sub, and bits.Sub32), and of Add, Mul and the example, in plain words.
-/
import Derived.Test.YthgnniiiekkodaaPWordAllx1
import Derived.Test.YthgnniiiekkodaaMath
import Derived.Test.YthgnniiiekkodaaMath2
import Derived.Test.YthgnniiiekkodaaMath3
namespace Go.Proofs.Ythgnniiiekkodaa.Hand
open Go.RowKit Go.Proofs.Ythgnniiiekkodaa.PWordAll Go.Proofs.YthgnniiiekkodaaW.PrintWords Go.Proofs.YthgnniiiekkodaaW.PrintLast Go.Proofs.YthgnniiiekkodaaW.PrintMore
open Go.Proofs.Ythgnniiiekkodaa.WordM

theorem Drawn.trans {a b c : World} (h : Drawn0 a b) (k : Drawn0 b c) : Drawn0 a c := by
  obtain ⟨n, rfl⟩ := h
  obtain ⟨m, rfl⟩ := k
  exact ⟨⟨n + m, World.drewN_drewN ..⟩⟩

theorem one_any (c : Bool) (w : World) : Calls Try.prog 25 #[.bool c] w fun e w' => e = .returned (.int .u32 (one c)) ∧ Drawn0 w w' :=
  word_one.calls c (one c) w (by unfold word_one.f one; cases c <;> rfl)

set_option maxHeartbeats 800000 in
theorem sub32_any (x y b : Int) (w : World) :
    Calls Try.prog 26 #[.int .u32 x, .int .u32 y, .int .u32 b] w fun e w' => e = .returned (.tuple #[.int .u32 ((x - y - b) % 4294967296), .int .u32 (borrowI x y ((x - y - b) % 4294967296))]) ∧ Drawn0 w w' := by
  go_enter Try.func26, Try.ntmps26
  go_wp2
  go_ret2
  exact ⟨rfl, Drawn0.refl _⟩

set_option maxHeartbeats 1600000 in
theorem sub_raw (a b : Int) (c p q : Bool) (r bo : Int) (w : World) (h1 : Aside0 (∀ w, Calls Try.prog 26 #[.int .u32 a, .int .u32 b, .int .u32 (one c)] w fun e w' => e = .returned (.tuple #[.int .u32 r, .int .u32 bo]) ∧ Drawn0 w w'))
    (hp : (bo == 1) = p) (hq : (bits .and .u32 (bits .xor .u32 a b) (bits .xor .u32 a r) / 2147483648 == 1) = q) :
    Calls Try.prog 17 #[.int .u32 a, .int .u32 b, .bool c] w fun e w' => e = .returned (.tuple #[.int .u32 r, .bool p, .bool q]) ∧ Drawn0 w w' := by
  have H0 : Aside0 (∀ w, Calls Try.prog 25 #[.bool c] w fun e w' => e = .returned (.int .u32 (one c)) ∧ Drawn0 w w') := ⟨one_any c⟩
  generalize one c = t at *
  go_enter Try.func17, Try.ntmps17
  go_wp2_with (first | (go_at_call 25; (with_reducible refine (H0.out _).mono ?_); rintro e w1 ⟨rfl, ⟨nd, rfl⟩⟩) | (go_at_call 26; (with_reducible refine (h1.out _).mono ?_); rintro e w1 ⟨rfl, ⟨nd, rfl⟩⟩))
  go_ret3
  refine ⟨?_, by repeat (first | exact Drawn0.refl _ | apply Drawn0.step)⟩
  first | rfl | simp [hp, hq]

/-- word.Sub: the difference, whether it goes below nought, and whether it is no signed number. -/
theorem sub_any (a b : Int) (c : Bool) (ha : 0 ≤ a ∧ a < 4294967296) (hb : 0 ≤ b ∧ b < 4294967296) (w : World) :
    Calls Try.prog 17 #[.int .u32 a, .int .u32 b, .bool c] w fun e w' => e = .returned (.tuple #[.int .u32 (subR a b c), .bool (subC a b c), .bool (subV a b c)]) ∧ Drawn0 w w' :=
  sub_raw a b c _ _ (subR a b c) _ w ⟨fun w => sub32_any a b (one c) w⟩ (sub_borrow ha hb c) (sub_over ha hb c)

theorem add32_is {a b t : Int} (ha : 0 ≤ a ∧ a < 4294967296) (hb : 0 ≤ b ∧ b < 4294967296) (ht : 0 ≤ t ∧ t ≤ 1) : bits_Add32.f a b t = some ((a + b + t) % 4294967296, (a + b + t) / 4294967296) := by
  unfold bits_Add32.f
  simp only [u64_wrap]
  congr 2 <;> omega
/-- word.Add: the sum, whether it is 2^32 or more, and whether it is no signed number. -/
theorem add_any (a b : Int) (c : Bool) (ha : 0 ≤ a ∧ a < 4294967296) (hb : 0 ≤ b ∧ b < 4294967296) (w : World) :
    Calls Try.prog 16 #[.int .u32 a, .int .u32 b, .bool c] w fun e w' => e = .returned (.tuple #[.int .u32 (addR a b c), .bool (addC a b c), .bool (addV a b c)]) ∧ Drawn0 w w' := by
  have ht := one_range c
  refine word_Add.calls a b c (addR a b c) (addC a b c) (addV a b c) w ?_
  have h1 : word_one.f c = some (one c) := by unfold word_one.f one; cases c <;> rfl
  unfold word_Add.f
  rw [h1]
  simp only [Option.bind_some]
  rw [add32_is ha hb ht]
  simp only [Option.bind_some]
  have e : ((a + b + one c) / 4294967296 == 1) = addC a b c := by
    unfold addC
    apply bool_ext
    rw [beq_iff_eq, decide_eq_true_iff]
    omega
  rw [e]
  have := add_over ha hb c
  unfold addR at this ⊢
  rw [this]

theorem shown_any (w : World) : Calls Try.prog 11 #[] w fun e w' => e = .returned (.bool true) ∧ Drawn0 w w' :=
  rivetlaw01_shown.calls true w (by decide +kernel)
end Go.Proofs.Ythgnniiiekkodaa.Hand
