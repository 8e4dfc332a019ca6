/-
  WordLong's walk: numbers of 64 bits are added, and subtracted, by halves.
-/
import Derived.Test.YthgnniiiekkodaaSub
namespace Go.Proofs.Ythgnniiiekkodaa.Hand
open Go.RowKit Go.Proofs.Ythgnniiiekkodaa.PWordAll Go.Proofs.YthgnniiiekkodaaW.PrintWords Go.Proofs.YthgnniiiekkodaaW.PrintLast Go.Proofs.YthgnniiiekkodaaW.PrintMore
open Go.Proofs.Ythgnniiiekkodaa.WordM

theorem sub_is {a b r : Int} {cy p q : Bool} (ha : 0 ≤ a ∧ a < 4294967296) (hb : 0 ≤ b ∧ b < 4294967296) (h1 : subR a b cy = r) (h2 : subC a b cy = p) (h3 : subV a b cy = q) :
    Aside0 (∀ w, Calls Try.prog 17 #[.int .u32 a, .int .u32 b, .bool cy] w fun e w' => e = .returned (.tuple #[.int .u32 r, .bool p, .bool q]) ∧ Drawn0 w w') :=
  ⟨fun w => by rw [← h1, ← h2, ← h3]; exact sub_any a b cy ha hb w⟩
theorem add_is {a b r : Int} {cy p q : Bool} (ha : 0 ≤ a ∧ a < 4294967296) (hb : 0 ≤ b ∧ b < 4294967296) (h1 : addR a b cy = r) (h2 : addC a b cy = p) (h3 : addV a b cy = q) :
    Aside0 (∀ w, Calls Try.prog 16 #[.int .u32 a, .int .u32 b, .bool cy] w fun e w' => e = .returned (.tuple #[.int .u32 r, .bool p, .bool q]) ∧ Drawn0 w w') :=
  ⟨fun w => by rw [← h1, ← h2, ← h3]; exact add_any a b cy ha hb w⟩

set_option maxHeartbeats 3200000 in
set_option maxRecDepth 100000 in
theorem long_raw (a b al ah bl bh low high less more : Int) (c d e0 f v1 v2 v3 v4 : Bool) (w : World)
   (A1 : Aside0 (∀ w, Calls Try.prog 16 #[.int .u32 al, .int .u32 bl, .bool false] w fun e w' => e = .returned (.tuple #[.int .u32 low, .bool c, .bool v1]) ∧ Drawn0 w w'))
   (A2 : Aside0 (∀ w, Calls Try.prog 16 #[.int .u32 ah, .int .u32 bh, .bool c] w fun e w' => e = .returned (.tuple #[.int .u32 high, .bool d, .bool v2]) ∧ Drawn0 w w'))
   (S1 : Aside0 (∀ w, Calls Try.prog 17 #[.int .u32 al, .int .u32 bl, .bool false] w fun e w' => e = .returned (.tuple #[.int .u32 less, .bool e0, .bool v3]) ∧ Drawn0 w w'))
   (S2 : Aside0 (∀ w, Calls Try.prog 17 #[.int .u32 ah, .int .u32 bh, .bool e0] w fun e w' => e = .returned (.tuple #[.int .u32 more, .bool f, .bool v4]) ∧ Drawn0 w w'))
   (e1 : a % 4294967296 = al) (e2 : b % 4294967296 = bl) (e3 : a / 4294967296 % 4294967296 = ah) (e4 : b / 4294967296 % 4294967296 = bh)
   (f1 : (bits .or .u64 (IntKind.u64.wrap (IntKind.u64.wrap high * 4294967296)) (IntKind.u64.wrap low) == IntKind.u64.wrap (a + b)) = true) (f2 : (d == decide (IntKind.u64.wrap (a + b) < a)) = true)
   (f3 : (bits .or .u64 (IntKind.u64.wrap (IntKind.u64.wrap more * 4294967296)) (IntKind.u64.wrap less) == IntKind.u64.wrap (a - b)) = true) (f4 : (f == decide (a < b)) = true) :
    Calls Try.prog 8 #[.int .u64 a, .int .u64 b] w fun e w' => e = .returned (.bool true) ∧ Drawn0 w w' := by
  go_enter Try.func8, Try.ntmps8
  go_wp2_with (first | (go_at_call 11; refine (shown_any _).mono ?_; rintro e w1 ⟨rfl, ⟨nd, rfl⟩⟩) | (go_at_call 16; (first | (with_reducible refine (A1.out _).mono ?_) | (with_reducible refine (A2.out _).mono ?_)); rintro e w1 ⟨rfl, ⟨nd, rfl⟩⟩) | (go_at_call 17; (first | (with_reducible refine (S1.out _).mono ?_) | (with_reducible refine (S2.out _).mono ?_)); rintro e w1 ⟨rfl, ⟨nd, rfl⟩⟩))
  go_ret
  exact ⟨rfl, by repeat (first | exact Drawn0.refl _ | apply Drawn0.step)⟩

theorem u64_join {h l : Int} (hh : 0 ≤ h ∧ h < 4294967296) (hl : 0 ≤ l ∧ l < 4294967296) : bits .or .u64 (IntKind.u64.wrap (IntKind.u64.wrap h * 4294967296)) (IntKind.u64.wrap l) = h * 4294967296 + l := by
  rw [u64_wrap, u64_wrap, u64_wrap, Int.emod_eq_of_lt (a := h) hh.1 (by omega), Int.emod_eq_of_lt (a := l) hl.1 (by omega), Int.emod_eq_of_lt (a := h * 4294967296) (by omega) (by omega)]
  obtain ⟨x, rfl⟩ := Int.eq_ofNat_of_zero_le hh.1
  obtain ⟨y, rfl⟩ := Int.eq_ofNat_of_zero_le hl.1
  have e : (x : Int) * 4294967296 = ((2 ^ 32 * x : Nat) : Int) := by omega
  rw [e, u64_or_nat _ _ (by omega) (by omega), ← Nat.two_pow_add_eq_or_of_lt (show y < 2 ^ 32 by omega)]
  omega
theorem long_add {a b : Int} (ha : 0 ≤ a ∧ a < 18446744073709551616) (hb : 0 ≤ b ∧ b < 18446744073709551616) (c : Bool) (hc : addC (a % 4294967296) (b % 4294967296) false = c) :
    addR (a / 4294967296 % 4294967296) (b / 4294967296 % 4294967296) c * 4294967296 + addR (a % 4294967296) (b % 4294967296) false = (a + b) % 18446744073709551616 ∧
    addC (a / 4294967296 % 4294967296) (b / 4294967296 % 4294967296) c = decide ((a + b) % 18446744073709551616 < a) := by
  unfold addC at hc
  unfold addR addC
  rw [show one false = 0 from rfl] at *
  cases c with
  | true =>
    rw [decide_eq_true_iff] at hc
    rw [show one true = 1 from rfl, decide_eq_decide]
    omega
  | false =>
    rw [decide_eq_false_iff_not] at hc
    rw [show one false = 0 from rfl, decide_eq_decide]
    omega
theorem long_sub {a b : Int} (ha : 0 ≤ a ∧ a < 18446744073709551616) (hb : 0 ≤ b ∧ b < 18446744073709551616) (c : Bool) (hc : subC (a % 4294967296) (b % 4294967296) false = c) :
    subR (a / 4294967296 % 4294967296) (b / 4294967296 % 4294967296) c * 4294967296 + subR (a % 4294967296) (b % 4294967296) false = (a - b) % 18446744073709551616 ∧
    subC (a / 4294967296 % 4294967296) (b / 4294967296 % 4294967296) c = decide (a < b) := by
  unfold subC at hc
  unfold subR subC
  rw [show one false = 0 from rfl] at *
  cases c with
  | true =>
    rw [decide_eq_true_iff] at hc
    rw [show one true = 1 from rfl, decide_eq_decide]
    omega
  | false =>
    rw [decide_eq_false_iff_not] at hc
    rw [show one false = 0 from rfl, decide_eq_decide]
    omega
theorem long_walk (a b : Int) (W : World) (wa : (Lit.int .u64 a).wf = true) (wb : (Lit.int .u64 b).wf = true) :
    Calls Try.prog 8 #[.int .u64 a, .int .u64 b] W fun e w' => e = .returned (.bool true) ∧ Below W.heap.size W w' := by
  have ha := wf64u wa
  have hb := wf64u wb
  have l1 := long_add ha hb _ rfl
  have l2 := long_sub ha hb _ rfl
  refine (long_raw a b _ _ _ _ _ _ _ _ _ _ _ _ _ _ _ _ W (add_is ?_ ?_ rfl rfl rfl) (add_is ?_ ?_ rfl rfl rfl) (sub_is ?_ ?_ rfl rfl rfl) (sub_is ?_ ?_ rfl rfl rfl) rfl rfl rfl rfl ?_ ?_ ?_ ?_).mono
    fun e w' ⟨h1, h2⟩ => ⟨h1, h2.below⟩
  any_goals omega
  · rw [u64_join (addR_range _ _ _) (addR_range _ _ _), u64_wrap, l1.1]; simp
  · rw [u64_wrap, l1.2]; simp
  · rw [u64_join (subR_range _ _ _) (subR_range _ _ _), u64_wrap, l2.1]; simp
  · rw [l2.2]; simp

end Go.Proofs.Ythgnniiiekkodaa.Hand
