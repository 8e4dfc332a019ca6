/-
  To divide by one changes nothing; a number less than the divisor is what is left; of a number and its divisor more the quotient is one more. For any two words: no condition.
-/
import Derived.Test.YthgnniiiekkodaaPWordQuotientsx1
import Derived.Test.YthgnniiiekkodaaMath
import Derived.Laws.BitsAllLaws
namespace Go.Proofs.Ythgnniiiekkodaa.Pure
open Go.RowKit Go.Proofs.Ythgnniiiekkodaa.PWordQuotients Go.Proofs.YthgnniiiekkodaaW.PrintWords Go.Proofs.YthgnniiiekkodaaW.PrintLast
open Go.Proofs.Ythgnniiiekkodaa.WordM

theorem shown_true : rivetlaw01_shown.f = some true := by decide +kernel

theorem div_yes (a b : Int) (h : 0 < wrap32 b) : word_Div.f a b = some ((wrap32 a / wrap32 b) % 4294967296, wrap32 a % wrap32 b, true) := by
  have r := w32r b
  have s := w32r a
  have q := ediv_range h s.1 s.2
  have m := emod_range (n := wrap32 a) h
  unfold word_Div.f
  rw [w64 (a := wrap32 b) (by omega) (by omega), w64 (a := wrap32 a) (by omega) (by omega), if_neg (by omega), if_neg (by omega)]
  by_cases c : (wrap32 a).tmod (wrap32 b) < 0
  · obtain ⟨e1, e2⟩ := div_down h c
    rw [if_pos c, e2, w64 (a := wrap32 a % wrap32 b) (by omega) (by omega)]
    have : wrap64 ((wrap32 a).tdiv (wrap32 b)) = wrap32 a / wrap32 b + 1 := by rw [← e1, w64 (by omega) (by omega)]; omega
    rw [this, w64 (by omega) (by omega), Int.add_sub_cancel, Int.emod_eq_of_lt m.1 (by omega)]
  · obtain ⟨e1, e2⟩ := div_same h c
    rw [if_neg c, e2, e1, w64 (by omega) (by omega), Int.emod_eq_of_lt m.1 (by omega)]

theorem mask30 (b : Int) (h0 : 0 ≤ b) (h1 : b < 4294967296) : bits .and .u32 b 1073741823 = b % 1073741824 := by
  rw [u32_and b 1073741823 h0 h1 (by omega) (by omega)]
  have := Nat.and_two_pow_sub_one_eq_mod b.toNat 30
  rw [show (1073741823 : Int).toNat = 2 ^ 30 - 1 from by decide, this]
  omega

theorem wsmall {x : Int} (h0 : 0 ≤ x) (h1 : x < 2147483648) : wrap32 x = x := by unfold wrap32; omega

/-- Over a divisor d from 1 to 2^30. -/
theorem quot (a d : Int) (ha : 0 ≤ a ∧ a < 4294967296) (hd : 0 < d ∧ d ≤ 1073741824) :
    word_Div.f a 1 = some (a, 0, true) ∧ word_Div.f (Int.tmod a d) d = some (0, Int.tmod a d, true) ∧
    word_Div.f (a / 4) d = some ((a / 4) / d, (a / 4) % d, true) ∧ word_Div.f ((a / 4 + d) % 4294967296) d = some ((a / 4) / d + 1, (a / 4) % d, true) ∧
    Int.tdiv (a / 4) d % 4294967296 = (a / 4) / d ∧ ((a / 4) / d + 1) % 4294967296 = (a / 4) / d + 1 := by
  have hw : wrap32 d = d := wsmall (by omega) (by omega)
  have m := emod_range (n := a) hd.1
  have m4 := emod_range (n := a / 4) hd.1
  have q0 : 0 ≤ a / 4 / d := Int.ediv_nonneg (by omega) (by omega)
  have q1 : a / 4 / d ≤ a / 4 := Int.ediv_le_self _ (by omega)
  have h1 : wrap32 1 = 1 := wsmall (by omega) (by omega)
  refine ⟨?_, ?_, ?_, ?_, ?_, ?_⟩
  · rw [div_yes a 1 (by rw [h1]; omega), h1, Int.ediv_one, Int.emod_one]
    have : wrap32 a % 4294967296 = a := by unfold wrap32; omega
    rw [this]
  · rw [Int.tmod_eq_emod_of_nonneg ha.1, div_yes _ d (by omega), hw, wsmall (by omega) (by omega), Int.ediv_eq_zero_of_lt m.1 m.2, Int.emod_emod]
    rfl
  · rw [div_yes _ d (by omega), hw, wsmall (x := a / 4) (by omega) (by omega), Int.emod_eq_of_lt q0 (by omega)]
  · rw [Int.emod_eq_of_lt (a := a / 4 + d) (by omega) (by omega), div_yes _ d (by omega), hw, wsmall (x := a / 4 + d) (by omega) (by omega)]
    rw [Int.add_emod_right, Int.add_ediv_of_dvd_right (Int.dvd_refl d), Int.ediv_self (by omega), Int.emod_eq_of_lt (by omega) (by omega)]
  · rw [Int.tdiv_eq_ediv_of_nonneg (by omega), Int.emod_eq_of_lt q0 (by omega)]
  · omega

theorem WordQuotients : rivetlaw01_WordQuotients.Pure := by
  intro a b ha hb
  obtain ⟨ha0, ha1⟩ := wf32 ha
  obtain ⟨hb0, hb1⟩ := wf32 hb
  unfold rivetlaw01_WordQuotients.f
  rw [shown_true, mask30 b hb0 hb1, Int.emod_eq_of_lt (a := b % 1073741824 + 1) (by omega) (by omega)]
  obtain ⟨e1, e2, e3, e4, e5, e6⟩ := quot a (b % 1073741824 + 1) ⟨ha0, ha1⟩ (by omega)
  rw [e1, e2, e3, e4, e5]
  simp only [Option.bind_some, if_true, e6]
  rw [if_neg (by omega)]
  simp

end Go.Proofs.Ythgnniiiekkodaa.Pure
