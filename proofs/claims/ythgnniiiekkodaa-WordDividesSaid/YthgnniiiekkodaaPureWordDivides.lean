/-
  What is divided is as the document says; the rest is from 0 to below the divisor; the quotient, so many times, and the rest are what was divided. For any two words: no condition.
-/
import Derived.Test.YthgnniiiekkodaaPWordDividesx1
import Derived.Test.YthgnniiiekkodaaMath
namespace Go.Proofs.Ythgnniiiekkodaa.Pure
open Go.RowKit Go.Proofs.Ythgnniiiekkodaa.PWordDivides Go.Proofs.YthgnniiiekkodaaW.PrintWords Go.Proofs.YthgnniiiekkodaaW.PrintLast
open Go.Proofs.Ythgnniiiekkodaa.WordM

theorem shown_true : rivetlaw01_shown.f = some true := by decide +kernel

theorem div_no (a b : Int) (h : wrap32 b ≤ 0) : word_Div.f a b = some (0, 0, false) := by
  have r := w32r b
  unfold word_Div.f
  rw [w64 (by omega) (by omega), if_pos h]

theorem div_yes (a b : Int) (h : 0 < wrap32 b) : word_Div.f a b = some ((wrap32 a / wrap32 b) % 4294967296, wrap32 a % wrap32 b, true) := by
  have r := w32r b
  have s := w32r a
  have q := ediv_range h s.1 s.2
  have m := emod_range (n := wrap32 a) h
  unfold word_Div.f
  rw [w64 (a := wrap32 b) (by omega) (by omega), w64 (a := wrap32 a) (by omega) (by omega), if_neg (by omega), if_neg (by omega)]
  by_cases c : (wrap32 a).tmod (wrap32 b) < 0
  · obtain ⟨e1, e2⟩ := div_down h c
    rw [if_pos c, e2, w64 (a := wrap32 a % wrap32 b) (by omega) (by omega)]
    have : wrap64 ((wrap32 a).tdiv (wrap32 b)) = wrap32 a / wrap32 b + 1 := by rw [← e1, w64 (by omega) (by omega)]; omega
    rw [this, w64 (by omega) (by omega), Int.add_sub_cancel, Int.emod_eq_of_lt m.1 (by omega)]
  · obtain ⟨e1, e2⟩ := div_same h c
    rw [if_neg c, e2, e1, w64 (by omega) (by omega), Int.emod_eq_of_lt m.1 (by omega)]

theorem signed_is (a : Int) (h0 : 0 ≤ a) (h1 : a < 4294967296) : rivetref01_signed.f a = some (wrap32 a) := by
  unfold rivetref01_signed.f
  rw [w64 (a := a) (by omega) (by omega)]
  split
  · rw [w64 (by omega) (by omega)]; unfold wrap32; congr 1; omega
  · unfold wrap32; congr 1; omega

theorem tm {x : Int} (h : 0 ≤ x) : Int.tmod x 4294967296 = x % 4294967296 := Int.tmod_eq_emod_of_nonneg h

theorem ref_eq (a b : Int) (ha : 0 ≤ a ∧ a < 4294967296) (hb : 0 ≤ b ∧ b < 4294967296) : rivetref01_Div.f a b = word_Div.f a b := by
  have r := w32r b
  have s := w32r a
  unfold rivetref01_Div.f
  rw [signed_is a ha.1 ha.2, signed_is b hb.1 hb.2]
  simp only [Option.bind_some]
  by_cases h : wrap32 b ≤ 0
  · rw [if_pos h, div_no a b h]
  · have h' : 0 < wrap32 b := by omega
    have q := ediv_range h' s.1 s.2
    have m := emod_range (n := wrap32 a) h'
    rw [if_neg h, if_neg (by omega), div_yes a b h']
    by_cases c : (wrap32 a).tmod (wrap32 b) < 0
    · obtain ⟨e1, e2⟩ := div_down h' c
      rw [if_pos c, e2, w64 (a := wrap32 a % wrap32 b) (by omega) (by omega)]
      have : wrap64 ((wrap32 a).tdiv (wrap32 b)) = wrap32 a / wrap32 b + 1 := by rw [← e1, w64 (by omega) (by omega)]; omega
      rw [this, Int.add_sub_cancel, w64 (a := wrap32 a / wrap32 b) (by omega) (by omega), w64 (by omega) (by omega), tm (by omega), Int.emod_eq_of_lt m.1 (by omega)]
      congr 2
      omega
    · obtain ⟨e1, e2⟩ := div_same h' c
      rw [if_neg c, e2, e1, w64 (a := wrap32 a / wrap32 b) (by omega) (by omega), w64 (by omega) (by omega), tm (by omega), Int.emod_eq_of_lt m.1 (by omega)]
      congr 2
      omega

theorem WordDivides : rivetlaw01_WordDivides.Pure := by
  intro a b ha hb
  obtain ⟨ha0, ha1⟩ := wf32 ha
  obtain ⟨hb0, hb1⟩ := wf32 hb
  unfold rivetlaw01_WordDivides.f
  rw [shown_true, ref_eq a b ⟨ha0, ha1⟩ ⟨hb0, hb1⟩]
  simp only [Option.bind_some]
  by_cases z : b = 0
  · have n : wrap32 b ≤ 0 := by unfold wrap32; omega
    rw [div_no a b n]
    simp [z]
  · by_cases g : b ≥ 2147483648
    · have n : wrap32 b ≤ 0 := by unfold wrap32; omega
      rw [div_no a b n]
      simp [z, g]
    · have n : wrap32 b = b := by unfold wrap32; omega
      have h' : 0 < wrap32 b := by omega
      have m := emod_range (n := wrap32 a) h'
      have e := Int.mul_ediv_add_emod (wrap32 a) (wrap32 b)
      rw [div_yes a b h']
      simp only [Option.bind_some, if_true]
      rw [n] at m e ⊢
      rw [if_neg z, if_neg g, if_pos m.2]
      have : (wrap32 a / b % 4294967296 * b % 4294967296 + wrap32 a % b) % 4294967296 = a := by
        have c1 : wrap32 a / b % 4294967296 * b % 4294967296 = (b * (wrap32 a / b)) % 4294967296 := by
          rw [Int.mul_comm b, Int.mul_emod, Int.emod_emod, ← Int.mul_emod]
        rw [c1]
        generalize b * (wrap32 a / b) = x at *
        generalize wrap32 a % b = y at *
        unfold wrap32 at e
        omega
      rw [this]
      simp

end Go.Proofs.Ythgnniiiekkodaa.Pure
