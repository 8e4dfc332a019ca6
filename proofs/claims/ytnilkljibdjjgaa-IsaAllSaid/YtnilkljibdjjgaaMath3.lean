/-
  Plain laws of instructions and words: what a word's fields are, and that a word and what it looks like fit. No program in sight.
-/
import Derived.Test.YtnilkljibdjjgaaIns
import Derived.Test.YtnilkljibdjjgaaLawMath
namespace Go.Proofs.Ytnilkljibdjjgaa.Isa
open Go.RowKit Go.Proofs.Ytnilkljibdjjgaa.FieldM Go.Proofs.Ytnilkljibdjjgaa.Field

/-- A field laid where there are noughts from its end down. -/
theorem setN_add (w a k x : Nat) (h : a + k ≤ 32) (hw : w < 4294967296) (h0 : w % 2 ^ (a + k) = 0) : setN w a k x = w + x % 2 ^ k * 2 ^ a := by
  have hx : x % 2 ^ k < 2 ^ k := Nat.mod_lt _ (Nat.two_pow_pos k)
  have e : w + x % 2 ^ k * 2 ^ a = 2 ^ (a + k) * (w / 2 ^ (a + k)) + 2 ^ a * (x % 2 ^ k) := by
    have := Nat.div_add_mod w (2 ^ (a + k))
    rw [h0, Nat.add_zero] at this
    rw [this, Nat.mul_comm (x % 2 ^ k)]
  have hlt : 2 ^ a * (x % 2 ^ k) < 2 ^ (a + k) := by
    rw [Nat.pow_add]
    exact Nat.mul_lt_mul_of_pos_left hx (Nat.two_pow_pos a)
  rw [e]
  apply Nat.eq_of_testBit_eq
  intro p
  rw [setN_bit' w a k x p h hw, Nat.testBit_two_pow_mul_add _ hlt, Nat.testBit_two_pow_mul, Nat.testBit_mod_two_pow, Nat.testBit_div_two_pow]
  by_cases p1 : p < a + k
  · rw [if_pos p1]
    by_cases p2 : a ≤ p
    · rw [if_pos ⟨p2, p1⟩, decide_eq_true (show p ≥ a from p2), decide_eq_true (show p - a < k by omega)]
      simp
    · rw [if_neg (by omega), decide_eq_false (show ¬ p ≥ a by omega)]
      have hb : (w % 2 ^ (a + k)).testBit p = false := by rw [h0]; simp
      rw [Nat.testBit_mod_two_pow, decide_eq_true p1, Bool.true_and] at hb
      rw [hb]; rfl
  · rw [if_neg p1, if_neg (by omega), show p - (a + k) + (a + k) = p by omega]

/-- The same, in whole numbers, the powers written out. -/
theorem set_add {w a k d m dm : Nat} {x : Int} (z : Int) (hd : 2 ^ a = d) (hm : 2 ^ k = m) (hdm : d * m = dm) (h : a + k ≤ 32) (hw : w < 4294967296) (h0 : w % dm = 0) (hz : (w : Int) = z) :
    setN w (a : Int) (k : Int) (x % 4294967296).toNat < 4294967296 ∧ (setN w (a : Int) (k : Int) (x % 4294967296).toNat : Int) = z + x % m * d := by
  have e : dm = 2 ^ (a + k) := by rw [← hdm, ← hd, ← hm, Nat.pow_add]
  refine ⟨setN_lt _ _ _ _, ?_⟩
  rw [setN_add w a k _ h hw (by rw [← e]; exact h0), hd, hm, Int.natCast_add, hz]
  congr 1
  have h1 : ((x % 4294967296).toNat : Int) = x % 4294967296 := by omega
  have h2 : (m : Int) ∣ 4294967296 := by
    have : (2 : Nat) ^ k ∣ 2 ^ 32 := Nat.pow_dvd_pow 2 (by omega)
    rw [hm] at this
    exact Int.ofNat_dvd.2 this
  rw [Int.natCast_mul, Int.natCast_emod, h1, Int.emod_emod_of_dvd _ h2]

/-! The words of the seven kinds. -/
theorem fold5 (h a b c d : Int) (h0 : 0 ≤ h) (h1 : h ≤ 15) : (layN [(28, 4, h), (24, 4, a), (20, 4, b), (16, 4, c), (0, 4, d)] 0 : Int) = h * 268435456 + a % 16 * 16777216 + b % 16 * 1048576 + c % 16 * 65536 + d % 16 := by
  obtain ⟨l1, e1⟩ := set_add (w := 0) (a := 28) (k := 4) (d := 268435456) (m := 16) (dm := 4294967296) (x := h) 0 (by decide) (by decide) rfl (by decide) (by decide) rfl rfl
  obtain ⟨l2, e2⟩ := set_add (a := 24) (k := 4) (d := 16777216) (m := 16) (dm := 268435456) (x := a) _ (by decide) (by decide) rfl (by decide) l1 (by omega) e1
  obtain ⟨l3, e3⟩ := set_add (a := 20) (k := 4) (d := 1048576) (m := 16) (dm := 16777216) (x := b) _ (by decide) (by decide) rfl (by decide) l2 (by omega) e2
  obtain ⟨l4, e4⟩ := set_add (a := 16) (k := 4) (d := 65536) (m := 16) (dm := 1048576) (x := c) _ (by decide) (by decide) rfl (by decide) l3 (by omega) e3
  obtain ⟨l5, e5⟩ := set_add (a := 0) (k := 4) (d := 1) (m := 16) (dm := 16) (x := d) _ (by decide) (by decide) rfl (by decide) l4 (by omega) e4
  exact e5.trans (by omega)
theorem fold5i (h a b c d : Int) (h0 : 0 ≤ h) (h1 : h ≤ 15) : (layN [(28, 4, h), (24, 4, a), (20, 4, b), (16, 4, c), (0, 16, d)] 0 : Int) = h * 268435456 + a % 16 * 16777216 + b % 16 * 1048576 + c % 16 * 65536 + d % 65536 := by
  obtain ⟨l1, e1⟩ := set_add (w := 0) (a := 28) (k := 4) (d := 268435456) (m := 16) (dm := 4294967296) (x := h) 0 (by decide) (by decide) rfl (by decide) (by decide) rfl rfl
  obtain ⟨l2, e2⟩ := set_add (a := 24) (k := 4) (d := 16777216) (m := 16) (dm := 268435456) (x := a) _ (by decide) (by decide) rfl (by decide) l1 (by omega) e1
  obtain ⟨l3, e3⟩ := set_add (a := 20) (k := 4) (d := 1048576) (m := 16) (dm := 16777216) (x := b) _ (by decide) (by decide) rfl (by decide) l2 (by omega) e2
  obtain ⟨l4, e4⟩ := set_add (a := 16) (k := 4) (d := 65536) (m := 16) (dm := 1048576) (x := c) _ (by decide) (by decide) rfl (by decide) l3 (by omega) e3
  obtain ⟨l5, e5⟩ := set_add (a := 0) (k := 16) (d := 1) (m := 65536) (dm := 65536) (x := d) _ (by decide) (by decide) rfl (by decide) l4 (by omega) e4
  exact e5.trans (by omega)
theorem fold2 (h a : Int) (h0 : 0 ≤ h) (h1 : h ≤ 15) : (layN [(28, 4, h), (24, 4, a)] 0 : Int) = h * 268435456 + a % 16 * 16777216 := by
  obtain ⟨l1, e1⟩ := set_add (w := 0) (a := 28) (k := 4) (d := 268435456) (m := 16) (dm := 4294967296) (x := h) 0 (by decide) (by decide) rfl (by decide) (by decide) rfl rfl
  obtain ⟨l2, e2⟩ := set_add (a := 24) (k := 4) (d := 16777216) (m := 16) (dm := 268435456) (x := a) _ (by decide) (by decide) rfl (by decide) l1 (by omega) e1
  exact e2.trans (by omega)
theorem fold4 (h a b d : Int) (h0 : 0 ≤ h) (h1 : h ≤ 15) : (layN [(28, 4, h), (24, 4, a), (20, 4, b), (0, 20, d)] 0 : Int) = h * 268435456 + a % 16 * 16777216 + b % 16 * 1048576 + d % 1048576 := by
  obtain ⟨l1, e1⟩ := set_add (w := 0) (a := 28) (k := 4) (d := 268435456) (m := 16) (dm := 4294967296) (x := h) 0 (by decide) (by decide) rfl (by decide) (by decide) rfl rfl
  obtain ⟨l2, e2⟩ := set_add (a := 24) (k := 4) (d := 16777216) (m := 16) (dm := 268435456) (x := a) _ (by decide) (by decide) rfl (by decide) l1 (by omega) e1
  obtain ⟨l3, e3⟩ := set_add (a := 20) (k := 4) (d := 1048576) (m := 16) (dm := 16777216) (x := b) _ (by decide) (by decide) rfl (by decide) l2 (by omega) e2
  obtain ⟨l4, e4⟩ := set_add (a := 0) (k := 20) (d := 1) (m := 1048576) (dm := 1048576) (x := d) _ (by decide) (by decide) rfl (by decide) l3 (by omega) e3
  exact e4.trans (by omega)
theorem fold3 (h a d : Int) (h0 : 0 ≤ h) (h1 : h ≤ 15) : (layN [(28, 4, h), (24, 4, a), (0, 4, d)] 0 : Int) = h * 268435456 + a % 16 * 16777216 + d % 16 := by
  obtain ⟨l1, e1⟩ := set_add (w := 0) (a := 28) (k := 4) (d := 268435456) (m := 16) (dm := 4294967296) (x := h) 0 (by decide) (by decide) rfl (by decide) (by decide) rfl rfl
  obtain ⟨l2, e2⟩ := set_add (a := 24) (k := 4) (d := 16777216) (m := 16) (dm := 268435456) (x := a) _ (by decide) (by decide) rfl (by decide) l1 (by omega) e1
  obtain ⟨l3, e3⟩ := set_add (a := 0) (k := 4) (d := 1) (m := 16) (dm := 16) (x := d) _ (by decide) (by decide) rfl (by decide) l2 (by omega) e2
  exact e3.trans (by omega)
theorem fold3j (h a d : Int) (h0 : 0 ≤ h) (h1 : h ≤ 15) : (layN [(28, 4, h), (24, 4, a), (0, 24, d)] 0 : Int) = h * 268435456 + a % 16 * 16777216 + d % 16777216 := by
  obtain ⟨l1, e1⟩ := set_add (w := 0) (a := 28) (k := 4) (d := 268435456) (m := 16) (dm := 4294967296) (x := h) 0 (by decide) (by decide) rfl (by decide) (by decide) rfl rfl
  obtain ⟨l2, e2⟩ := set_add (a := 24) (k := 4) (d := 16777216) (m := 16) (dm := 268435456) (x := a) _ (by decide) (by decide) rfl (by decide) l1 (by omega) e1
  obtain ⟨l3, e3⟩ := set_add (a := 0) (k := 24) (d := 1) (m := 16777216) (dm := 16777216) (x := d) _ (by decide) (by decide) rfl (by decide) l2 (by omega) e2
  exact e3.trans (by omega)

theorem b2i_range (u : Bool) : 0 ≤ b2i u ∧ b2i u ≤ 1 := by unfold b2i; cases u <;> simp
theorem word1 (op a b c im : Int) (u : Bool) : (wordN ⟨1, op, a, b, c, im, u⟩ : Int) = b2i u * 2 * 268435456 + a % 16 * 16777216 + b % 16 * 1048576 + op % 16 * 65536 + c % 16 := by
  have h := b2i_range u
  simp only [wordN, wordL, if_true]
  exact fold5 _ _ _ _ _ (by omega) (by omega)
theorem word2 (op a b c im : Int) (u : Bool) : (wordN ⟨2, op, a, b, c, im, u⟩ : Int) = (4 + b2i u * 2 + b2i (decide (im < 0))) * 268435456 + a % 16 * 16777216 + b % 16 * 1048576 + op % 16 * 65536 + im % 65536 := by
  have h := b2i_range u
  have h' := b2i_range (decide (im < 0))
  simp only [wordN, wordL, show ¬ (2 : Int) = 1 by decide, if_true, if_false]
  exact fold5i _ _ _ _ _ (by omega) (by omega)
theorem word3 (op a b c im : Int) (u : Bool) : (wordN ⟨3, op, a, b, c, im, u⟩ : Int) = 2 * 268435456 + a % 16 * 16777216 := by
  simp only [wordN, wordL, show ¬ (3 : Int) = 1 by decide, show ¬ (3 : Int) = 2 by decide, if_true, if_false]
  exact fold2 _ _ (by omega) (by omega)
theorem word4 (op a b c im : Int) (u : Bool) : (wordN ⟨4, op, a, b, c, im, u⟩ : Int) = 3 * 268435456 + a % 16 * 16777216 := by
  simp only [wordN, wordL, show ¬ (4 : Int) = 1 by decide, show ¬ (4 : Int) = 2 by decide, show ¬ (4 : Int) = 3 by decide, if_true, if_false]
  exact fold2 _ _ (by omega) (by omega)
theorem word5 (op a b c im : Int) (u : Bool) : (wordN ⟨5, op, a, b, c, im, u⟩ : Int) = (8 + b2i (decide (2 ≤ op)) * 2 + b2i (op % 2 == 1)) * 268435456 + a % 16 * 16777216 + b % 16 * 1048576 + im % 1048576 := by
  have h := b2i_range (decide (2 ≤ op))
  have h' := b2i_range (op % 2 == 1)
  simp only [wordN, wordL, show ¬ (5 : Int) = 1 by decide, show ¬ (5 : Int) = 2 by decide, show ¬ (5 : Int) = 3 by decide, show ¬ (5 : Int) = 4 by decide, if_true, if_false]
  exact fold4 _ _ _ _ (by omega) (by omega)
theorem word6 (op a b c im : Int) (u : Bool) : (wordN ⟨6, op, a, b, c, im, u⟩ : Int) = (12 + b2i u) * 268435456 + op % 16 * 16777216 + c % 16 := by
  have h := b2i_range u
  simp only [wordN, wordL, show ¬ (6 : Int) = 1 by decide, show ¬ (6 : Int) = 2 by decide, show ¬ (6 : Int) = 3 by decide, show ¬ (6 : Int) = 4 by decide, show ¬ (6 : Int) = 5 by decide, if_true, if_false]
  exact fold3 _ _ _ (by omega) (by omega)
theorem word7 (op a b c im : Int) (u : Bool) : (wordN ⟨7, op, a, b, c, im, u⟩ : Int) = (14 + b2i u) * 268435456 + op % 16 * 16777216 + im % 16777216 := by
  have h := b2i_range u
  simp only [wordN, wordL, show ¬ (7 : Int) = 1 by decide, show ¬ (7 : Int) = 2 by decide, show ¬ (7 : Int) = 3 by decide, show ¬ (7 : Int) = 4 by decide, show ¬ (7 : Int) = 5 by decide, show ¬ (7 : Int) = 6 by decide, if_false]
  exact fold3j _ _ _ (by omega) (by omega)

theorem signed20 (w : Nat) : signedN w 19 = if w % 1048576 < 524288 then ((w % 1048576 : Nat) : Int) else ((w % 1048576 : Nat) : Int) - 1048576 := by
  simp only [signedN, show 2 ^ (19 + 1) = 1048576 from by decide, show 2 ^ 19 = 524288 from by decide]; rfl
theorem signed24 (w : Nat) : signedN w 23 = if w % 16777216 < 8388608 then ((w % 16777216 : Nat) : Int) else ((w % 16777216 : Nat) : Int) - 16777216 := by
  simp only [signedN, show 2 ^ (23 + 1) = 16777216 from by decide, show 2 ^ 23 = 8388608 from by decide]; rfl
end Go.Proofs.Ytnilkljibdjjgaa.Isa
