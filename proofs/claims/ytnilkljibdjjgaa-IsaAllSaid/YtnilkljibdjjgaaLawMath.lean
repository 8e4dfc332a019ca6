/-
  Plain laws of parts of words, bit by bit. No program in sight.
-/
import Derived.Test.YtnilkljibdjjgaaMath
namespace Go.Proofs.Ytnilkljibdjjgaa.FieldM
open Go Go.RowKit

theorem getN_bit (w : Nat) (a n : Int) (p : Nat) : (getN w a n).testBit p = (decide (p < 32) && (inF (p + a) a n && bitZ w (p + a))) := testBit_natOf _ 32 p
theorem setN_bit (w : Nat) (a n : Int) (x p : Nat) : (setN w a n x).testBit p = (decide (p < 32) && (if inF p a n then bitZ x ((p : Int) - a) else w.testBit p)) := testBit_natOf _ 32 p
theorem inF_nat (p a k : Nat) : inF p a k = decide (a ≤ p ∧ p < a + k) := by
  unfold inF; apply decide_eq_decide.2; omega
theorem inF_plus (p a k : Nat) : inF ((p : Int) + a) a k = decide (p < k) := by
  unfold inF; apply decide_eq_decide.2; omega
theorem bitZ_plus (w p a : Nat) (h : p + a < 32) : bitZ w ((p : Int) + a) = w.testBit (p + a) := by
  unfold bitZ
  rw [decide_eq_true (by omega), Bool.true_and, show ((p : Int) + a).toNat = p + a by omega]
theorem bitZ_minus (w p a : Nat) (h : a ≤ p) (hp : p < 32) : bitZ w ((p : Int) - a) = w.testBit (p - a) := by
  unfold bitZ
  rw [decide_eq_true (by omega), Bool.true_and, show ((p : Int) - a).toNat = p - a by omega]
/-- A field that is there: bit by bit. -/
theorem getN_bit' (w a k p : Nat) (h : a + k ≤ 32) : (getN w a k).testBit p = (decide (p < k) && w.testBit (p + a)) := by
  rw [getN_bit, inF_plus]
  by_cases hp : p < k
  · rw [decide_eq_true hp, decide_eq_true (show p < 32 by omega), bitZ_plus _ _ _ (by omega)]; rfl
  · rw [decide_eq_false hp]; simp
theorem setN_bit' (w a k x p : Nat) (h : a + k ≤ 32) (hw : w < 4294967296) : (setN w a k x).testBit p = if a ≤ p ∧ p < a + k then x.testBit (p - a) else w.testBit p := by
  rw [setN_bit, inF_nat]
  by_cases hp : p < 32
  · rw [decide_eq_true hp, Bool.true_and]
    by_cases hi : a ≤ p ∧ p < a + k
    · rw [decide_eq_true hi, if_pos rfl, if_pos hi, bitZ_minus _ _ _ hi.1 hp]
    · rw [decide_eq_false hi, if_neg hi]; rfl
  · rw [decide_eq_false hp, Bool.false_and, if_neg (by omega), high_bit hw (by omega)]

theorem getN_eq (w a k : Nat) (h : a + k ≤ 32) : getN w a k = w / 2 ^ a % 2 ^ k := by
  apply Nat.eq_of_testBit_eq
  intro p
  rw [getN_bit' w a k p h, Nat.testBit_mod_two_pow, Nat.testBit_div_two_pow]

/-! ### FieldBack -/
theorem mask_bit (k a p : Nat) : ((2 ^ k - 1) * 2 ^ a).testBit p = decide (a ≤ p ∧ p < a + k) := by
  rw [Nat.testBit_mul_two_pow, Nat.testBit_two_pow_sub_one]
  by_cases h : a ≤ p
  · simp [h]; omega
  · simp [h]
theorem mask_lt {k a : Nat} (h : k + a ≤ 32) : (2 ^ k - 1) * 2 ^ a < 4294967296 := by
  have h1 : (2 : Nat) ^ k * 2 ^ a ≤ 2 ^ 32 := by rw [← Nat.pow_add]; exact Nat.pow_le_pow_right (by decide) h
  have h2 := Nat.two_pow_pos k
  have h3 := Nat.two_pow_pos a
  rw [Nat.sub_mul, Nat.one_mul]
  generalize 2 ^ k * 2 ^ a = z at *
  generalize 2 ^ a = y at *
  omega
theorem mask_int {k : Nat} (h : k ≤ 32) : ((2 : Int) ^ k % 4294967296 - 1) % 4294967296 = ((2 ^ k - 1 : Nat) : Int) := by
  have h1 : 2 ^ k ≤ 4294967296 := Nat.pow_le_pow_right (n := 2) (j := 32) (by decide) h
  have h2 := Nat.two_pow_pos k
  have e : (2 : Int) ^ k = ((2 ^ k : Nat) : Int) := by simp
  rw [e]
  generalize 2 ^ k = z at *
  omega
theorem mask_shift {k a : Nat} (h : k + a ≤ 32) : ((2 ^ k - 1 : Nat) : Int) * 2 ^ a % 4294967296 = (((2 ^ k - 1) * 2 ^ a : Nat) : Int) := by
  have h1 := mask_lt h
  have e : ((2 ^ k - 1 : Nat) : Int) * 2 ^ a = (((2 ^ k - 1) * 2 ^ a : Nat) : Int) := by rw [Int.natCast_mul]; simp
  rw [e]
  generalize (2 ^ k - 1) * 2 ^ a = z at *
  omega
theorem not_bit (o m p : Nat) (hm : m < 4294967296) (hp : p < 32) : (o &&& (4294967295 - m)).testBit p = (o.testBit p && !m.testBit p) := by
  rw [Nat.testBit_and, show 4294967295 - m = 2 ^ 32 - (m + 1) by omega, Nat.testBit_two_pow_sub_succ (by simpa using hm), decide_eq_true hp, Bool.true_and]

theorem back1 (w x a k : Nat) (h : k + a ≤ 32) (hw : w < 4294967296) : getN (setN w a k x) a k = x &&& (2 ^ k - 1) := by
  apply Nat.eq_of_testBit_eq
  intro p
  rw [getN_bit' _ _ _ _ (by omega), setN_bit' _ _ _ _ _ (by omega) hw, Nat.testBit_and, Nat.testBit_two_pow_sub_one]
  by_cases hp : p < k
  · rw [decide_eq_true hp, if_pos (by omega), Nat.add_sub_cancel]; simp
  · rw [decide_eq_false hp]; simp
theorem back2 (w x a k : Nat) (h : k + a ≤ 32) (hw : w < 4294967296) : setN w a k x &&& (4294967295 - (2 ^ k - 1) * 2 ^ a) = w &&& (4294967295 - (2 ^ k - 1) * 2 ^ a) := by
  apply Nat.eq_of_testBit_eq
  intro p
  by_cases hp : p < 32
  · rw [not_bit _ _ _ (mask_lt h) hp, not_bit _ _ _ (mask_lt h) hp, mask_bit, setN_bit' _ _ _ _ _ (by omega) hw]
    by_cases hi : a ≤ p ∧ p < a + k
    · rw [decide_eq_true hi]; simp
    · rw [if_neg hi]
  · rw [Nat.testBit_and, Nat.testBit_and, high_bit (setN_lt _ _ _ _) (by omega), high_bit hw (by omega)]
theorem back3 (w a k : Nat) (h : k + a ≤ 32) (hw : w < 4294967296) : setN w a k (getN w a k) = w := by
  apply Nat.eq_of_testBit_eq
  intro p
  rw [setN_bit' _ _ _ _ _ (by omega) hw, getN_bit' _ _ _ _ (by omega)]
  by_cases hi : a ≤ p ∧ p < a + k
  · rw [if_pos hi, decide_eq_true (by omega), Nat.sub_add_cancel hi.1]; simp
  · rw [if_neg hi]
theorem back4 (w x a k : Nat) (h : k + a ≤ 32) (hw : w < 4294967296) : getN (setN w a k x) (0 : Nat) a = getN w (0 : Nat) a := by
  apply Nat.eq_of_testBit_eq
  intro p
  rw [getN_bit' _ _ _ _ (by omega), getN_bit' _ _ _ _ (by omega), setN_bit' _ _ _ _ _ (by omega) hw]
  by_cases hp : p < a
  · rw [if_neg (by omega)]
  · rw [decide_eq_false hp]; simp
end Go.Proofs.Ytnilkljibdjjgaa.FieldM
