/-
  Plain facts of sums and differences of words: what the bit formulas of carry and overflow tell. No program in sight.
-/
import Derived.RowKit
import Derived.Laws.BitsAllLaws
import Derived.Test.YthgnniiiekkodaaMath
namespace Go.Proofs.Ythgnniiiekkodaa.WordM
open Go Go.RowKit

def one (c : Bool) : Int := if c then 1 else 0
theorem one_range (c : Bool) : 0 ≤ one c ∧ one c ≤ 1 := by unfold one; cases c <;> simp

theorem top_bit {z : Nat} (h : z < 4294967296) : (((z : Int) / 2147483648) == 1) = z.testBit 31 := by
  rw [Nat.testBit_eq_decide_div_mod_eq, show (2 : Nat) ^ 31 = 2147483648 by decide]
  by_cases c : z / 2147483648 = 1
  · rw [show (z : Int) / 2147483648 = 1 by omega, c]; rfl
  · have c0 : z / 2147483648 = 0 := by omega
    rw [show (z : Int) / 2147483648 = 0 by omega, c0]; rfl
theorem top_high {z : Nat} (h : z < 4294967296) : z.testBit 31 = decide (2147483648 ≤ z) := by
  rw [Nat.testBit_eq_decide_div_mod_eq, show (2 : Nat) ^ 31 = 2147483648 by decide]
  apply decide_eq_decide.2
  omega
theorem ones_top : (4294967295 : Nat).testBit 31 = true := by decide

theorem xor_lt32 {a b : Nat} (ha : a < 4294967296) (hb : b < 4294967296) : a ^^^ b < 4294967296 := Nat.xor_lt_two_pow (n := 32) ha hb
theorem and_lt32 {a b : Nat} (ha : a < 4294967296) : a &&& b < 4294967296 := Nat.lt_of_le_of_lt Nat.and_le_left ha
theorem or_lt32 {a b : Nat} (ha : a < 4294967296) (hb : b < 4294967296) : a ||| b < 4294967296 := Nat.or_lt_two_pow (n := 32) ha hb

/-- The sum's sign is unlike both. -/
theorem over_add {a b s : Nat} (ha : a < 4294967296) (hb : b < 4294967296) (hs : s < 4294967296) :
    (bits .and .u32 (bits .xor .u32 (a : Int) s) (bits .xor .u32 (b : Int) s) / 2147483648 == 1) = ((decide (2147483648 ≤ a) ^^ decide (2147483648 ≤ s)) && (decide (2147483648 ≤ b) ^^ decide (2147483648 ≤ s))) := by
  rw [u32_xor_nat _ _ ha hs, u32_xor_nat _ _ hb hs, u32_and_nat _ _ (xor_lt32 ha hs) (xor_lt32 hb hs), top_bit (and_lt32 (xor_lt32 ha hs)), Nat.testBit_and, Nat.testBit_xor, Nat.testBit_xor, top_high ha, top_high hb, top_high hs]
theorem over_sub {a b s : Nat} (ha : a < 4294967296) (hb : b < 4294967296) (hs : s < 4294967296) :
    (bits .and .u32 (bits .xor .u32 (a : Int) b) (bits .xor .u32 (a : Int) s) / 2147483648 == 1) = ((decide (2147483648 ≤ a) ^^ decide (2147483648 ≤ b)) && (decide (2147483648 ≤ a) ^^ decide (2147483648 ≤ s))) := by
  rw [u32_xor_nat _ _ ha hb, u32_xor_nat _ _ ha hs, u32_and_nat _ _ (xor_lt32 ha hb) (xor_lt32 ha hs), top_bit (and_lt32 (xor_lt32 ha hb)), Nat.testBit_and, Nat.testBit_xor, Nat.testBit_xor, top_high ha, top_high hb, top_high hs]

def borrowI (x y d : Int) : Int := bits .or .u32 (bits .and .u32 (bits .xor .u32 IntKind.u32.max x) y) (bits .and .u32 (bits .xor .u32 IntKind.u32.max (bits .xor .u32 x y)) d) / 2147483648
theorem max32 : IntKind.u32.max = ((4294967295 : Nat) : Int) := by decide
theorem borrow_bit {x y d : Nat} (hx : x < 4294967296) (hy : y < 4294967296) (hd : d < 4294967296) :
    (borrowI x y d == 1) = ((!decide (2147483648 ≤ x) && decide (2147483648 ≤ y)) || (!(decide (2147483648 ≤ x) ^^ decide (2147483648 ≤ y)) && decide (2147483648 ≤ d))) := by
  unfold borrowI
  have hm : 4294967295 < 4294967296 := by decide
  rw [max32, u32_xor_nat _ _ hm hx, u32_xor_nat _ _ hx hy, u32_xor_nat _ _ hm (xor_lt32 hx hy), u32_and_nat _ _ (xor_lt32 hm hx) hy, u32_and_nat _ _ (xor_lt32 hm (xor_lt32 hx hy)) hd,
    u32_or_nat _ _ (and_lt32 (xor_lt32 hm hx)) (and_lt32 (xor_lt32 hm (xor_lt32 hx hy))), top_bit (or_lt32 (and_lt32 (xor_lt32 hm hx)) (and_lt32 (xor_lt32 hm (xor_lt32 hx hy)))),
    Nat.testBit_or, Nat.testBit_and, Nat.testBit_and, Nat.testBit_xor, Nat.testBit_xor, Nat.testBit_xor, ones_top, top_high hx, top_high hy, top_high hd]
  simp

/-! What Add and Sub tell. -/
def addR (a b : Int) (c : Bool) : Int := (a + b + one c) % 4294967296
def addC (a b : Int) (c : Bool) : Bool := decide (4294967296 ≤ a + b + one c)
def outS (n : Int) : Bool := decide (n < -2147483648 ∨ 2147483648 ≤ n)
def addV (a b : Int) (c : Bool) : Bool := outS (wrap32 a + wrap32 b + one c)
def subR (a b : Int) (c : Bool) : Int := (a - b - one c) % 4294967296
def subC (a b : Int) (c : Bool) : Bool := decide (a - b - one c < 0)
def subV (a b : Int) (c : Bool) : Bool := outS (wrap32 a - wrap32 b - one c)

theorem addR_range (a b : Int) (c : Bool) : 0 ≤ addR a b c ∧ addR a b c < 4294967296 := by unfold addR; omega
theorem subR_range (a b : Int) (c : Bool) : 0 ≤ subR a b c ∧ subR a b c < 4294967296 := by unfold subR; omega

theorem xor_true (p q : Bool) : ((p ^^ q) = true) ↔ ¬ (p = q) := by cases p <;> cases q <;> decide
theorem xor_false (p q : Bool) : ((p ^^ q) = false) ↔ p = q := by cases p <;> cases q <;> decide
theorem bool_ext {p q : Bool} (h : p = true ↔ q = true) : p = q := Bool.eq_iff_iff.2 h

theorem add_over {a b : Int} (ha : 0 ≤ a ∧ a < 4294967296) (hb : 0 ≤ b ∧ b < 4294967296) (c : Bool) :
    (bits .and .u32 (bits .xor .u32 a (addR a b c)) (bits .xor .u32 b (addR a b c)) / 2147483648 == 1) = addV a b c := by
  have hs := addR_range a b c
  have h1 := one_range c
  obtain ⟨x, hx⟩ := Int.eq_ofNat_of_zero_le ha.1
  obtain ⟨y, hy⟩ := Int.eq_ofNat_of_zero_le hb.1
  obtain ⟨s, hsn⟩ := Int.eq_ofNat_of_zero_le hs.1
  have e : (a + b + one c) % 4294967296 = s := hsn
  rw [hsn, hx, hy, over_add (by omega) (by omega) (by omega)]
  subst hx hy
  unfold addV outS
  apply bool_ext
  rw [decide_eq_true_iff, Bool.and_eq_true, xor_true, xor_true, decide_eq_decide, decide_eq_decide]
  unfold wrap32
  generalize one c = t at *
  omega
theorem sub_over {a b : Int} (ha : 0 ≤ a ∧ a < 4294967296) (hb : 0 ≤ b ∧ b < 4294967296) (c : Bool) :
    (bits .and .u32 (bits .xor .u32 a b) (bits .xor .u32 a (subR a b c)) / 2147483648 == 1) = subV a b c := by
  have hs := subR_range a b c
  have h1 := one_range c
  obtain ⟨x, hx⟩ := Int.eq_ofNat_of_zero_le ha.1
  obtain ⟨y, hy⟩ := Int.eq_ofNat_of_zero_le hb.1
  obtain ⟨s, hsn⟩ := Int.eq_ofNat_of_zero_le hs.1
  have e : (a - b - one c) % 4294967296 = s := hsn
  rw [hsn, hx, hy, over_sub (by omega) (by omega) (by omega)]
  subst hx hy
  unfold subV outS
  apply bool_ext
  rw [decide_eq_true_iff, Bool.and_eq_true, xor_true, xor_true, decide_eq_decide, decide_eq_decide]
  unfold wrap32
  generalize one c = t at *
  omega
theorem sub_borrow {a b : Int} (ha : 0 ≤ a ∧ a < 4294967296) (hb : 0 ≤ b ∧ b < 4294967296) (c : Bool) : (borrowI a b (subR a b c) == 1) = subC a b c := by
  have hs := subR_range a b c
  have h1 := one_range c
  obtain ⟨x, hx⟩ := Int.eq_ofNat_of_zero_le ha.1
  obtain ⟨y, hy⟩ := Int.eq_ofNat_of_zero_le hb.1
  obtain ⟨s, hsn⟩ := Int.eq_ofNat_of_zero_le hs.1
  have e : (a - b - one c) % 4294967296 = s := hsn
  rw [hsn, hx, hy, borrow_bit (by omega) (by omega) (by omega)]
  subst hx hy
  unfold subC
  apply bool_ext
  rw [decide_eq_true_iff, Bool.or_eq_true, Bool.and_eq_true, Bool.and_eq_true, Bool.not_eq_true', Bool.not_eq_true', decide_eq_false_iff_not, decide_eq_true_iff, decide_eq_true_iff, xor_false, decide_eq_decide]
  generalize one c = t at *
  omega
end Go.Proofs.Ythgnniiiekkodaa.WordM
