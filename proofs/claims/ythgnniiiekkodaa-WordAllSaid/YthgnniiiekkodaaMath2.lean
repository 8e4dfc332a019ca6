/-
  Plain facts of shifts of words: turning, and what the walk calls shl and shr, in whole numbers.
-/
import Derived.RowKit
import Derived.Laws.BitsAllLaws
import Derived.Test.YthgnniiiekkodaaMath
import Derived.Test.YthgnniiiekkodaaWMore
namespace Go.Proofs.Ythgnniiiekkodaa.WordM
open Go Go.RowKit Go.Proofs.YthgnniiiekkodaaW.PrintWords

theorem two32 {k : Nat} (hk : k ≤ 32) : 2 ^ (32 - k) * 2 ^ k = 4294967296 := by
  rw [← Nat.pow_add, show 32 - k + k = 32 by omega]
theorem div_lt32 {a k : Nat} (ha : a < 4294967296) (hk : k ≤ 32) : a / 2 ^ k < 2 ^ (32 - k) := by
  rw [Nat.div_lt_iff_lt_mul (Nat.two_pow_pos k), two32 hk]; exact ha
theorem shl_mod {a k : Nat} (hk : k ≤ 32) : a * 2 ^ (32 - k) % 4294967296 = 2 ^ (32 - k) * (a % 2 ^ k) := by
  rw [← two32 hk, Nat.mul_comm a, Nat.mul_mod_mul_left]

/-- A word, turned to the right. -/
def rotN (a k : Nat) : Nat := 2 ^ (32 - k) * (a % 2 ^ k) + a / 2 ^ k

theorem rot_or {a k : Nat} (ha : a < 4294967296) (hk : k ≤ 32) : a * 2 ^ (32 - k) % 4294967296 ||| a / 2 ^ k = rotN a k := by
  rw [shl_mod hk, ← Nat.two_pow_add_eq_or_of_lt (div_lt32 ha hk)]
  rfl
theorem rot_zero (a : Nat) : rotN a 0 = a := by simp [rotN, Nat.mod_one]
theorem rot_all {a : Nat} (ha : a < 4294967296) : rotN a 32 = a := by
  unfold rotN
  rw [show (2 : Nat) ^ 32 = 4294967296 by decide, Nat.mod_eq_of_lt ha, Nat.div_eq_of_lt ha]; simp
theorem rot_lt {a k : Nat} (ha : a < 4294967296) (hk : k ≤ 32) : rotN a k < 4294967296 := by
  unfold rotN
  have h := div_lt32 ha hk
  have m : a % 2 ^ k + 1 ≤ 2 ^ k := Nat.mod_lt _ (Nat.two_pow_pos k)
  have := Nat.mul_le_mul_left (2 ^ (32 - k)) m
  rw [two32 hk, Nat.mul_add] at this
  omega

theorem rot_rot {a x y : Nat} (_ha : a < 4294967296) (h : x + y ≤ 32) : rotN (rotN a x) y = rotN a (x + y) := by
  have hA : 0 < 2 ^ x := Nat.two_pow_pos x
  have hB : 0 < 2 ^ y := Nat.two_pow_pos y
  have e1 : 2 ^ (32 - x) = 2 ^ y * 2 ^ (32 - (x + y)) := by rw [← Nat.pow_add]; congr 1; omega
  have e2 : 2 ^ (32 - y) = 2 ^ x * 2 ^ (32 - (x + y)) := by rw [← Nat.pow_add]; congr 1; omega
  have e3 : (2 : Nat) ^ (x + y) = 2 ^ x * 2 ^ y := Nat.pow_add ..
  have d1 : rotN a x % 2 ^ y = a / 2 ^ x % 2 ^ y := by
    unfold rotN
    rw [e1, Nat.mul_assoc, Nat.mul_add_mod]
  have d2 : rotN a x / 2 ^ y = 2 ^ (32 - (x + y)) * (a % 2 ^ x) + a / 2 ^ x / 2 ^ y := by
    unfold rotN
    rw [e1, Nat.mul_assoc, Nat.mul_add_div hB]
  have d3 : a % (2 ^ x * 2 ^ y) = a % 2 ^ x + 2 ^ x * (a / 2 ^ x % 2 ^ y) := Nat.mod_mul
  show 2 ^ (32 - y) * (rotN a x % 2 ^ y) + rotN a x / 2 ^ y = 2 ^ (32 - (x + y)) * (a % 2 ^ (x + y)) + a / 2 ^ (x + y)
  rw [d1, d2, e2, e3, d3, Nat.div_div_eq_div_mul, Nat.mul_add, Nat.mul_comm (2 ^ x) (2 ^ (32 - (x + y))), Nat.mul_assoc]
  omega

/-! In the words of the walk. -/
theorem u32_wrap (x : Int) : IntKind.u32.wrap x = x % 4294967296 := by simp [IntKind.wrap, IntKind.bits, IntKind.signed]
theorem u64_wrap (x : Int) : IntKind.u64.wrap x = x % 18446744073709551616 := by simp [IntKind.wrap, IntKind.bits, IntKind.signed]
theorem shl_is (a k : Nat) (hk : k ≤ 32) : shl .u32 (a : Int) (k : Int) = ((a * 2 ^ k % 4294967296 : Nat) : Int) := by
  unfold shl
  rw [u32_wrap, show min (k : Int).toNat IntKind.u32.bits = k from by simp [IntKind.bits]; omega]
  simp
theorem shr_is (a k : Nat) (hk : k ≤ 32) : shr .u32 (a : Int) (k : Int) = ((a / 2 ^ k : Nat) : Int) := by
  unfold shr
  rw [show min (k : Int).toNat IntKind.u32.bits = k from by simp [IntKind.bits]; omega]
  simp
theorem sar_is (a : Int) (k : Nat) (hk : k ≤ 32) : shr .i32 a (k : Int) = a / 2 ^ k := by
  unfold shr
  rw [show min (k : Int).toNat IntKind.i32.bits = k from by simp [IntKind.bits]; omega]
theorem mask5 (x : Int) (h0 : 0 ≤ x) (h1 : x < 18446744073709551616) : bits .and .u64 x 31 = x % 32 := by
  rw [u64_and x 31 h0 h1 (by omega) (by omega)]
  have := Nat.and_two_pow_sub_one_eq_mod x.toNat 5
  rw [show (31 : Int).toNat = 2 ^ 5 - 1 from by decide, this]
  omega
end Go.Proofs.Ythgnniiiekkodaa.WordM
