/-
  Plain facts of words as whole numbers: what they wrap to, and division downwards. No program in sight.
-/
import Derived.RowKit
namespace Go.Proofs.Ythgnniiiekkodaa.WordM
open Go Go.RowKit

theorem wf32 {a : Int} (h : (Lit.int .u32 a).wf = true) : 0 ≤ a ∧ a < 4294967296 := by
  simp [Lit.wf, IntKind.min, IntKind.max, IntKind.signed, IntKind.bits] at h
  omega
theorem wf64u {a : Int} (h : (Lit.int .u64 a).wf = true) : 0 ≤ a ∧ a < 18446744073709551616 := by
  simp [Lit.wf, IntKind.min, IntKind.max, IntKind.signed, IntKind.bits] at h
  omega
theorem w64 {a : Int} (h0 : -9223372036854775808 ≤ a) (h1 : a < 9223372036854775808) : wrap64 a = a := by
  unfold wrap64; omega
theorem w32r (a : Int) : -2147483648 ≤ wrap32 a ∧ wrap32 a < 2147483648 := by
  unfold wrap32; omega

/-- Truncated division, put right, is the rounding down. -/
theorem div_down {n d : Int} (hd : 0 < d) : n.tmod d < 0 → (n.tdiv d - 1 = n / d ∧ n.tmod d + d = n % d) := by
  intro h
  have e := Int.mul_tdiv_add_tmod n d
  have l := Int.lt_tmod_of_pos n hd
  have := (Int.ediv_emod_unique (a := n) (b := d) (r := n.tmod d + d) (q := n.tdiv d - 1) hd).2
    ⟨by rw [Int.mul_sub]; omega, by omega, by omega⟩
  exact ⟨this.1.symm, this.2.symm⟩
theorem div_same {n d : Int} (hd : 0 < d) : ¬ n.tmod d < 0 → (n.tdiv d = n / d ∧ n.tmod d = n % d) := by
  intro h
  have e := Int.mul_tdiv_add_tmod n d
  have l := Int.tmod_lt_of_pos n hd
  have := (Int.ediv_emod_unique (a := n) (b := d) (r := n.tmod d) (q := n.tdiv d) hd).2
    ⟨by omega, by omega, by omega⟩
  exact ⟨this.1.symm, this.2.symm⟩

theorem ediv_range {n d : Int} (hd : 0 < d) (h0 : -2147483648 ≤ n) (h1 : n < 2147483648) : -2147483648 ≤ n / d ∧ n / d < 2147483648 := by
  have e := Int.mul_ediv_add_emod n d
  have l := Int.emod_nonneg n (by omega : d ≠ 0)
  have u := Int.emod_lt_of_pos n hd
  generalize n / d = q at *
  generalize n % d = r at *
  constructor
  · by_cases hq : q + 1 ≤ 0
    · have : d * (q + 1) ≤ 1 * (q + 1) := Int.mul_le_mul_of_nonpos_right (by omega) hq
      rw [Int.mul_add] at this
      omega
    · omega
  · by_cases hq : 0 ≤ q
    · have : 1 * q ≤ d * q := Int.mul_le_mul_of_nonneg_right (by omega) hq
      omega
    · omega
theorem emod_range {n d : Int} (hd : 0 < d) : 0 ≤ n % d ∧ n % d < d :=
  ⟨Int.emod_nonneg n (by omega), Int.emod_lt_of_pos n hd⟩

end Go.Proofs.Ythgnniiiekkodaa.WordM
