/-
  WordAll's plain part: what the reference's sums, differences, products and shifts come to is what the program's come to.
-/
import Derived.Test.YthgnniiiekkodaaSub
import Derived.Test.YthgnniiiekkodaaProdWalk
namespace Go.Proofs.Ythgnniiiekkodaa.Hand
open Go.RowKit Go.Proofs.Ythgnniiiekkodaa.PWordAll Go.Proofs.YthgnniiiekkodaaW.PrintWords Go.Proofs.YthgnniiiekkodaaW.PrintLast Go.Proofs.YthgnniiiekkodaaW.PrintMore
open Go.Proofs.Ythgnniiiekkodaa.WordM

theorem ref_one (c : Bool) : rivetref01_one.f c = some (one c) := by unfold rivetref01_one.f one; cases c <;> rfl
theorem ref_signed {a : Int} (ha : 0 ≤ a ∧ a < 4294967296) : rivetref01_signed.f a = some (wrap32 a) := by
  unfold rivetref01_signed.f
  rw [w64 (a := a) (by omega) (by omega)]
  by_cases h : a ≥ 2147483648
  · rw [if_pos h, w64 (by omega) (by omega)]
    congr 1
    unfold wrap32
    omega
  · rw [if_neg h]
    congr 1
    unfold wrap32
    omega
theorem ref_out (n : Int) : rivetref01_out.f n = some (outS n) := by
  unfold rivetref01_out.f outS
  by_cases h : n < -2147483648
  · rw [if_pos h, decide_eq_true (Or.inl h)]
  · rw [if_neg h]
    congr 1
    apply decide_eq_decide.2
    omega

theorem ref_add {a b : Int} (c : Bool) (ha : 0 ≤ a ∧ a < 4294967296) (hb : 0 ≤ b ∧ b < 4294967296) :
    rivetref01_Add.f a b c = some (addR a b c, addC a b c, addV a b c) := by
  have h1 := one_range c
  have r := w32r a
  have s := w32r b
  unfold rivetref01_Add.f
  rw [ref_one, ref_signed ha, ref_signed hb]
  simp only [Option.bind_some]
  rw [ref_out]
  simp only [Option.bind_some]
  unfold addR addC addV
  generalize one c = t at *
  rw [w64 (a := a) (by omega) (by omega), w64 (a := b) (by omega) (by omega), w64 (a := a + b) (by omega) (by omega), w64 (a := a + b + t) (by omega) (by omega), w64 (a := wrap32 a + wrap32 b) (by omega) (by omega), w64 (a := wrap32 a + wrap32 b + t) (by omega) (by omega),
    Int.tmod_eq_emod_of_nonneg (by omega)]
  congr 2
  omega
theorem ref_sub {a b : Int} (c : Bool) (ha : 0 ≤ a ∧ a < 4294967296) (hb : 0 ≤ b ∧ b < 4294967296) :
    rivetref01_Sub.f a b c = some (subR a b c, subC a b c, subV a b c) := by
  have h1 := one_range c
  have r := w32r a
  have s := w32r b
  unfold rivetref01_Sub.f
  rw [ref_one, ref_signed ha, ref_signed hb]
  simp only [Option.bind_some]
  rw [ref_out]
  simp only [Option.bind_some]
  unfold subR subC subV
  generalize one c = t at *
  rw [w64 (a := a) (by omega) (by omega), w64 (a := b) (by omega) (by omega), w64 (a := a - b) (by omega) (by omega), w64 (a := a - b - t) (by omega) (by omega), w64 (a := a - b - t + 8589934592) (by omega) (by omega), w64 (a := wrap32 a - wrap32 b) (by omega) (by omega), w64 (a := wrap32 a - wrap32 b - t) (by omega) (by omega),
    Int.tmod_eq_emod_of_nonneg (by omega)]
  congr 2
  omega

/-! Products, by halves. -/
theorem half_prod {x u : Int} (hx : 0 ≤ x ∧ x ≤ 65535) (hu : 0 ≤ u ∧ u ≤ 65535) : 0 ≤ x * u ∧ x * u ≤ 4294836225 := by
  refine ⟨Int.mul_nonneg hx.1 hu.1, ?_⟩
  have : x * u ≤ 65535 * 65535 := Int.mul_le_mul (by omega) (by omega) hu.1 (by omega)
  omega
theorem halves {a b x y u v : Int} (ha : a = 65536 * y + x) (hb : b = 65536 * v + u) : a * b = 4294967296 * (y * v) + 65536 * (x * v + y * u) + x * u := by
  subst ha hb
  have e1 : 65536 * y * (65536 * v) = 4294967296 * (y * v) := by
    rw [Int.mul_assoc, Int.mul_left_comm y, ← Int.mul_assoc]; rfl
  have e2 : 65536 * y * u = 65536 * (y * u) := Int.mul_assoc ..
  have e3 : x * (65536 * v) = 65536 * (x * v) := Int.mul_left_comm ..
  rw [Int.add_mul, Int.mul_add, Int.mul_add, e1, e2, e3, Int.mul_add]
  generalize y * v = p; generalize y * u = q; generalize x * v = r; generalize x * u = s
  omega
/-- The halves' sums, by names. -/
structure Halves (a b P Q R T : Int) : Prop where
  p0 : 0 ≤ P ∧ P ≤ 4294836225
  q0 : 0 ≤ Q ∧ Q ≤ 4294836225
  r0 : 0 ≤ R ∧ R ≤ 4294836225
  t0 : 0 ≤ T ∧ T ≤ 4294836225
  ab : a * b = 4294967296 * T + 65536 * (Q + R) + P
theorem halves_of {a b : Int} (ha : 0 ≤ a ∧ a < 4294967296) (hb : 0 ≤ b ∧ b < 4294967296) :
    Halves a b (a % 65536 * (b % 65536)) (a % 65536 * (b / 65536)) (a / 65536 * (b % 65536)) (a / 65536 * (b / 65536)) := by
  have x0 : 0 ≤ a % 65536 ∧ a % 65536 ≤ 65535 := by omega
  have y0 : 0 ≤ a / 65536 ∧ a / 65536 ≤ 65535 := by omega
  have u0 : 0 ≤ b % 65536 ∧ b % 65536 ≤ 65535 := by omega
  have v0 : 0 ≤ b / 65536 ∧ b / 65536 ≤ 65535 := by omega
  exact ⟨half_prod x0 u0, half_prod x0 v0, half_prod y0 u0, half_prod y0 v0, halves (by omega) (by omega)⟩

theorem ref_mul_u {a b : Int} (ha : 0 ≤ a ∧ a < 4294967296) (hb : 0 ≤ b ∧ b < 4294967296) : rivetref01_Mul.f a b true = some (a * b % 4294967296, a * b / 4294967296) := by
  have H := halves_of ha hb
  simp only [rivetref01_Mul.f, if_true]
  rw [w64 (a := a) (by omega) (by omega), w64 (a := b) (by omega) (by omega)]
  simp only [Int.tmod_eq_emod_of_nonneg ha.1, Int.tmod_eq_emod_of_nonneg hb.1, Int.tdiv_eq_ediv_of_nonneg ha.1, Int.tdiv_eq_ediv_of_nonneg hb.1]
  rw [w64 (a := a / 65536) (by omega) (by omega), w64 (a := b / 65536) (by omega) (by omega)]
  generalize a % 65536 * (b % 65536) = P at *
  generalize a % 65536 * (b / 65536) = Q at *
  generalize a / 65536 * (b % 65536) = R at *
  generalize a / 65536 * (b / 65536) = T at *
  obtain ⟨p0, q0, r0, t0, ab⟩ := H
  rw [w64 (a := P) (by omega) (by omega), w64 (a := Q) (by omega) (by omega), w64 (a := R) (by omega) (by omega), w64 (a := T) (by omega) (by omega), w64 (a := Q + R) (by omega) (by omega)]
  simp only [Int.tmod_eq_emod_of_nonneg p0.1, Int.tdiv_eq_ediv_of_nonneg p0.1]
  rw [w64 (a := P / 65536) (by omega) (by omega), w64 (a := Q + R + P / 65536) (by omega) (by omega)]
  have m0 : 0 ≤ Q + R + P / 65536 := by omega
  simp only [Int.tmod_eq_emod_of_nonneg m0, Int.tdiv_eq_ediv_of_nonneg m0]
  rw [w64 (a := (Q + R + P / 65536) % 65536 * 65536) (by omega) (by omega), w64 (a := (Q + R + P / 65536) / 65536) (by omega) (by omega), w64 (a := T + (Q + R + P / 65536) / 65536) (by omega) (by omega), w64 (a := T + (Q + R + P / 65536) / 65536 + 17179869184) (by omega) (by omega), w64 (by omega) (by omega),
    Int.tmod_eq_emod_of_nonneg (by omega), ab]
  congr 2 <;> omega

/-- The product with signs, out of the one without. -/
theorem signed_prod {a b : Int} (ha : 0 ≤ a ∧ a < 4294967296) (hb : 0 ≤ b ∧ b < 4294967296) (sa sb : Int) (hsa : wrap32 a = a - 4294967296 * sa) (hsb : wrap32 b = b - 4294967296 * sb) :
    wrap32 a * wrap32 b = a * b - 4294967296 * (sa * b) - 4294967296 * (sb * a) + 18446744073709551616 * (sa * sb) := by
  have _ := ha; have _ := hb
  rw [hsa, hsb]
  have e1 : 4294967296 * sa * b = 4294967296 * (sa * b) := Int.mul_assoc ..
  have e2 : a * (4294967296 * sb) = 4294967296 * (sb * a) := by rw [Int.mul_left_comm, Int.mul_comm a sb]
  have e3 : 4294967296 * sa * (4294967296 * sb) = 18446744073709551616 * (sa * sb) := by
    rw [Int.mul_assoc, Int.mul_left_comm sa, ← Int.mul_assoc]; rfl
  rw [Int.sub_mul, Int.mul_sub, Int.mul_sub, e1, e2, e3]
  generalize a * b = p; generalize sa * b = q; generalize sb * a = r; generalize sa * sb = s
  omega

theorem neg_wrap {a : Int} (ha : 0 ≤ a ∧ a < 4294967296) : (wrap32 a < 0 ∧ wrap32 a = a - 4294967296 * 1) ∨ (¬ wrap32 a < 0 ∧ wrap32 a = a - 4294967296 * 0) := by
  unfold wrap32; omega

theorem ref_mul_s {a b : Int} (ha : 0 ≤ a ∧ a < 4294967296) (hb : 0 ≤ b ∧ b < 4294967296) :
    rivetref01_Mul.f a b false = some ((wrap32 a * wrap32 b) % 4294967296, (wrap32 a * wrap32 b) % 18446744073709551616 / 4294967296) := by
  have H := halves_of ha hb
  have hp := prod_s a b
  simp only [rivetref01_Mul.f, Bool.false_eq_true, if_false]
  rw [ref_signed ha, ref_signed hb]
  simp only [Option.bind_some]
  rw [w64 (a := a) (by omega) (by omega), w64 (a := b) (by omega) (by omega)]
  simp only [Int.tmod_eq_emod_of_nonneg ha.1, Int.tmod_eq_emod_of_nonneg hb.1, Int.tdiv_eq_ediv_of_nonneg ha.1, Int.tdiv_eq_ediv_of_nonneg hb.1]
  rw [w64 (a := a / 65536) (by omega) (by omega), w64 (a := b / 65536) (by omega) (by omega)]
  rcases neg_wrap ha with ⟨n1, s1⟩ | ⟨n1, s1⟩ <;> rcases neg_wrap hb with ⟨n2, s2⟩ | ⟨n2, s2⟩
  all_goals
    have E := signed_prod ha hb _ _ s1 s2
    simp only [n1, n2, if_true, if_false]
    rw [E]
    clear E s1 s2 n1 n2 hp
    generalize a % 65536 * (b % 65536) = P at *
    generalize a % 65536 * (b / 65536) = Q at *
    generalize a / 65536 * (b % 65536) = R at *
    generalize a / 65536 * (b / 65536) = T at *
    obtain ⟨p0, q0, r0, t0, ab⟩ := H
    rw [w64 (a := P) (by omega) (by omega), w64 (a := Q) (by omega) (by omega), w64 (a := R) (by omega) (by omega), w64 (a := T) (by omega) (by omega), w64 (a := Q + R) (by omega) (by omega)]
    simp only [Int.tmod_eq_emod_of_nonneg p0.1, Int.tdiv_eq_ediv_of_nonneg p0.1]
    rw [w64 (a := P / 65536) (by omega) (by omega), w64 (a := Q + R + P / 65536) (by omega) (by omega)]
    have m0 : 0 ≤ Q + R + P / 65536 := by omega
    simp only [Int.tmod_eq_emod_of_nonneg m0, Int.tdiv_eq_ediv_of_nonneg m0]
    rw [w64 (a := (Q + R + P / 65536) % 65536 * 65536) (by omega) (by omega), w64 (a := (Q + R + P / 65536) / 65536) (by omega) (by omega), w64 (a := T + (Q + R + P / 65536) / 65536) (by omega) (by omega), ab]
    generalize a * b = ab' at *
    generalize hlo : P % 65536 + (Q + R + P / 65536) % 65536 * 65536 = lo
    generalize hhi : T + (Q + R + P / 65536) / 65536 = hi
    have hab : 4294967296 * T + 65536 * (Q + R) + P = 4294967296 * hi + lo := by omega
    have hlo2 : 0 ≤ lo ∧ lo < 4294967296 := by omega
    have hhi2 : 0 ≤ hi ∧ hi ≤ 4294967295 := by omega
    rw [hab]
    clear ab hab hlo hhi p0 q0 r0 t0 m0
    simp only [w64 (a := lo) (by omega) (by omega), Int.one_mul, Int.zero_mul, Int.mul_one, Int.mul_zero]
    first
      | rw [w64 (a := hi - b) (by omega) (by omega), w64 (a := hi - b - a) (by omega) (by omega), w64 (a := hi - b - a + 17179869184) (by omega) (by omega), Int.tmod_eq_emod_of_nonneg (by omega)]
      | rw [w64 (a := hi - b) (by omega) (by omega), w64 (a := hi - b + 17179869184) (by omega) (by omega), Int.tmod_eq_emod_of_nonneg (by omega)]
      | rw [w64 (a := hi - a) (by omega) (by omega), w64 (a := hi - a + 17179869184) (by omega) (by omega), Int.tmod_eq_emod_of_nonneg (by omega)]
      | rw [w64 (a := hi + 17179869184) (by omega) (by omega), Int.tmod_eq_emod_of_nonneg (by omega)]
    congr 2 <;> omega

/-! Shifts, bit by bit. -/
theorem tm32' (n : Nat) : wrap64 (Int.tmod (n : Int) 32) = ((n % 32 : Nat) : Int) := by
  rw [Int.tmod_eq_emod_of_nonneg (by omega), w64 (by omega) (by omega)]
  omega
/-- What one round makes of a word. -/
def stepS (kind x : Int) : Int :=
  if kind = 1 then x * 2 % 4294967296 else if kind = 2 then x / 2 + x / 2147483648 * 2147483648 else if kind = 3 then x / 2 + x % 2 * 2147483648 else x
theorem stepS_range (kind : Int) {x : Int} (h : 0 ≤ x ∧ x < 4294967296) : 0 ≤ stepS kind x ∧ stepS kind x < 4294967296 := by
  unfold stepS
  split
  · omega
  · split
    · omega
    · split <;> omega
theorem ref_round (kind x : Int) (n k i : Nat) (h : 0 ≤ x ∧ x < 4294967296) (hi : i < n % 32) :
    rivetref01_Shift.l0 (k + 1) kind x n i = rivetref01_Shift.l0 k kind (stepS kind x) n ((i + 1 : Nat) : Int) := by
  have e : wrap64 ((i : Int) + 1) = ((i + 1 : Nat) : Int) := by rw [w64 (by omega) (by omega)]; omega
  simp only [rivetref01_Shift.l0]
  rw [tm32', if_pos (by omega), e]
  unfold stepS
  by_cases k1 : kind = 1
  · simp only [k1, if_true]
    rw [w64 (a := x) (by omega) (by omega), w64 (a := x * 2) (by omega) (by omega), Int.tmod_eq_emod_of_nonneg (by omega)]
    congr 1
    omega
  · by_cases k2 : kind = 2
    · subst k2
      simp only [show ¬ (2 : Int) = 1 by decide, if_true, if_false]
      rw [Int.tdiv_eq_ediv_of_nonneg h.1, Int.tdiv_eq_ediv_of_nonneg h.1]
      congr 1
      omega
    · by_cases k3 : kind = 3
      · subst k3
        simp only [show ¬ (3 : Int) = 1 by decide, show ¬ (3 : Int) = 2 by decide, if_true, if_false]
        rw [Int.tdiv_eq_ediv_of_nonneg h.1, Int.tmod_eq_emod_of_nonneg h.1]
        congr 1
        omega
      · rw [if_neg k1, if_neg k2, if_neg k3, if_neg k1, if_neg k2, if_neg k3]
theorem ref_end (kind x : Int) (n k i : Nat) (hi : i = n % 32) : rivetref01_Shift.l0 (k + 1) kind x n i = some x := by
  simp only [rivetref01_Shift.l0]
  rw [tm32', if_neg (by omega)]
theorem ref_rounds (kind : Int) (n : Nat) (g : Nat → Int) (hg : ∀ j, j < 32 → 0 ≤ g j ∧ g j < 4294967296) (hs : ∀ j, j < 31 → g (j + 1) = stepS kind (g j)) :
    ∀ d k i, i + d = n % 32 → d < k → rivetref01_Shift.l0 k kind (g i) n i = some (g (n % 32)) := by
  intro d
  induction d with
  | zero =>
    intro k i h1 h2
    obtain ⟨k, rfl⟩ : ∃ m, k = m + 1 := ⟨k - 1, by omega⟩
    rw [ref_end kind _ n k i (by omega)]
    congr 2
  | succ d ih =>
    intro k i h1 h2
    obtain ⟨k, rfl⟩ : ∃ m, k = m + 1 := ⟨k - 1, by omega⟩
    rw [ref_round kind _ n k i (hg i (by omega)) (by omega), ← hs i (by omega)]
    exact ih k (i + 1) (by omega) (by omega)
theorem ref_shift (kind : Int) (n : Nat) (g : Nat → Int) (hg : ∀ j, j < 32 → 0 ≤ g j ∧ g j < 4294967296) (hs : ∀ j, j < 31 → g (j + 1) = stepS kind (g j)) :
    rivetref01_Shift.f 33 kind (g 0) n = some (g (n % 32)) :=
  ref_rounds kind n g hg hs (n % 32) 33 0 (by omega) (by omega)

end Go.Proofs.Ythgnniiiekkodaa.Hand
