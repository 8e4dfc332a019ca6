/-
  Plain facts of parts of words: what Get and Set come to, bit by bit, and what their loops do. No program in sight.
-/
import Derived.RowKit
import Derived.Laws.BitsAllLaws
namespace Go.Proofs.YtjmiaemabhlnjaaGreatDoor.FieldM
open Go Go.RowKit

/-- The number whose bits below k are f's. -/
def natOf (f : Nat → Bool) : Nat → Nat
  | 0 => 0
  | k + 1 => natOf f k + (if f k then 2 ^ k else 0)

theorem natOf_lt (f : Nat → Bool) : ∀ k, natOf f k < 2 ^ k
  | 0 => by simp [natOf]
  | k + 1 => by
    have := natOf_lt f k
    simp only [natOf]
    split <;> (rw [Nat.pow_succ]; omega)

theorem testBit_natOf (f : Nat → Bool) : ∀ k p, (natOf f k).testBit p = (decide (p < k) && f p)
  | 0, p => by simp [natOf]
  | k + 1, p => by
    have ih := testBit_natOf f k p
    have hl := natOf_lt f k
    have hl' := natOf_lt f (k + 1)
    by_cases hp : p < k + 1
    · simp only [natOf]
      by_cases hk : f k = true
      · rw [if_pos hk, Nat.add_comm]
        by_cases e : p = k
        · subst e
          rw [Nat.testBit_two_pow_add_eq, ih]
          simp [hk]
        · rw [Nat.testBit_two_pow_add_gt (by omega), ih]
          have : p < k := by omega
          simp [this, hp]
      · rw [if_neg hk, Nat.add_zero, ih]
        by_cases e : p = k
        · subst e; simp at hk; simp [hk]
        · have : p < k := by omega
          simp [this, hp]
    · rw [Nat.testBit_lt_two_pow (Nat.lt_of_lt_of_le hl' (Nat.pow_le_pow_right (by omega) (by omega)))]
      simp [hp]

theorem eq_natOf {m k : Nat} {f : Nat → Bool} (h : m < 2 ^ k) (hb : ∀ p, p < k → m.testBit p = f p) : m = natOf f k := by
  apply Nat.eq_of_testBit_eq
  intro p
  rw [testBit_natOf]
  by_cases hp : p < k
  · simp [hp, hb p hp]
  · rw [Nat.testBit_lt_two_pow (Nat.lt_of_lt_of_le h (Nat.pow_le_pow_right (by omega) (by omega)))]
    simp [hp]

theorem high_bit {m p : Nat} (h : m < 4294967296) (hp : 32 ≤ p) : m.testBit p = false :=
  Nat.testBit_lt_two_pow (Nat.lt_of_lt_of_le h (by
    have : 2 ^ 32 ≤ 2 ^ p := Nat.pow_le_pow_right (by omega) hp
    simpa using this))

/-- Is the bit i in the field? -/
def inF (i at_ n : Int) : Bool := decide (1 ≤ n ∧ at_ ≤ i ∧ i - at_ < n)

/-- The bit of w at the place z; none below 0, none from 32 on. -/
def bitZ (w : Nat) (z : Int) : Bool := decide (0 ≤ z ∧ z < 32) && w.testBit z.toNat

def getN (w : Nat) (at_ n : Int) : Nat := natOf (fun p => inF (p + at_) at_ n && bitZ w (p + at_)) 32
def setN (w : Nat) (at_ n : Int) (x : Nat) : Nat := natOf (fun i => if inF i at_ n then bitZ x ((i : Int) - at_) else w.testBit i) 32

theorem getN_lt (w at_ n) : getN w at_ n < 4294967296 := natOf_lt _ 32
theorem setN_lt (w at_ n x) : setN w at_ n x < 4294967296 := natOf_lt _ 32

/-! ### One step of a loop, bit by bit -/
theorem bit_pow (x i m p : Nat) (hp : p < 32) : ((x / 2 ^ i % 2) * 2 ^ m % 4294967296).testBit p = (decide (p = m) && x.testBit i) := by
  rw [show (4294967296 : Nat) = 2 ^ 32 by decide, Nat.testBit_mod_two_pow, decide_eq_true hp, Bool.true_and]
  have hx : x.testBit i = decide (x / 2 ^ i % 2 = 1) := Nat.testBit_eq_decide_div_mod_eq
  have h2 : x / 2 ^ i % 2 = 0 ∨ x / 2 ^ i % 2 = 1 := by omega
  rcases h2 with h | h
  · rw [hx, h]; simp
  · rw [hx, h, Nat.one_mul, Nat.testBit_two_pow]
    by_cases e : m = p
    · simp [e]
    · have : ¬ p = m := fun h => e h.symm
      simp [e, this]

/-- What the loop of Get does at the bit i, of the place q. -/
def getStep (x i q o : Nat) : Nat := o ||| (x / 2 ^ i % 2) * 2 ^ min q 32 % 4294967296
theorem getStep_lt {x i q o : Nat} (h : o < 4294967296) : getStep x i q o < 4294967296 :=
  Nat.or_lt_two_pow (n := 32) h (Nat.mod_lt _ (by decide))
theorem getStep_bit {x i q o p : Nat} (hp : p < 32) : (getStep x i q o).testBit p = (o.testBit p || (decide (p = q) && x.testBit i)) := by
  unfold getStep
  rw [Nat.testBit_or, bit_pow x i _ p hp]
  congr 2
  by_cases h : q ≤ 32
  · rw [Nat.min_eq_left h]
  · rw [Nat.min_eq_right (by omega)]
    have h1 : ¬ p = 32 := by omega
    have h2 : ¬ p = q := by omega
    simp [h1, h2]

/-- What the loop of Set does at the bit i, of the place q. -/
def setStep (x i q o : Nat) : Nat := (o &&& (4294967295 - 2 ^ i)) ||| (x / 2 ^ min q 32 % 2) * 2 ^ i % 4294967296
theorem setStep_lt {x i q o : Nat} (h : o < 4294967296) : setStep x i q o < 4294967296 :=
  Nat.or_lt_two_pow (n := 32) (Nat.lt_of_le_of_lt Nat.and_le_left h) (Nat.mod_lt _ (by decide))
theorem clear_bit (o i p : Nat) (hi : i < 32) (hp : p < 32) : (o &&& (4294967295 - 2 ^ i)).testBit p = (o.testBit p && !decide (p = i)) := by
  have hi2 : 2 ^ i < 2 ^ 32 := Nat.pow_lt_pow_right (by omega) hi
  rw [Nat.testBit_and, show 4294967295 - 2 ^ i = 2 ^ 32 - (2 ^ i + 1) by omega, Nat.testBit_two_pow_sub_succ hi2, decide_eq_true hp, Nat.testBit_two_pow]
  congr 2
  by_cases e : i = p
  · simp [e]
  · have : ¬ p = i := fun h => e h.symm
    simp [e, this]
theorem setStep_bit {x i q o p : Nat} (hx : x < 4294967296) (hi : i < 32) (hp : p < 32) : (setStep x i q o).testBit p = if p = i then decide (q < 32) && x.testBit q else o.testBit p := by
  unfold setStep
  rw [Nat.testBit_or, clear_bit o i p hi hp, bit_pow x _ i p hp]
  by_cases e : p = i
  · simp only [e, decide_true, Bool.not_true, Bool.and_false, Bool.false_or, Bool.true_and, if_true]
    by_cases h : q < 32
    · rw [Nat.min_eq_left (by omega), decide_eq_true h, Bool.true_and]
    · rw [Nat.min_eq_right (by omega), high_bit hx (by omega)]
      simp [h]
  · simp [e]

/-! ### The loops -/
def loopF (step : Int → Int → Int) (a n : Int) : Nat → Int → Int → Int
  | 0, _, o => o
  | f + 1, i, o => if i - a < n then loopF step a n f (i + 1) (step i o) else o

theorem loopF_go {step : Int → Int → Int} {a n i o R : Int} (h : loopF step a n (32 - i).toNat i o = R) (hi : i < 32) (hn : i - a < n) :
    loopF step a n (32 - (i + 1)).toNat (i + 1) (step i o) = R := by
  obtain ⟨f, hf⟩ : ∃ f, (32 - i).toNat = f + 1 := ⟨(32 - i).toNat - 1, by omega⟩
  rw [hf] at h
  rw [show (32 - (i + 1)).toNat = f by omega]
  simp only [loopF] at h
  rw [if_pos hn] at h
  exact h
theorem loopF_end {step : Int → Int → Int} {a n i o R : Int} (h : loopF step a n (32 - i).toNat i o = R) (hi : ¬ (i < 32 ∧ i - a < n)) : o = R := by
  cases hf : (32 - i).toNat with
  | zero => rw [hf] at h; exact h
  | succ f =>
    rw [hf] at h
    simp only [loopF] at h
    rw [if_neg (by omega)] at h
    exact h

/-- What 'each' comes to. -/
def eachR (step : Int → Int → Int) (a n o : Int) : Int := if n < 1 ∨ 32 ≤ a ∨ a ≤ -n then o else loopF step a n (32 - max a 0).toNat (max a 0) o

/-- The two steps, as the walk spells them. -/
def orI (x i p o : Int) : Int := bits .or .u32 o (bits .and .u32 (x / 2 ^ i.toNat) 1 * 2 ^ min p.toNat 32 % 4294967296)
def putI (x i p o : Int) : Int := bits .or .u32 (bits .andNot .u32 o (2 ^ i.toNat % 4294967296)) (bits .and .u32 (x / 2 ^ min p.toNat 32) 1 * 2 ^ i.toNat % 4294967296)

theorem div_pow_cast (x k : Nat) : (x : Int) / 2 ^ k = ((x / 2 ^ k : Nat) : Int) := by simp
theorem and_one (y : Nat) (h : y < 4294967296) : bits .and .u32 (y : Int) 1 = ((y % 2 : Nat) : Int) := by
  have := u32_and_nat y 1 h (by omega)
  rw [nat_mask1] at this
  exact this
theorem orI_eq (x i q o : Nat) (hx : x < 4294967296) (ho : o < 4294967296) : orI x i q o = ((getStep x i q o : Nat) : Int) := by
  unfold orI getStep
  have h1 : x / 2 ^ i < 4294967296 := Nat.lt_of_le_of_lt (Nat.div_le_self _ _) hx
  rw [Int.toNat_natCast, Int.toNat_natCast, div_pow_cast, and_one _ h1]
  have e : ((x / 2 ^ i % 2 : Nat) : Int) * 2 ^ min q 32 % 4294967296 = (((x / 2 ^ i % 2) * 2 ^ min q 32 % 4294967296 : Nat) : Int) := by simp
  rw [e, u32_or_nat _ _ ho (Nat.mod_lt _ (by decide))]
theorem putI_eq (x i q o : Nat) (hx : x < 4294967296) (ho : o < 4294967296) (hi : i < 32) : putI x i q o = ((setStep x i q o : Nat) : Int) := by
  unfold putI setStep
  have h1 : x / 2 ^ min q 32 < 4294967296 := Nat.lt_of_le_of_lt (Nat.div_le_self _ _) hx
  have h2 : (2 : Nat) ^ i < 4294967296 := Nat.pow_lt_pow_right (n := 32) (by decide) hi
  have e2 : (2 : Int) ^ i % 4294967296 = ((2 ^ i : Nat) : Int) := by
    have e3 : (2 : Int) ^ i = ((2 ^ i : Nat) : Int) := by simp
    rw [e3]
    generalize 2 ^ i = z at *
    omega
  rw [Int.toNat_natCast, Int.toNat_natCast, div_pow_cast, and_one _ h1, e2, u32_andNot_nat _ _ ho h2]
  have e : ((x / 2 ^ min q 32 % 2 : Nat) : Int) * 2 ^ i % 4294967296 = (((x / 2 ^ min q 32 % 2) * 2 ^ i % 4294967296 : Nat) : Int) := by simp
  rw [e, u32_or_nat _ _ (Nat.lt_of_le_of_lt Nat.and_le_left ho) (Nat.mod_lt _ (by decide))]

theorem get_loop (x : Nat) (a n : Int) (hx : x < 4294967296) (f : Nat) : ∀ (i o : Nat), o < 4294967296 → a ≤ i → i + f = 32 →
    ∃ r : Nat, loopF (fun i o => orI x i (i - a) o) a n f i o = r ∧ r < 4294967296 ∧
      ∀ p, p < 32 → r.testBit p = (o.testBit p || (decide ((i : Int) ≤ p + a ∧ (p : Int) < n) && bitZ x (p + a))) := by
  induction f with
  | zero =>
    intro i o ho ha hi
    refine ⟨o, rfl, ho, fun p hp => ?_⟩
    by_cases c : (i : Int) ≤ p + a ∧ (p : Int) < n
    · have : bitZ x (p + a) = false := by
        unfold bitZ
        rw [decide_eq_false (by omega)]; rfl
      rw [this]; simp
    · rw [decide_eq_false c]; simp
  | succ f ih =>
    intro i o ho ha hi
    simp only [loopF]
    by_cases c : (i : Int) - a < n
    · rw [if_pos c]
      obtain ⟨q, hq⟩ := Int.eq_ofNat_of_zero_le (show 0 ≤ (i : Int) - a by omega)
      rw [hq, orI_eq x i q o hx ho]
      obtain ⟨r, h1, h2, h3⟩ := ih (i + 1) (getStep x i q o) (getStep_lt ho) (by omega) (by omega)
      refine ⟨r, h1, h2, fun p hp => ?_⟩
      rw [h3 p hp, getStep_bit hp, Bool.or_assoc]
      congr 1
      by_cases e : p = q
      · have e1 : (p : Int) + a = i := by omega
        have e2 : ¬ (((i + 1 : Nat) : Int) ≤ p + a ∧ (p : Int) < n) := by omega
        have e3 : (i : Int) ≤ p + a ∧ (p : Int) < n := by omega
        rw [decide_eq_true e, decide_eq_false e2, decide_eq_true e3, e1]
        have : bitZ x (i : Int) = x.testBit i := by
          unfold bitZ
          rw [decide_eq_true (by omega), Int.toNat_natCast]; rfl
        rw [this]; simp
      · rw [decide_eq_false e, Bool.false_and, Bool.false_or]
        congr 1
        apply decide_eq_decide.2
        omega
    · rw [if_neg c]
      refine ⟨o, rfl, ho, fun p hp => ?_⟩
      have : ¬ ((i : Int) ≤ p + a ∧ (p : Int) < n) := by omega
      rw [decide_eq_false this]; simp

theorem get_math (x : Nat) (a n : Int) (hx : x < 4294967296) : eachR (fun i o => orI x i (i - a) o) a n 0 = ((getN x a n : Nat) : Int) := by
  unfold eachR
  by_cases c : n < 1 ∨ 32 ≤ a ∨ a ≤ -n
  · rw [if_pos c]
    have : getN x a n = 0 := by
      symm
      apply eq_natOf (by omega)
      intro p hp
      rw [Nat.zero_testBit]
      symm
      unfold inF bitZ
      by_cases h : 1 ≤ n ∧ a ≤ (p : Int) + a ∧ (p : Int) + a - a < n
      · rw [decide_eq_false (p := 0 ≤ (p : Int) + a ∧ (p : Int) + a < 32) (by omega)]; simp
      · rw [decide_eq_false h]; simp
    rw [this]; rfl
  · rw [if_neg c]
    obtain ⟨i, hi⟩ := Int.eq_ofNat_of_zero_le (show 0 ≤ max a 0 by omega)
    rw [hi]
    obtain ⟨r, h1, h2, h3⟩ := get_loop x a n hx (32 - (i : Int)).toNat i 0 (by omega) (by omega) (by omega)
    have e : getN x a n = r := by
      symm
      apply eq_natOf h2
      intro p hp
      rw [h3 p hp, Nat.zero_testBit, Bool.false_or]
      unfold inF bitZ
      by_cases h : 0 ≤ (p : Int) + a ∧ (p : Int) + a < 32
      · rw [decide_eq_true h, Bool.true_and]
        congr 1
        apply decide_eq_decide.2
        omega
      · rw [decide_eq_false h]; simp
    rw [e]
    exact h1

theorem set_loop (x : Nat) (a n : Int) (hx : x < 4294967296) (f : Nat) : ∀ (i o : Nat), o < 4294967296 → a ≤ i → i + f = 32 →
    ∃ r : Nat, loopF (fun i o => putI x i (i - a) o) a n f i o = r ∧ r < 4294967296 ∧
      ∀ p, p < 32 → r.testBit p = if i ≤ p ∧ (p : Int) - a < n then bitZ x (p - a) else o.testBit p := by
  induction f with
  | zero =>
    intro i o ho ha hi
    exact ⟨o, rfl, ho, fun p hp => by rw [if_neg (by omega)]⟩
  | succ f ih =>
    intro i o ho ha hi
    simp only [loopF]
    by_cases c : (i : Int) - a < n
    · rw [if_pos c]
      obtain ⟨q, hq⟩ := Int.eq_ofNat_of_zero_le (show 0 ≤ (i : Int) - a by omega)
      rw [hq, putI_eq x i q o hx ho (by omega)]
      obtain ⟨r, h1, h2, h3⟩ := ih (i + 1) (setStep x i q o) (setStep_lt ho) (by omega) (by omega)
      refine ⟨r, h1, h2, fun p hp => ?_⟩
      rw [h3 p hp, setStep_bit hx (by omega) hp]
      by_cases e : p = i
      · subst e
        rw [if_neg (by omega), if_pos rfl, if_pos (by omega), hq]
        unfold bitZ
        rw [Int.toNat_natCast]
        congr 1
        apply decide_eq_decide.2
        omega
      · rw [if_neg e]
        by_cases h : i ≤ p ∧ (p : Int) - a < n
        · rw [if_pos (by omega), if_pos h]
        · rw [if_neg (by omega), if_neg h]
    · rw [if_neg c]
      exact ⟨o, rfl, ho, fun p hp => by rw [if_neg (by omega)]⟩

theorem set_math (w x : Nat) (a n : Int) (hw : w < 4294967296) (hx : x < 4294967296) : eachR (fun i o => putI x i (i - a) o) a n w = ((setN w a n x : Nat) : Int) := by
  unfold eachR
  by_cases c : n < 1 ∨ 32 ≤ a ∨ a ≤ -n
  · rw [if_pos c]
    have : setN w a n x = w := by
      symm
      apply eq_natOf hw
      intro p hp
      have : inF p a n = false := by unfold inF; exact decide_eq_false (by omega)
      simp [this]
    rw [this]
  · rw [if_neg c]
    obtain ⟨i, hi⟩ := Int.eq_ofNat_of_zero_le (show 0 ≤ max a 0 by omega)
    rw [hi]
    obtain ⟨r, h1, h2, h3⟩ := set_loop x a n hx (32 - (i : Int)).toNat i w hw (by omega) (by omega)
    have e : setN w a n x = r := by
      symm
      apply eq_natOf h2
      intro p hp
      rw [h3 p hp]
      unfold inF
      by_cases h : i ≤ p ∧ (p : Int) - a < n
      · rw [if_pos h, decide_eq_true (by omega)]; rfl
      · rw [if_neg h, decide_eq_false (by omega)]; rfl
    rw [e]
    exact h1

end Go.Proofs.YtjmiaemabhlnjaaGreatDoor.FieldM
