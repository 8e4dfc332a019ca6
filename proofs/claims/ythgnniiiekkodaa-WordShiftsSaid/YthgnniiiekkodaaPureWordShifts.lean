/-
  Shifts go bit by bit: by two numbers, one behind the other, is by their sum, as long as that is below 32; to turn by 32, in all, changes nothing; noughts shift nothing. For any word, any two numbers: no condition.
-/
import Derived.Test.YthgnniiiekkodaaPWordShiftsx1
import Derived.Test.YthgnniiiekkodaaMath
import Derived.Test.YthgnniiiekkodaaMath2
namespace Go.Proofs.Ythgnniiiekkodaa.Pure
open Go.RowKit Go.Proofs.Ythgnniiiekkodaa.PWordShifts Go.Proofs.YthgnniiiekkodaaW.PrintWords Go.Proofs.YthgnniiiekkodaaW.PrintLast
open Go.Proofs.Ythgnniiiekkodaa.WordM

theorem shown_true : rivetlaw01_shown.f = some true := by decide +kernel

theorem tm32 (n : Nat) : wrap64 (Int.tmod (n : Int) 32) = ((n % 32 : Nat) : Int) := by
  rw [Int.tmod_eq_emod_of_nonneg (by omega), w64 (by omega) (by omega)]
  omega

theorem shift_left (a n : Nat) : word_Shift.f 1 a n = some ((a * 2 ^ (n % 32) % 4294967296 : Nat) : Int) := by
  unfold word_Shift.f
  rw [if_pos rfl, tm32, if_pos (by omega), shl_is _ _ (by omega)]
theorem shift_sign (a : Int) (n : Nat) : word_Shift.f 2 a n = some (wrap32 a / 2 ^ (n % 32) % 4294967296) := by
  unfold word_Shift.f
  rw [if_neg (by decide), if_pos rfl, tm32, if_pos (by omega), sar_is _ _ (by omega)]
theorem turn (a k : Nat) (ha : a < 4294967296) (hk : k < 32) : bits_RotateLeft32.f a (wrap64 (-(k : Int))) = some ((rotN a k : Nat) : Int) := by
  have hm : bits .and .u64 (IntKind.u64.wrap (wrap64 (-(k : Int)))) 31 = (((32 - k) % 32 : Nat) : Int) := by
    rw [w64 (by omega) (by omega), u64_wrap, mask5 _ (by omega) (by omega)]
    omega
  have h2 : IntKind.u64.wrap (32 - (((32 - k) % 32 : Nat) : Int)) = ((32 - (32 - k) % 32 : Nat) : Int) := by
    rw [u64_wrap]; omega
  unfold bits_RotateLeft32.f
  rw [hm, if_pos (by omega), h2, if_pos (by omega), shl_is _ _ (by omega), shr_is _ _ (by omega)]
  by_cases z : k = 0
  · subst z
    rw [rot_zero]
    have e1 : a * 2 ^ ((32 - 0) % 32) % 4294967296 = a := by simp; omega
    have e2 : a / 2 ^ (32 - (32 - 0) % 32) = 0 := Nat.div_eq_of_lt ha
    rw [e1, e2, u32_or_nat _ _ (by omega) (by omega)]
    simp
  · have e0 : (32 - k) % 32 = 32 - k := by omega
    have e1 : 32 - (32 - k) = k := by omega
    have lt : a / 2 ^ k < 4294967296 := Nat.lt_of_le_of_lt (Nat.div_le_self _ _) ha
    rw [e0, e1, u32_or_nat _ _ (by omega) lt, rot_or ha (by omega)]
theorem shift_turn (a n : Nat) (ha : a < 4294967296) : word_Shift.f 3 a n = some ((rotN a (n % 32) : Nat) : Int) := by
  unfold word_Shift.f
  rw [if_neg (by decide), if_neg (by decide), if_pos rfl, tm32, turn _ _ ha (by omega)]
  rfl
theorem shift_none (a n : Int) : word_Shift.f 0 a n = some a ∧ word_Shift.f 4 a n = some a := by
  unfold word_Shift.f
  constructor <;> rw [if_neg (by decide), if_neg (by decide), if_neg (by decide)]

theorem left_left (a x y : Nat) : a * 2 ^ x % 4294967296 * 2 ^ y % 4294967296 = a * 2 ^ (x + y) % 4294967296 := by
  rw [Nat.mod_mul_mod, Nat.pow_add, Nat.mul_assoc]

theorem sdiv_range (s : Int) (k : Nat) (h0 : -2147483648 ≤ s) (h1 : s < 2147483648) : -2147483648 ≤ s / 2 ^ k ∧ s / 2 ^ k < 2147483648 :=
  ediv_range (Int.pow_pos (by omega)) h0 h1
theorem sdiv_back (s : Int) (k : Nat) (h0 : -2147483648 ≤ s) (h1 : s < 2147483648) : wrap32 (s / 2 ^ k % 4294967296) = s / 2 ^ k := by
  have := sdiv_range s k h0 h1
  generalize s / 2 ^ k = z at *
  unfold wrap32
  omega

/-- What a round asks of a kind. -/
def Asks (c a x y m t : Int) : Prop :=
  ∃ p q : Int, word_Shift.f c a x = some p ∧ word_Shift.f c p y = some q ∧ word_Shift.f c a (x + y) = some q ∧ word_Shift.f c a t = some a ∧ word_Shift.f c a m = some p

theorem asks1 (a x y m t : Nat) (ha : a < 4294967296) (hx : x = m % 32) (hxy : x + y < 32) (z : t % 32 = 0) : Asks 1 a x y m t := by
  have h1 := shift_left a x
  have h2 := shift_left (a * 2 ^ x % 4294967296) y
  have h3 := shift_left a (x + y)
  have h4 := shift_left a t
  have h5 := shift_left a m
  rw [show x % 32 = x by omega] at h1
  rw [show y % 32 = y by omega, left_left] at h2
  rw [show (x + y) % 32 = x + y by omega, Int.natCast_add] at h3
  rw [z, Nat.pow_zero, Nat.mul_one, Nat.mod_eq_of_lt ha] at h4
  rw [← hx] at h5
  exact ⟨_, _, h1, h2, h3, h4, h5⟩
theorem sdiv_twice (s : Int) (x y : Nat) : s / 2 ^ x / 2 ^ y = s / 2 ^ (x + y) := by
  rw [Int.ediv_ediv_of_nonneg (Int.pow_nonneg (by decide)), Int.pow_add]
theorem asks2 (a x y m t : Nat) (ha : a < 4294967296) (hx : x = m % 32) (hxy : x + y < 32) (z : t % 32 = 0) : Asks 2 a x y m t := by
  have r := w32r (a : Int)
  have h1 := shift_sign a x
  have h2 := shift_sign (wrap32 (a : Int) / 2 ^ x % 4294967296) y
  have h3 := shift_sign a (x + y)
  have h4 := shift_sign a t
  have h5 := shift_sign a m
  have e4 : wrap32 (a : Int) % 4294967296 = a := by unfold wrap32; omega
  have m1 : x % 32 = x := by omega
  have m2 : y % 32 = y := by omega
  have m3 : (x + y) % 32 = x + y := by omega
  rw [m1] at h1
  rw [m2, sdiv_back _ _ r.1 r.2, sdiv_twice] at h2
  rw [m3, Int.natCast_add] at h3
  rw [z, Int.pow_zero, Int.ediv_one, e4] at h4
  rw [← hx] at h5
  exact ⟨_, _, h1, h2, h3, h4, h5⟩
theorem asks3 (a x y m t : Nat) (ha : a < 4294967296) (hx : x = m % 32) (hxy : x + y < 32) (z : t % 32 = 0) : Asks 3 a x y m t := by
  have h1 := shift_turn a x ha
  have h2 := shift_turn (rotN a x) y (rot_lt ha (by omega))
  have h3 := shift_turn a (x + y) ha
  have h4 := shift_turn a t ha
  have h5 := shift_turn a m ha
  rw [show x % 32 = x by omega] at h1
  rw [show y % 32 = y by omega, rot_rot ha (by omega)] at h2
  rw [show (x + y) % 32 = x + y by omega, Int.natCast_add] at h3
  rw [z, rot_zero] at h4
  rw [← hx] at h5
  exact ⟨_, _, h1, h2, h3, h4, h5⟩

theorem back_turned (a x : Nat) (ha : a < 4294967296) (hx : x < 32) : word_Shift.f 3 (rotN a x : Nat) ((32 - x : Nat) : Int) = some (a : Int) := by
  rw [shift_turn _ _ (rot_lt ha (by omega))]
  by_cases z : x = 0
  · subst z
    rw [show (32 - 0) % 32 = 0 from rfl, rot_zero, rot_zero]
  · rw [show (32 - x) % 32 = 32 - x by omega, rot_rot ha (by omega), show x + (32 - x) = 32 by omega, rot_all ha]

theorem sign_same (a x : Nat) (ha : a < 4294967296) : wrap32 (a : Int) / 2 ^ x % 4294967296 / 2147483648 = (a : Int) / 2147483648 := by
  have r := w32r (a : Int)
  have hp : (0 : Int) < 2 ^ x := Int.pow_pos (by omega)
  have s := sdiv_range (wrap32 (a : Int)) x r.1 r.2
  by_cases h : a < 2147483648
  · have e : wrap32 (a : Int) = a := by unfold wrap32; omega
    have := Int.ediv_nonneg (a := wrap32 (a : Int)) (by omega) (Int.le_of_lt hp)
    generalize wrap32 (a : Int) / 2 ^ x = z at *
    omega
  · have e : wrap32 (a : Int) < 0 := by unfold wrap32; omega
    have := Int.ediv_neg_of_neg_of_pos e hp
    generalize wrap32 (a : Int) / 2 ^ x = z at *
    omega
theorem sign_plain (a x : Nat) (h : a < 2147483648) : wrap32 (a : Int) / 2 ^ x % 4294967296 = ((a / 2 ^ x : Nat) : Int) := by
  have e : wrap32 (a : Int) = a := by unfold wrap32; omega
  have le : a / 2 ^ x ≤ a := Nat.div_le_self _ _
  have e2 : (a : Int) / 2 ^ x = ((a / 2 ^ x : Nat) : Int) := by simp
  rw [e, e2]
  generalize a / 2 ^ x = q at *
  omega

theorem exit_plain (k : Nat) (a x y m n p q r : Int) (h1 : word_Shift.f 1 a x = some p) (h2 : word_Shift.f 2 a x = some q) (h3 : word_Shift.f 3 a x = some r)
    (h4 : word_Shift.f 3 r ((32 - x) % 4294967296) = some a) (h0 : 0 ≤ x) (h5 : p = shl .u32 a x) (h6 : q / 2147483648 = a / 2147483648)
    (h7 : ¬ a / 2147483648 = 1 → q = shr .u32 a x) (h8 : word_Shift.f 0 a m = some a) (h9 : word_Shift.f 4 a m = some a) :
    rivetlaw01_WordShifts.l0 (k + 1) a m n true x y 4 = some true := by
  simp only [rivetlaw01_WordShifts.l0]
  rw [if_neg (by decide), h1, h3, h2]
  simp only [Option.bind_some, if_true]
  rw [h4]
  simp only [Option.bind_some, if_true]
  rw [if_pos h0, if_pos h5, if_pos h6, h8]
  simp only [Option.bind_some, if_true]
  rw [h9]
  simp only [Option.bind_some]
  by_cases h : a / 2147483648 = 1
  · rw [if_pos h]
    simp
  · rw [if_neg h, if_pos (h7 h)]
    simp
theorem back_arg (x : Nat) (hx : x < 32) : (32 - (x : Int)) % 4294967296 = ((32 - x : Nat) : Int) := by omega
theorem not_high (a : Nat) (ha : a < 4294967296) (h : ¬ (a : Int) / 2147483648 = 1) : a < 2147483648 := by omega
theorem exit_true (k a x y m n : Nat) (ha : a < 4294967296) (hx : x < 32) : rivetlaw01_WordShifts.l0 (k + 1) a m n true x y 4 = some true := by
  have m0 : x % 32 = x := Nat.mod_eq_of_lt hx
  have e1 := shift_left a x
  have e2 := shift_sign a x
  have e3 := shift_turn a x ha
  rw [m0] at e1 e2 e3
  refine exit_plain k a x y m n _ _ _ e1 e2 e3 ?_ (Int.natCast_nonneg x) (shl_is a x (Nat.le_of_lt hx)).symm (sign_same a x ha) (fun h => ?_) (shift_none a m).1 (shift_none a m).2
  · rw [back_arg x hx]
    exact back_turned a x ha hx
  · rw [sign_plain a x (not_high a ha h), shr_is a x (Nat.le_of_lt hx)]

theorem round_true (k : Nat) (a x y m n c : Int) (h0 : 0 ≤ x + y) (h1 : x + y < 32) (hc : 1 ≤ c ∧ c ≤ 3) (A : Asks c a x y m (32 * n % 4294967296))
    (h : rivetlaw01_WordShifts.l0 k a m n true x y (c + 1) = some true) : rivetlaw01_WordShifts.l0 (k + 1) a m n true x y c = some true := by
  obtain ⟨p, q, g1, g2, g3, g4, g5⟩ := A
  have e1 : (x + y) % 4294967296 = x + y := by omega
  have e3 : wrap64 (c + 1) = c + 1 := by unfold wrap64; omega
  simp only [rivetlaw01_WordShifts.l0]
  rw [if_pos hc.2, e1, g1]
  simp only [Option.bind_some]
  rw [g2, g3]
  simp only [Option.bind_some, if_true]
  rw [g4]
  simp only [Option.bind_some, if_true]
  rw [g5, e3]
  simp only [Option.bind_some, if_true]
  exact h

theorem WordShifts : rivetlaw01_WordShifts.Pure := by
  intro a m n wa wm wn
  obtain ⟨ha0, ha1⟩ := wf32 wa
  obtain ⟨hm0, hm1⟩ := wf32 wm
  obtain ⟨hn0, hn1⟩ := wf32 wn
  obtain ⟨a, rfl⟩ := Int.eq_ofNat_of_zero_le ha0
  obtain ⟨m, rfl⟩ := Int.eq_ofNat_of_zero_le hm0
  obtain ⟨n, rfl⟩ := Int.eq_ofNat_of_zero_le hn0
  refine ⟨5, ?_⟩
  have tx : Int.tmod (m : Int) 32 = ((m % 32 : Nat) : Int) := by rw [Int.tmod_eq_emod_of_nonneg (by omega)]; omega
  have t1 : (32 - ((m % 32 : Nat) : Int)) % 4294967296 = ((32 - m % 32 : Nat) : Int) := by omega
  have ty : Int.tmod (n : Int) ((32 - m % 32 : Nat) : Int) = ((n % (32 - m % 32) : Nat) : Int) := by
    rw [Int.tmod_eq_emod_of_nonneg (by omega)]; rfl
  have hy : n % (32 - m % 32) < 32 - m % 32 := Nat.mod_lt _ (by omega)
  unfold rivetlaw01_WordShifts.f
  rw [shown_true, tx, t1, ty]
  simp only [Option.bind_some]
  rw [if_neg (by omega)]
  have ha : a < 4294967296 := by omega
  have hz : 32 * (n : Int) % 4294967296 = ((32 * n % 4294967296 : Nat) : Int) := by omega
  have hz2 : 32 * n % 4294967296 % 32 = 0 := by omega
  generalize 32 * n % 4294967296 = t at hz hz2
  generalize hy' : n % (32 - m % 32) = y at *
  generalize hx' : m % 32 = x at *
  refine round_true 4 _ _ _ _ _ 1 (by omega) (by omega) (by omega) (by rw [hz]; exact asks1 a x y m t ha hx'.symm (by omega) hz2) ?_
  refine round_true 3 _ _ _ _ _ 2 (by omega) (by omega) (by omega) (by rw [hz]; exact asks2 a x y m t ha hx'.symm (by omega) hz2) ?_
  refine round_true 2 _ _ _ _ _ 3 (by omega) (by omega) (by omega) (by rw [hz]; exact asks3 a x y m t ha hx'.symm (by omega) hz2) ?_
  exact exit_true 1 a x y m n ha (by omega)

end Go.Proofs.Ythgnniiiekkodaa.Pure
