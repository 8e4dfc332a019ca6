/-
  FieldShifts' walk: a field is what is left of the word, shifted down; the whole word is one; none is nothing.
-/
import Derived.Test.YtdafgbehhgojnaaLaws
namespace Go.Proofs.Ytdafgbehhgojnaa.Laws
open Go.RowKit Go.Proofs.Ytdafgbehhgojnaa.FieldM Go.Proofs.Ytdafgbehhgojnaa.Field

theorem get_c (W : World) (x : Nat) (a n r : Int) (hx : x < 4294967296) (h4 : n ≤ 9223372036854775807) (hr : (getN x a n : Int) = r) :
    Field.Aside (∀ w, Bl W w → Calls Try.prog 10 #[.int .u32 x, .int .i64 a, .int .i64 n] w fun e w' => e = .returned (.int .u32 r) ∧ Bl W w') :=
  Field.Aside.mk fun w h => by rw [← hr]; exact get_b W x a n hx h4 w h
theorem set_c (W : World) (o : Nat) (a n : Int) (x : Nat) (r : Int) (ho : o < 4294967296) (hx : x < 4294967296) (h4 : n ≤ 9223372036854775807) (hr : (setN o a n x : Int) = r) :
    Field.Aside (∀ w, Bl W w → Calls Try.prog 9 #[.int .u32 o, .int .i64 a, .int .i64 n, .int .u32 x] w fun e w' => e = .returned (.int .u32 r) ∧ Bl W w') :=
  Field.Aside.mk fun w h => by rw [← hr]; exact set_b W o a n x ho hx h4 w h

set_option maxHeartbeats 1600000 in
theorem shifts_raw (w x n0 n1 a k : Nat) (want : Int) (W : World) (_hw : w < 4294967296) (_hx : x < 4294967296) (_h0 : n0 < 256) (_h1 : n1 < 256) (e0 : (n0 : Int) % 32 = a) (_ha2 : a ≤ 31) (e1 : (n1 : Int) % (33 - (a : Int)) = k) (hk2 : k + a ≤ 32)
   (hwant : bits .and .u64 ((w : Int) / 2 ^ a) (IntKind.u64.wrap (IntKind.u64.wrap (2 ^ k) - 1)) % 4294967296 = want)
   (G1 : Field.Aside (∀ w', Bl W w' → Calls Try.prog 10 #[.int .u32 w, .int .i64 a, .int .i64 k] w' fun e w' => e = .returned (.int .u32 want) ∧ Bl W w'))
   (G2 : Field.Aside (∀ w', Bl W w' → Calls Try.prog 10 #[.int .u32 w, .int .i64 0, .int .i64 32] w' fun e w' => e = .returned (.int .u32 w) ∧ Bl W w'))
   (G3 : Field.Aside (∀ w', Bl W w' → Calls Try.prog 9 #[.int .u32 w, .int .i64 0, .int .i64 32, .int .u32 x] w' fun e w' => e = .returned (.int .u32 x) ∧ Bl W w'))
   (G4 : Field.Aside (∀ w', Bl W w' → Calls Try.prog 10 #[.int .u32 w, .int .i64 a, .int .i64 0] w' fun e w' => e = .returned (.int .u32 0) ∧ Bl W w'))
   (G5 : Field.Aside (∀ w', Bl W w' → Calls Try.prog 9 #[.int .u32 w, .int .i64 a, .int .i64 0, .int .u32 x] w' fun e w' => e = .returned (.int .u32 w) ∧ Bl W w'))
   (G6 : Field.Aside (∀ w', Bl W w' → Calls Try.prog 10 #[.int .u32 w, .int .i64 32, .int .i64 k] w' fun e w' => e = .returned (.int .u32 0) ∧ Bl W w'))
   (G7 : Field.Aside (∀ w', Bl W w' → Calls Try.prog 9 #[.int .u32 w, .int .i64 (-(k : Int)), .int .i64 k, .int .u32 x] w' fun e w' => e = .returned (.int .u32 w) ∧ Bl W w')) :
   Calls Try.prog 6 #[.int .u32 w, .int .u32 x, .agg #[.int .u8 n0, .int .u8 n1]] W fun e w' => e = .returned (.bool true) ∧ Below W.heap.size W w' := by
  go_enter Try.func6, Try.ntmps6
  go_wp2_with fail
  refine (shown_any _).mono ?_; rintro e w1 ⟨rfl, hb⟩
  have c0 := cell_new hb 0 _ rfl
  have c1 := cell_new hb 1 _ rfl
  have HB : Bl W w1 := (Bl.one W _).then hb
  clear hb
  go_wp2_with fail
  go_region
  have HB2 := HB.drew
  go_wp2_with (first | (go_at_call 10; (first | (with_reducible refine (G1.out _ ?_).mono ?_) | (with_reducible refine (G2.out _ ?_).mono ?_) | (with_reducible refine (G4.out _ ?_).mono ?_) | (with_reducible refine (G6.out _ ?_).mono ?_)); assumption; rintro e w1 ⟨rfl, hb⟩) | (go_at_call 9; (first | (with_reducible refine (G3.out _ ?_).mono ?_) | (with_reducible refine (G5.out _ ?_).mono ?_) | (with_reducible refine (G7.out _ ?_).mono ?_)); assumption; rintro e w1 ⟨rfl, hb⟩))
  go_ret
  exact ⟨rfl, (by assumption : Bl W _).out⟩

/-! The values. -/
theorem get_whole (w : Nat) (hw : w < 4294967296) : getN w 0 32 = w := by
  have h := getN_eq w 0 32 (by omega)
  rw [Nat.pow_zero, Nat.div_one, Nat.mod_eq_of_lt hw] at h
  exact h
theorem set_whole (w x : Nat) (hw : w < 4294967296) (hx : x < 4294967296) : setN w 0 32 x = x := by
  apply Nat.eq_of_testBit_eq
  intro p
  have h := setN_bit' w 0 32 x p (by omega) hw
  rw [show ((0 : Nat) : Int) = 0 from rfl, show ((32 : Nat) : Int) = 32 from rfl] at h
  rw [h]
  by_cases hp : p < 32
  · rw [if_pos (by omega)]; rfl
  · rw [if_neg (by omega), high_bit hw (by omega), high_bit hx (by omega)]
theorem get_none (w : Nat) (a n : Int) (h : n < 1 ∨ 32 ≤ a ∨ a ≤ -n) : getN w a n = 0 := by
  symm
  apply eq_natOf (by omega)
  intro p hp
  rw [Nat.zero_testBit]
  symm
  unfold inF bitZ
  by_cases h1 : 1 ≤ n ∧ a ≤ (p : Int) + a ∧ (p : Int) + a - a < n
  · rw [decide_eq_false (p := 0 ≤ (p : Int) + a ∧ (p : Int) + a < 32) (by omega)]; simp
  · rw [decide_eq_false h1]; simp
theorem set_none (w : Nat) (a n : Int) (x : Nat) (hw : w < 4294967296) (h : n < 1 ∨ 32 ≤ a ∨ a ≤ -n) : setN w a n x = w := by
  symm
  apply eq_natOf hw
  intro p hp
  have : inF p a n = false := by unfold inF; exact decide_eq_false (by omega)
  simp [this]
theorem wrapU (z : Int) : IntKind.u64.wrap z = z % 18446744073709551616 := by simp [IntKind.wrap, IntKind.bits, IntKind.signed]
theorem want_is (w a k : Nat) (hw : w < 4294967296) (h : k + a ≤ 32) : bits .and .u64 ((w : Int) / 2 ^ a) (IntKind.u64.wrap (IntKind.u64.wrap (2 ^ k) - 1)) % 4294967296 = (getN w a k : Int) := by
  have hk : 2 ^ k ≤ 4294967296 := Nat.pow_le_pow_right (n := 2) (j := 32) (by decide) (by omega)
  have hk0 := Nat.two_pow_pos k
  have e : (2 : Int) ^ k = ((2 ^ k : Nat) : Int) := by simp
  have e2 : IntKind.u64.wrap (IntKind.u64.wrap (2 ^ k) - 1) = ((2 ^ k - 1 : Nat) : Int) := by
    rw [wrapU, wrapU, e]
    generalize 2 ^ k = z at *
    omega
  have hd : w / 2 ^ a ≤ w := Nat.div_le_self _ _
  have hm : w / 2 ^ a % 2 ^ k ≤ w / 2 ^ a := Nat.mod_le _ _
  rw [e2, div_pow_cast, u64_and_nat _ _ (by omega) (by omega), Nat.and_two_pow_sub_one_eq_mod, getN_eq w a k (by omega)]
  generalize w / 2 ^ a % 2 ^ k = t at *
  omega

theorem shifts_walk (a0 a1 n0 n1 : Int) (W : World) (w0 : (Lit.int .u32 a0).wf = true) (w1 : (Lit.int .u32 a1).wf = true) (v0 : (Lit.int .u8 n0).wf = true) (v1 : (Lit.int .u8 n1).wf = true) :
    Calls Try.prog 6 #[.int .u32 a0, .int .u32 a1, .agg #[.int .u8 n0, .int .u8 n1]] W fun e w' => e = .returned (.bool true) ∧ Below W.heap.size W w' := by
  obtain ⟨p0, q0⟩ := wf32 w0
  obtain ⟨p1, q1⟩ := wf32 w1
  obtain ⟨p2, q2⟩ := wf8 v0
  obtain ⟨p3, q3⟩ := wf8 v1
  obtain ⟨w, rfl⟩ := Int.eq_ofNat_of_zero_le p0
  obtain ⟨x, rfl⟩ := Int.eq_ofNat_of_zero_le p1
  obtain ⟨m, rfl⟩ := Int.eq_ofNat_of_zero_le p2
  obtain ⟨n, rfl⟩ := Int.eq_ofNat_of_zero_le p3
  have hw : w < 4294967296 := by omega
  have hx : x < 4294967296 := by omega
  obtain ⟨a, ha⟩ : ∃ a, a = m % 32 := ⟨_, rfl⟩
  obtain ⟨k, hk⟩ : ∃ k, k = n % (33 - a) := ⟨_, rfl⟩
  have ha2 : a ≤ 31 := by omega
  have hk2 : k + a ≤ 32 := by have := Nat.mod_lt n (show 0 < 33 - a by omega); omega
  have e1 : (n : Int) % (33 - (a : Int)) = k := by
    rw [show 33 - (a : Int) = ((33 - a : Nat) : Int) by omega, hk]; rfl
  refine shifts_raw w x m n a k _ W hw hx (by omega) (by omega) (by omega) ha2 e1 hk2 (want_is w a k hw hk2) (get_c W w a k _ hw (by omega) rfl) (get_c W w 0 32 _ hw (by omega) ?_) (set_c W w 0 32 x _ hw hx (by omega) ?_)
    (get_c W w a 0 _ hw (by omega) ?_) (set_c W w a 0 x _ hw hx (by omega) ?_) (get_c W w 32 k _ hw (by omega) ?_) (set_c W w (-(k : Int)) k x _ hw hx (by omega) ?_)
  · rw [get_whole w hw]
  · rw [set_whole w x hw hx]
  · rw [get_none w a 0 (by omega)]; rfl
  · rw [set_none w a 0 x hw (by omega)]
  · rw [get_none w 32 k (by omega)]; rfl
  · rw [set_none w (-(k : Int)) k x hw (by omega)]
end Go.Proofs.Ytdafgbehhgojnaa.Laws
