/-
  IsaBits' walk: which words are none.
-/
import Derived.Test.YtnilkljibdjjgaaAny
namespace Go.Proofs.Ytnilkljibdjjgaa.Isa
open Go Go.RowKit Go.Proofs.Ytnilkljibdjjgaa.FieldM Go.Proofs.Ytnilkljibdjjgaa.Field

theorem fand (x y : Nat) {a k d m : Nat} (hd : 2 ^ a = d) (hm : 2 ^ k = m) : (x &&& y) / d % m = (x / d % m) &&& (y / d % m) := by
  subst hd hm
  apply Nat.eq_of_testBit_eq
  intro p
  simp only [Nat.testBit_mod_two_pow, Nat.testBit_div_two_pow, Nat.testBit_and]
  cases decide (p < k) <;> simp
theorem for' (x y : Nat) {a k d m : Nat} (hd : 2 ^ a = d) (hm : 2 ^ k = m) : (x ||| y) / d % m = (x / d % m) ||| (y / d % m) := by
  subst hd hm
  apply Nat.eq_of_testBit_eq
  intro p
  simp only [Nat.testBit_mod_two_pow, Nat.testBit_div_two_pow, Nat.testBit_or]
  cases decide (p < k) <;> simp
theorem and_b {a b : Nat} (ha : a < 4294967296) : a &&& b < 4294967296 := Nat.lt_of_le_of_lt Nat.and_le_left ha
theorem or_b {a b : Nat} (ha : a < 4294967296) (hb : b < 4294967296) : a ||| b < 4294967296 := Nat.or_lt_two_pow (n := 32) ha hb

theorem q30 : (2 : Nat) ^ 30 = 1073741824 := by decide
theorem q29 : (2 : Nat) ^ 29 = 536870912 := by decide
theorem q28 : (2 : Nat) ^ 28 = 268435456 := by decide
theorem q20 : (2 : Nat) ^ 20 = 1048576 := by decide
theorem q16 : (2 : Nat) ^ 16 = 65536 := by decide
theorem q4 : (2 : Nat) ^ 4 = 16 := by decide
theorem q2 : (2 : Nat) ^ 2 = 4 := by decide
theorem q1 : (2 : Nat) ^ 1 = 2 := by decide
theorem q12 : (2 : Nat) ^ 12 = 4096 := by decide

theorem t4 : ∀ f : Fin 16, 12 ≤ 12 ||| (f.1 &&& 3) := by decide
theorem or_mid (g : Nat) : ¬ g ||| 1 = 0 := by
  intro h
  have := congrArg (fun z => z.testBit 0) h
  simp at this

/-- The six words. -/
def v1 (w x : Nat) : Nat := w &&& 1341194239 ||| 786432 ||| (x &&& 196608)
def odd (x : Nat) : Nat := x &&& 65520 ||| 16
def v2 (w x : Nat) : Nat := w &&& 268107791 ||| odd x
def v3 (w x : Nat) : Nat := w &&& 520093711 ||| 3221225472 ||| odd x
def v4 (w : Nat) : Nat := w &&& 267386895 ||| 537133056
def v5 (w : Nat) : Nat := w &&& 251658255 ||| 1048576
def v6 (w : Nat) : Nat := w &&& 268107791 ||| 268435456

theorem v1_bad (w x : Nat) : okN (v1 w x) = false := by
  apply read_low
  · have e : v1 w x / 1073741824 % 4 = (w / 1073741824 % 4) % 2 := by
      unfold v1
      rw [for' _ _ q30 q2, for' _ _ q30 q2, fand _ _ q30 q2, fand _ _ q30 q2]
      simp
    omega
  · unfold v1
    rw [for' _ _ q16 q4, for' _ _ q16 q4, fand _ _ q16 q4, fand _ _ q16 q4]
    simp only [Nat.reduceDiv, Nat.reduceMod, Nat.and_zero, Nat.zero_or]
    exact t4 ⟨x / 65536 % 16, by omega⟩
theorem odd_field (x : Nat) : odd x / 1073741824 % 4 = 0 ∧ odd x / 536870912 % 2 = 0 := by
  unfold odd
  constructor
  · rw [for' _ _ q30 q2, fand _ _ q30 q2]; simp
  · rw [for' _ _ q29 q1, fand _ _ q29 q1]; simp
theorem odd_mid (x g : Nat) : ¬ (g ||| odd x) / 16 % 4096 = 0 := by
  unfold odd
  rw [for' _ _ q4 q12, for' _ _ q4 q12, show 16 / 16 % 4096 = 1 by decide, ← Nat.or_assoc]
  exact or_mid _
theorem v2_bad (w x : Nat) : okN (v2 w x) = false := by
  have o := odd_field x
  refine not_reg ?_ ?_ ?_
  · unfold v2
    rw [for' _ _ q30 q2, fand _ _ q30 q2, o.1]; simp
  · unfold v2
    rw [for' _ _ q29 q1, fand _ _ q29 q1, o.2]; simp
  · exact odd_mid x _
theorem v3_bad (w x : Nat) : okN (v3 w x) = false := by
  have o := odd_field x
  refine not_branch ?_ ?_ ?_
  · unfold v3
    rw [for' _ _ q30 q2, for' _ _ q30 q2, fand _ _ q30 q2, o.1]; simp
  · unfold v3
    rw [for' _ _ q29 q1, for' _ _ q29 q1, fand _ _ q29 q1, o.2]; simp
  · exact odd_mid x _
theorem v4_bad (w : Nat) : okN (v4 w) = false := by
  refine not_carry ?_ ?_ ?_
  · unfold v4
    rw [for' _ _ q30 q2, fand _ _ q30 q2]; simp
  · unfold v4
    rw [for' _ _ q29 q1, fand _ _ q29 q1]; simp
  · unfold v4
    rw [for' _ _ q16 q4, fand _ _ q16 q4]; simp
theorem v5_bad (w : Nat) : okN (v5 w) = false := by
  refine not_moved ?_ ?_ ?_ ?_
  · unfold v5
    rw [for' _ _ q30 q2, fand _ _ q30 q2]; simp
  · unfold v5
    rw [for' _ _ q29 q1, fand _ _ q29 q1]; simp
  · unfold v5
    rw [for' _ _ q16 q4, fand _ _ q16 q4]; simp
  · unfold v5
    rw [for' _ _ q20 q4, fand _ _ q20 q4]; simp
theorem v6_bad (w : Nat) : okN (v6 w) = false := by
  refine not_sign ?_ ?_ ?_
  · unfold v6
    rw [for' _ _ q30 q2, fand _ _ q30 q2]; simp
  · unfold v6
    rw [for' _ _ q29 q1, fand _ _ q29 q1]; simp
  · unfold v6
    rw [for' _ _ q28 q1, fand _ _ q28 q1]; simp

/-- Decode at a word that is none, the word as the walk spells it. -/
theorem dec_bad {v : Nat} {x : Int} (hv : v < 4294967296) (hx : x = v) (h : okN v = false) : Field.Aside (∀ wx, Calls Try.prog 14 #[.int .u32 x] wx fun e w' => e = .returned (.tuple #[.agg #[.int .i64 0, .int .i64 0, .int .i64 0, .int .i64 0, .int .i64 0, .int .i64 0, .bool false], .bool false]) ∧ Bl wx w') := by
  rw [hx]; exact decode_bad v hv h

set_option maxHeartbeats 4000000 in
theorem bits_raw (w x : Int) (W : World)
   (SH : Field.Aside (∀ wx, Calls Try.prog 11 #[] wx fun e w' => e = .returned (.bool true) ∧ Bl wx w'))
   (D1 : Field.Aside (∀ wx, Calls Try.prog 14 #[.int .u32 (bits .or .u32 (bits .or .u32 (bits .and .u32 w 1341194239) 786432) (bits .and .u32 x 196608))] wx fun e w' => e = .returned (.tuple #[.agg #[.int .i64 0, .int .i64 0, .int .i64 0, .int .i64 0, .int .i64 0, .int .i64 0, .bool false], .bool false]) ∧ Bl wx w'))
   (D2 : Field.Aside (∀ wx, Calls Try.prog 14 #[.int .u32 (bits .or .u32 (bits .and .u32 w 268107791) (bits .or .u32 (bits .and .u32 x 65520) 16))] wx fun e w' => e = .returned (.tuple #[.agg #[.int .i64 0, .int .i64 0, .int .i64 0, .int .i64 0, .int .i64 0, .int .i64 0, .bool false], .bool false]) ∧ Bl wx w'))
   (D3 : Field.Aside (∀ wx, Calls Try.prog 14 #[.int .u32 (bits .or .u32 (bits .or .u32 (bits .and .u32 w 520093711) 3221225472) (bits .or .u32 (bits .and .u32 x 65520) 16))] wx fun e w' => e = .returned (.tuple #[.agg #[.int .i64 0, .int .i64 0, .int .i64 0, .int .i64 0, .int .i64 0, .int .i64 0, .bool false], .bool false]) ∧ Bl wx w'))
   (D4 : Field.Aside (∀ wx, Calls Try.prog 14 #[.int .u32 (bits .or .u32 (bits .and .u32 w 267386895) 537133056)] wx fun e w' => e = .returned (.tuple #[.agg #[.int .i64 0, .int .i64 0, .int .i64 0, .int .i64 0, .int .i64 0, .int .i64 0, .bool false], .bool false]) ∧ Bl wx w'))
   (D5 : Field.Aside (∀ wx, Calls Try.prog 14 #[.int .u32 (bits .or .u32 (bits .and .u32 w 251658255) 1048576)] wx fun e w' => e = .returned (.tuple #[.agg #[.int .i64 0, .int .i64 0, .int .i64 0, .int .i64 0, .int .i64 0, .int .i64 0, .bool false], .bool false]) ∧ Bl wx w'))
   (D6 : Field.Aside (∀ wx, Calls Try.prog 14 #[.int .u32 (bits .or .u32 (bits .and .u32 w 268107791) 268435456)] wx fun e w' => e = .returned (.tuple #[.agg #[.int .i64 0, .int .i64 0, .int .i64 0, .int .i64 0, .int .i64 0, .int .i64 0, .bool false], .bool false]) ∧ Bl wx w')) :
   Calls Try.prog 6 #[.int .u32 w, .int .u32 x] W fun e w' => e = .returned (.bool true) ∧ Bl W w' := by
  go_enter Try.func6, Try.ntmps6
  go_wp2_with fail
  refine (SH.out _).mono ?_
  rintro e w1 ⟨rfl, k1⟩
  have K1 := Field.Aside.mk k1
  clear k1
  go_wp2_with fail
  refine (D1.out _).mono ?_
  rintro e w2 ⟨rfl, k2⟩
  have K2 := Field.Aside.mk ((K1.out.then k2.out).alloc (.cells #[.int .i64 0, .int .i64 0, .int .i64 0, .int .i64 0, .int .i64 0, .int .i64 0, .bool false] 23))
  clear k2
  go_wp2_with fail
  refine (D2.out _).mono ?_
  rintro e w3 ⟨rfl, k3⟩
  have K3 := Field.Aside.mk ((K2.out.then k3.out).alloc (.cells #[.int .i64 0, .int .i64 0, .int .i64 0, .int .i64 0, .int .i64 0, .int .i64 0, .bool false] 23))
  clear k3
  go_wp2_with fail
  refine (D3.out _).mono ?_
  rintro e w4 ⟨rfl, k4⟩
  have K4 := Field.Aside.mk ((K3.out.then k4.out).alloc (.cells #[.int .i64 0, .int .i64 0, .int .i64 0, .int .i64 0, .int .i64 0, .int .i64 0, .bool false] 23))
  clear k4
  go_wp2_with fail
  refine (D4.out _).mono ?_
  rintro e w5 ⟨rfl, k5⟩
  have K5 := Field.Aside.mk ((K4.out.then k5.out).alloc (.cells #[.int .i64 0, .int .i64 0, .int .i64 0, .int .i64 0, .int .i64 0, .int .i64 0, .bool false] 23))
  clear k5
  go_wp2_with fail
  refine (D5.out _).mono ?_
  rintro e w6 ⟨rfl, k6⟩
  have K6 := Field.Aside.mk ((K5.out.then k6.out).alloc (.cells #[.int .i64 0, .int .i64 0, .int .i64 0, .int .i64 0, .int .i64 0, .int .i64 0, .bool false] 23))
  clear k6
  go_wp2_with fail
  refine (D6.out _).mono ?_
  rintro e w7 ⟨rfl, k7⟩
  have K7 := Field.Aside.mk ((K6.out.then k7.out).alloc (.cells #[.int .i64 0, .int .i64 0, .int .i64 0, .int .i64 0, .int .i64 0, .int .i64 0, .bool false] 23))
  clear k7
  go_wp2_with fail
  go_ret
  exact ⟨rfl, K7.out⟩

theorem bits_walk (a b : Int) (W : World) (wa : (Lit.int .u32 a).wf = true) (wb : (Lit.int .u32 b).wf = true) :
   Calls Try.prog 6 #[.int .u32 a, .int .u32 b] W fun e w' => e = .returned (.bool true) ∧ Below W.heap.size W w' := by
  obtain ⟨a0, a1⟩ := wfu32 wa
  obtain ⟨b0, b1⟩ := wfu32 wb
  obtain ⟨w, rfl⟩ := Int.eq_ofNat_of_zero_le a0
  obtain ⟨x, rfl⟩ := Int.eq_ofNat_of_zero_le b0
  have hw : w < 4294967296 := by omega
  have hx : x < 4294967296 := by omega
  have ho : bits .or .u32 (bits .and .u32 (x : Int) 65520) 16 = (odd x : Int) := by
    rw [show (65520 : Int) = ((65520 : Nat) : Int) from rfl, u32_and_nat _ _ hx (by decide), show (16 : Int) = ((16 : Nat) : Int) from rfl, u32_or_nat _ _ (and_b hx) (by decide)]
    rfl
  have lo : odd x < 4294967296 := or_b (and_b hx) (by decide)
  refine (bits_raw w x W shown_any (dec_bad (or_b (or_b (and_b hw) (by decide)) (and_b hx)) ?_ (v1_bad w x)) (dec_bad (or_b (and_b hw) lo) ?_ (v2_bad w x)) (dec_bad (or_b (or_b (and_b hw) (by decide)) lo) ?_ (v3_bad w x))
    (dec_bad (or_b (and_b hw) (by decide)) ?_ (v4_bad w)) (dec_bad (or_b (and_b hw) (by decide)) ?_ (v5_bad w)) (dec_bad (or_b (and_b hw) (by decide)) ?_ (v6_bad w))).mono fun _ _ ⟨e, k⟩ => ⟨e, k.out⟩
  · rw [show (1341194239 : Int) = ((1341194239 : Nat) : Int) from rfl, u32_and_nat _ _ hw (by decide), show (786432 : Int) = ((786432 : Nat) : Int) from rfl, u32_or_nat _ _ (and_b hw) (by decide),
      show (196608 : Int) = ((196608 : Nat) : Int) from rfl, u32_and_nat _ _ hx (by decide), u32_or_nat _ _ (or_b (and_b hw) (by decide)) (and_b hx)]
  · rw [ho, show (268107791 : Int) = ((268107791 : Nat) : Int) from rfl, u32_and_nat _ _ hw (by decide), u32_or_nat _ _ (and_b hw) lo]
  · rw [ho, show (520093711 : Int) = ((520093711 : Nat) : Int) from rfl, u32_and_nat _ _ hw (by decide), show (3221225472 : Int) = ((3221225472 : Nat) : Int) from rfl, u32_or_nat _ _ (and_b hw) (by decide), u32_or_nat _ _ (or_b (and_b hw) (by decide)) lo]
  · rw [show (267386895 : Int) = ((267386895 : Nat) : Int) from rfl, u32_and_nat _ _ hw (by decide), show (537133056 : Int) = ((537133056 : Nat) : Int) from rfl, u32_or_nat _ _ (and_b hw) (by decide)]
  · rw [show (251658255 : Int) = ((251658255 : Nat) : Int) from rfl, u32_and_nat _ _ hw (by decide), show (1048576 : Int) = ((1048576 : Nat) : Int) from rfl, u32_or_nat _ _ (and_b hw) (by decide)]
  · rw [show (268107791 : Int) = ((268107791 : Nat) : Int) from rfl, u32_and_nat _ _ hw (by decide), show (268435456 : Int) = ((268435456 : Nat) : Int) from rfl, u32_or_nat _ _ (and_b hw) (by decide)]
end Go.Proofs.Ytnilkljibdjjgaa.Isa
