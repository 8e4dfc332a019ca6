/-
  FieldParts' walk: a field cut in two is its lower and its upper part; fields set one behind the other are both there.
-/
import Derived.Test.YtdafgbehhgojnaaShiftsWalk
namespace Go.Proofs.Ytdafgbehhgojnaa.Laws
open Go.RowKit Go.Proofs.Ytdafgbehhgojnaa.FieldM Go.Proofs.Ytdafgbehhgojnaa.Field

/-- What is there at W2, and the box's cells that are still to be read. -/
theorem box_keep {W2 w : World} {A0 A1 : Addr} {v0 v1 : Value} (q0 : W2.cell? A0 = some v0) (q1 : W2.cell? A1 = some v1) (h : Bl W2 w) : Bl W2 w ∧ w.cell? A0 = some v0 ∧ w.cell? A1 = some v1 :=
  ⟨h, (h.out.cell (World.block_lt_of_cell? W2 A0 q0)).trans q0, (h.out.cell (World.block_lt_of_cell? W2 A1 q1)).trans q1⟩
set_option maxHeartbeats 3200000 in
theorem parts_raw (w x0 x1 k0 k1 k2 a m n : Nat) (all low high t0 t1 s1 s3 y : Int) (W W2 : World) (_hw : w < 4294967296) (_hx0 : x0 < 4294967296) (_hx1 : x1 < 4294967296) (_h0 : k0 < 256) (_h1 : k1 < 256) (_h2 : k2 < 256)
   (e0 : (k0 : Int) % 32 = a) (_ha2 : a ≤ 31) (e1 : (k1 : Int) % (33 - (a : Int)) = m) (_hm2 : m + a ≤ 32) (e2 : (k2 : Int) % (33 - (a : Int) - (m : Int)) = n) (hn2 : n + m + a ≤ 32)
   (HW2 : Field.Aside (W2 = (W.alloc (.cells #[.int .u32 x0, .int .u32 x1] 31)).alloc (.cells #[.int .u8 k0, .int .u8 k1, .int .u8 k2] 32)))
   (G1 : Field.Aside (∀ w', Bl W2 w' → Calls Try.prog 10 #[.int .u32 w, .int .i64 a, .int .i64 ((m : Int) + (n : Int))] w' fun e w' => e = .returned (.int .u32 all) ∧ Bl W2 w'))
   (G2 : Field.Aside (∀ w', Bl W2 w' → Calls Try.prog 10 #[.int .u32 w, .int .i64 a, .int .i64 m] w' fun e w' => e = .returned (.int .u32 low) ∧ Bl W2 w'))
   (G3 : Field.Aside (∀ w', Bl W2 w' → Calls Try.prog 10 #[.int .u32 w, .int .i64 ((a : Int) + (m : Int)), .int .i64 n] w' fun e w' => e = .returned (.int .u32 high) ∧ Bl W2 w'))
   (G4 : Field.Aside (∀ w', Bl W2 w' → Calls Try.prog 10 #[.int .u32 y, .int .i64 a, .int .i64 m] w' fun e w' => e = .returned (.int .u32 t0) ∧ Bl W2 w'))
   (G5 : Field.Aside (∀ w', Bl W2 w' → Calls Try.prog 10 #[.int .u32 x0, .int .i64 0, .int .i64 m] w' fun e w' => e = .returned (.int .u32 t0) ∧ Bl W2 w'))
   (G6 : Field.Aside (∀ w', Bl W2 w' → Calls Try.prog 10 #[.int .u32 y, .int .i64 ((a : Int) + (m : Int)), .int .i64 n] w' fun e w' => e = .returned (.int .u32 t1) ∧ Bl W2 w'))
   (G7 : Field.Aside (∀ w', Bl W2 w' → Calls Try.prog 10 #[.int .u32 x1, .int .i64 0, .int .i64 n] w' fun e w' => e = .returned (.int .u32 t1) ∧ Bl W2 w'))
   (S1 : Field.Aside (∀ w', Bl W2 w' → Calls Try.prog 9 #[.int .u32 w, .int .i64 a, .int .i64 m, .int .u32 x0] w' fun e w' => e = .returned (.int .u32 s1) ∧ Bl W2 w'))
   (S2 : Field.Aside (∀ w', Bl W2 w' → Calls Try.prog 9 #[.int .u32 s1, .int .i64 ((a : Int) + (m : Int)), .int .i64 n, .int .u32 x1] w' fun e w' => e = .returned (.int .u32 y) ∧ Bl W2 w'))
   (S3 : Field.Aside (∀ w', Bl W2 w' → Calls Try.prog 9 #[.int .u32 w, .int .i64 ((a : Int) + (m : Int)), .int .i64 n, .int .u32 x1] w' fun e w' => e = .returned (.int .u32 s3) ∧ Bl W2 w'))
   (S4 : Field.Aside (∀ w', Bl W2 w' → Calls Try.prog 9 #[.int .u32 s3, .int .i64 a, .int .i64 m, .int .u32 x0] w' fun e w' => e = .returned (.int .u32 y) ∧ Bl W2 w'))
   (low0 : 0 ≤ low) (low1 : low < 4294967296) (high0 : 0 ≤ high) (high1 : high < 4294967296) (all0 : 0 ≤ all) (all1 : all < 4294967296)
   (hall : (bits .or .u64 (IntKind.u64.wrap (high * 2 ^ m)) low == all) = true) :
   Calls Try.prog 5 #[.int .u32 w, .agg #[.int .u32 x0, .int .u32 x1], .agg #[.int .u8 k0, .int .u8 k1, .int .u8 k2]] W fun e w' => e = .returned (.bool true) ∧ Bl W2 w' := by
  go_enter Try.func5, Try.ntmps5
  go_wp2_with fail
  refine (shown_any _).mono ?_; rintro e w1 ⟨rfl, hb⟩
  rw [← HW2.out] at hb
  have q0 : W2.cell? ⟨W.heap.size, 0, none⟩ = some (.int .u32 x0) := by rw [HW2.out, World.cell?_alloc_past _ _ _ (by simp), World.cell?_alloc_at _ _ _ _ rfl]; rfl
  have q1 : W2.cell? ⟨W.heap.size, 1, none⟩ = some (.int .u32 x1) := by rw [HW2.out, World.cell?_alloc_past _ _ _ (by simp), World.cell?_alloc_at _ _ _ _ rfl]; rfl
  have q2 : W2.cell? ⟨W.heap.size + 1, 0, none⟩ = some (.int .u8 k0) := by rw [HW2.out, World.cell?_alloc_at _ _ _ _ (by simp)]; rfl
  have q3 : W2.cell? ⟨W.heap.size + 1, 1, none⟩ = some (.int .u8 k1) := by rw [HW2.out, World.cell?_alloc_at _ _ _ _ (by simp)]; rfl
  have q4 : W2.cell? ⟨W.heap.size + 1, 2, none⟩ = some (.int .u8 k2) := by rw [HW2.out, World.cell?_alloc_at _ _ _ _ (by simp)]; rfl
  have HB : Bl W2 w1 := ⟨hb⟩
  obtain ⟨_, c0, c1⟩ := box_keep q0 q1 HB
  obtain ⟨_, c2, c3⟩ := box_keep q2 q3 HB
  obtain ⟨_, c4, _⟩ := box_keep q4 q4 HB
  have Q0 := Field.Aside.mk q0
  have Q1 := Field.Aside.mk q1
  clear q0 q1 q2 q3 q4 hb
  go_wp2_with (first | (go_at_call 10; (first | (with_reducible refine (G1.out _ ?_).mono ?_) | (with_reducible refine (G2.out _ ?_).mono ?_) | (with_reducible refine (G3.out _ ?_).mono ?_) | (with_reducible refine (G4.out _ ?_).mono ?_) | (with_reducible refine (G5.out _ ?_).mono ?_) | (with_reducible refine (G6.out _ ?_).mono ?_) | (with_reducible refine (G7.out _ ?_).mono ?_)); (first | assumption | exact And.left ‹Bl W2 _ ∧ _›); rintro e w1 ⟨rfl, hb⟩) | (go_at_call 9; (first | (with_reducible refine (S1.out _ ?_).mono ?_) | (with_reducible refine (S2.out _ ?_).mono ?_) | (with_reducible refine (S3.out _ ?_).mono ?_) | (with_reducible refine (S4.out _ ?_).mono ?_)); (first | assumption | exact And.left ‹Bl W2 _ ∧ _›); rintro e w1 ⟨rfl, hb⟩))
  clear e0 e1 e2 c0 c1 c2 c3 c4
  have hs : IntKind.i64.wrap ((a : Int) + (m : Int)) = (a : Int) + (m : Int) := by simp [IntKind.wrap, IntKind.bits, IntKind.signed]; omega
  go_region_held3 (fun w' => Bl W2 w' ∧ w'.cell? ⟨W.heap.size, 0, none⟩ = some (.int .u32 x0) ∧ w'.cell? ⟨W.heap.size, 1, none⟩ = some (.int .u32 x1)) (first | (refine box_keep Q0.out Q1.out ?_; assumption) | (refine box_keep Q0.out Q1.out (Bl.drew ?_); assumption)) (first | (go_at_call 10; (first | (with_reducible refine (G1.out _ ?_).mono ?_) | (with_reducible refine (G2.out _ ?_).mono ?_) | (with_reducible refine (G3.out _ ?_).mono ?_) | (with_reducible refine (G4.out _ ?_).mono ?_) | (with_reducible refine (G5.out _ ?_).mono ?_) | (with_reducible refine (G6.out _ ?_).mono ?_) | (with_reducible refine (G7.out _ ?_).mono ?_)); (first | assumption | exact And.left ‹Bl W2 _ ∧ _›); rintro e w1 ⟨rfl, hb⟩) | (go_at_call 9; (first | (with_reducible refine (S1.out _ ?_).mono ?_) | (with_reducible refine (S2.out _ ?_).mono ?_) | (with_reducible refine (S3.out _ ?_).mono ?_) | (with_reducible refine (S4.out _ ?_).mono ?_)); (first | assumption | exact And.left ‹Bl W2 _ ∧ _›); rintro e w1 ⟨rfl, hb⟩))
  go_wp2_with fail
  go_region_held3 (fun w' => Bl W2 w' ∧ w'.cell? ⟨W.heap.size, 0, none⟩ = some (.int .u32 x0) ∧ w'.cell? ⟨W.heap.size, 1, none⟩ = some (.int .u32 x1)) (first | (refine box_keep Q0.out Q1.out ?_; assumption) | (refine box_keep Q0.out Q1.out (Bl.drew ?_); assumption)) (first | (go_at_call 10; (first | (with_reducible refine (G1.out _ ?_).mono ?_) | (with_reducible refine (G2.out _ ?_).mono ?_) | (with_reducible refine (G3.out _ ?_).mono ?_) | (with_reducible refine (G4.out _ ?_).mono ?_) | (with_reducible refine (G5.out _ ?_).mono ?_) | (with_reducible refine (G6.out _ ?_).mono ?_) | (with_reducible refine (G7.out _ ?_).mono ?_)); (first | assumption | exact And.left ‹Bl W2 _ ∧ _›); rintro e w1 ⟨rfl, hb⟩) | (go_at_call 9; (first | (with_reducible refine (S1.out _ ?_).mono ?_) | (with_reducible refine (S2.out _ ?_).mono ?_) | (with_reducible refine (S3.out _ ?_).mono ?_) | (with_reducible refine (S4.out _ ?_).mono ?_)); (first | assumption | exact And.left ‹Bl W2 _ ∧ _›); rintro e w1 ⟨rfl, hb⟩))
  go_wp2_with (first | (go_at_call 10; (first | (with_reducible refine (G1.out _ ?_).mono ?_) | (with_reducible refine (G2.out _ ?_).mono ?_) | (with_reducible refine (G3.out _ ?_).mono ?_) | (with_reducible refine (G4.out _ ?_).mono ?_) | (with_reducible refine (G5.out _ ?_).mono ?_) | (with_reducible refine (G6.out _ ?_).mono ?_) | (with_reducible refine (G7.out _ ?_).mono ?_)); (first | assumption | exact And.left ‹Bl W2 _ ∧ _›); rintro e w1 ⟨rfl, hb⟩) | (go_at_call 9; (first | (with_reducible refine (S1.out _ ?_).mono ?_) | (with_reducible refine (S2.out _ ?_).mono ?_) | (with_reducible refine (S3.out _ ?_).mono ?_) | (with_reducible refine (S4.out _ ?_).mono ?_)); (first | assumption | exact And.left ‹Bl W2 _ ∧ _›); rintro e w1 ⟨rfl, hb⟩))
  have u1 : IntKind.u64.wrap high = high := by simp [IntKind.wrap, IntKind.bits, IntKind.signed]; omega
  have u2 : IntKind.u64.wrap low = low := by simp [IntKind.wrap, IntKind.bits, IntKind.signed]; omega
  have u3 : IntKind.u64.wrap all = all := by simp [IntKind.wrap, IntKind.bits, IntKind.signed]; omega
  go_region_held3 (fun w' => Bl W2 w' ∧ w'.cell? ⟨W.heap.size, 0, none⟩ = some (.int .u32 x0) ∧ w'.cell? ⟨W.heap.size, 1, none⟩ = some (.int .u32 x1)) (first | (refine box_keep Q0.out Q1.out ?_; assumption) | (refine box_keep Q0.out Q1.out (Bl.drew ?_); assumption)) (first | (go_at_call 10; (first | (with_reducible refine (G1.out _ ?_).mono ?_) | (with_reducible refine (G2.out _ ?_).mono ?_) | (with_reducible refine (G3.out _ ?_).mono ?_) | (with_reducible refine (G4.out _ ?_).mono ?_) | (with_reducible refine (G5.out _ ?_).mono ?_) | (with_reducible refine (G6.out _ ?_).mono ?_) | (with_reducible refine (G7.out _ ?_).mono ?_)); (first | assumption | exact And.left ‹Bl W2 _ ∧ _›); rintro e w1 ⟨rfl, hb⟩) | (go_at_call 9; (first | (with_reducible refine (S1.out _ ?_).mono ?_) | (with_reducible refine (S2.out _ ?_).mono ?_) | (with_reducible refine (S3.out _ ?_).mono ?_) | (with_reducible refine (S4.out _ ?_).mono ?_)); (first | assumption | exact And.left ‹Bl W2 _ ∧ _›); rintro e w1 ⟨rfl, hb⟩))
  all_goals (try go_wp2)
  all_goals go_ret
  exact ⟨rfl, by first | assumption | exact And.left ‹Bl W2 _ ∧ _›⟩

/-! The values. -/
theorem part_all (w a m n : Nat) (h : n + m + a ≤ 32) : getN w a (m + n : Nat) = 2 ^ m * getN w (a + m : Nat) n + getN w a m := by
  rw [getN_eq w a (m + n) (by omega), getN_eq w (a + m) n (by omega), getN_eq w a m (by omega), Nat.pow_add, Nat.pow_add, Nat.mod_mul, ← Nat.div_div_eq_div_mul]
  omega
theorem part_or (w a m n : Nat) (h : n + m + a ≤ 32) : bits .or .u64 (IntKind.u64.wrap ((getN w (a + m : Nat) n : Int) * 2 ^ m)) (getN w a m) = (getN w a (m + n : Nat) : Int) := by
  have hl : getN w a m < 2 ^ m := by rw [getN_eq w a m (by omega)]; exact Nat.mod_lt _ (Nat.two_pow_pos m)
  have e := part_all w a m n h
  have ha := getN_lt w a (m + n : Nat)
  have e2 : (getN w (a + m : Nat) n : Int) * 2 ^ m = ((2 ^ m * getN w (a + m : Nat) n : Nat) : Int) := by rw [Int.natCast_mul, Int.mul_comm]; simp
  have e3 : IntKind.u64.wrap ((2 ^ m * getN w (a + m : Nat) n : Nat) : Int) = ((2 ^ m * getN w (a + m : Nat) n : Nat) : Int) := by
    rw [wrapU]
    generalize 2 ^ m * getN w (a + m : Nat) n = t at *
    omega
  rw [e2, e3, u64_or_nat _ _ (by generalize 2 ^ m * getN w (a + m : Nat) n = t at *; omega) (by have := getN_lt w a m; omega), ← Nat.two_pow_add_eq_or_of_lt hl, ← e]
theorem set_two (w x0 x1 a m n p : Nat) (h : n + m + a ≤ 32) (hw : w < 4294967296) : (setN (setN w a m x0) (a + m : Nat) n x1).testBit p =
    if a + m ≤ p ∧ p < a + m + n then x1.testBit (p - (a + m)) else if a ≤ p ∧ p < a + m then x0.testBit (p - a) else w.testBit p := by
  rw [setN_bit' _ _ _ _ _ (by omega) (setN_lt _ _ _ _), setN_bit' _ _ _ _ _ (by omega) hw]
theorem set_swap (w x0 x1 a m n : Nat) (h : n + m + a ≤ 32) (hw : w < 4294967296) : setN (setN w (a + m : Nat) n x1) a m x0 = setN (setN w a m x0) (a + m : Nat) n x1 := by
  apply Nat.eq_of_testBit_eq
  intro p
  rw [set_two _ _ _ _ _ _ _ h hw, setN_bit' _ _ _ _ _ (by omega) (setN_lt _ _ _ _), setN_bit' _ _ _ _ _ (by omega) hw]
  by_cases h1 : a + m ≤ p ∧ p < a + m + n
  · rw [if_pos h1, if_pos h1, if_neg (by omega)]
  · rw [if_neg h1, if_neg h1]
theorem part_low (w x0 x1 a m n : Nat) (h : n + m + a ≤ 32) (hw : w < 4294967296) : getN (setN (setN w a m x0) (a + m : Nat) n x1) a m = getN x0 (0 : Nat) m := by
  apply Nat.eq_of_testBit_eq
  intro p
  rw [getN_bit' _ _ _ _ (by omega), getN_bit' _ _ _ _ (by omega), set_two _ _ _ _ _ _ _ h hw]
  by_cases hp : p < m
  · rw [if_neg (by omega), if_pos (by omega), Nat.add_sub_cancel]; rfl
  · rw [decide_eq_false hp]; simp
theorem part_high (w x0 x1 a m n : Nat) (h : n + m + a ≤ 32) (hw : w < 4294967296) : getN (setN (setN w a m x0) (a + m : Nat) n x1) (a + m : Nat) n = getN x1 (0 : Nat) n := by
  apply Nat.eq_of_testBit_eq
  intro p
  rw [getN_bit' _ _ _ _ (by omega), getN_bit' _ _ _ _ (by omega), set_two _ _ _ _ _ _ _ h hw]
  by_cases hp : p < n
  · rw [if_pos (by omega), Nat.add_sub_cancel]; rfl
  · rw [decide_eq_false hp]; simp

theorem below_three {W w1 : World} {o o' : Obj} (h : Below ((W.alloc o).alloc o').heap.size ((W.alloc o).alloc o') w1) : Below W.heap.size W w1 :=
  (below_two W o o' (Below.refl _ _)).trans ⟨h.os, h.tape, h.output, h.size, fun i hi => h.block i (by simp; omega)⟩
theorem get_d (W : World) (x : Nat) (a n : Int) (r : Nat) (hx : x < 4294967296) (h4 : n ≤ 9223372036854775807) (hr : getN x a n = r) :
    Field.Aside (∀ w, Bl W w → Calls Try.prog 10 #[.int .u32 x, .int .i64 a, .int .i64 n] w fun e w' => e = .returned (.int .u32 r) ∧ Bl W w') :=
  get_c W x a n r hx h4 (by rw [hr])
theorem set_d (W : World) (o : Nat) (a n : Int) (x : Nat) (r : Nat) (ho : o < 4294967296) (hx : x < 4294967296) (h4 : n ≤ 9223372036854775807) (hr : setN o a n x = r) :
    Field.Aside (∀ w, Bl W w → Calls Try.prog 9 #[.int .u32 o, .int .i64 a, .int .i64 n, .int .u32 x] w fun e w' => e = .returned (.int .u32 r) ∧ Bl W w') :=
  set_c W o a n x r ho hx h4 (by rw [hr])

theorem parts_walk (a0 x0 x1 k0 k1 k2 : Int) (W : World) (w0 : (Lit.int .u32 a0).wf = true) (w1 : (Lit.int .u32 x0).wf = true) (w2 : (Lit.int .u32 x1).wf = true) (v0 : (Lit.int .u8 k0).wf = true) (v1 : (Lit.int .u8 k1).wf = true) (v2 : (Lit.int .u8 k2).wf = true) :
    Calls Try.prog 5 #[.int .u32 a0, .agg #[.int .u32 x0, .int .u32 x1], .agg #[.int .u8 k0, .int .u8 k1, .int .u8 k2]] W fun e w' => e = .returned (.bool true) ∧ Below W.heap.size W w' := by
  obtain ⟨p0, q0⟩ := wf32 w0
  obtain ⟨p1, q1⟩ := wf32 w1
  obtain ⟨p2, q2⟩ := wf32 w2
  obtain ⟨p3, q3⟩ := wf8 v0
  obtain ⟨p4, q4⟩ := wf8 v1
  obtain ⟨p5, q5⟩ := wf8 v2
  obtain ⟨w, rfl⟩ := Int.eq_ofNat_of_zero_le p0
  obtain ⟨x0, rfl⟩ := Int.eq_ofNat_of_zero_le p1
  obtain ⟨x1, rfl⟩ := Int.eq_ofNat_of_zero_le p2
  obtain ⟨k0, rfl⟩ := Int.eq_ofNat_of_zero_le p3
  obtain ⟨k1, rfl⟩ := Int.eq_ofNat_of_zero_le p4
  obtain ⟨k2, rfl⟩ := Int.eq_ofNat_of_zero_le p5
  have hw : w < 4294967296 := by omega
  have hx0 : x0 < 4294967296 := by omega
  have hx1 : x1 < 4294967296 := by omega
  obtain ⟨a, ha⟩ : ∃ a, a = k0 % 32 := ⟨_, rfl⟩
  obtain ⟨m, hm⟩ : ∃ m, m = k1 % (33 - a) := ⟨_, rfl⟩
  obtain ⟨n, hn⟩ : ∃ n, n = k2 % (33 - a - m) := ⟨_, rfl⟩
  have ha2 : a ≤ 31 := by omega
  have hm2 : m + a ≤ 32 := by have := Nat.mod_lt k1 (show 0 < 33 - a by omega); omega
  have hn2 : n + m + a ≤ 32 := by have := Nat.mod_lt k2 (show 0 < 33 - a - m by omega); omega
  have e1 : (k1 : Int) % (33 - (a : Int)) = m := by
    rw [show 33 - (a : Int) = ((33 - a : Nat) : Int) by omega, hm]; rfl
  have e2 : (k2 : Int) % (33 - (a : Int) - (m : Int)) = n := by
    rw [show 33 - (a : Int) - (m : Int) = ((33 - a - m : Nat) : Int) by omega, hn]; rfl
  obtain ⟨W2, hW2⟩ : ∃ W2, W2 = (W.alloc (.cells #[.int .u32 x0, .int .u32 x1] 31)).alloc (.cells #[.int .u8 k0, .int .u8 k1, .int .u8 k2] 32) := ⟨_, rfl⟩
  have cam : ((a : Int) + (m : Int)) = ((a + m : Nat) : Int) := by omega
  have cmn : ((m : Int) + (n : Int)) = ((m + n : Nat) : Int) := by omega
  have H := parts_raw w x0 x1 k0 k1 k2 a m n (getN w a (m + n : Nat)) (getN w a m) (getN w (a + m : Nat) n) (getN x0 (0 : Nat) m) (getN x1 (0 : Nat) n) (setN w a m x0) (setN w (a + m : Nat) n x1) (setN (setN w a m x0) (a + m : Nat) n x1) W W2 hw hx0 hx1
    (by omega) (by omega) (by omega) (by omega) ha2 e1 hm2 e2 hn2 ⟨hW2⟩
  rw [cam, cmn] at H
  refine (H (get_d W2 w a (m + n : Nat) _ hw (by omega) rfl) (get_d W2 w a m _ hw (by omega) rfl) (get_d W2 w (a + m : Nat) n _ hw (by omega) rfl)
    (get_d W2 _ a m _ (setN_lt _ _ _ _) (by omega) (part_low w x0 x1 a m n hn2 hw)) (get_d W2 x0 (0 : Nat) m _ hx0 (by omega) rfl)
    (get_d W2 _ (a + m : Nat) n _ (setN_lt _ _ _ _) (by omega) (part_high w x0 x1 a m n hn2 hw)) (get_d W2 x1 (0 : Nat) n _ hx1 (by omega) rfl)
    (set_d W2 w a m x0 _ hw hx0 (by omega) rfl) (set_d W2 _ (a + m : Nat) n x1 _ (setN_lt _ _ _ _) hx1 (by omega) rfl) (set_d W2 w (a + m : Nat) n x1 _ hw hx1 (by omega) rfl)
    (set_d W2 _ a m x0 _ (setN_lt _ _ _ _) hx0 (by omega) (set_swap w x0 x1 a m n hn2 hw))
    (Int.natCast_nonneg _) (by have := getN_lt w a m; omega) (Int.natCast_nonneg _) (by have := getN_lt w (a + m : Nat) n; omega) (Int.natCast_nonneg _) (by have := getN_lt w a (m + n : Nat); omega) ?_).mono ?_
  · rw [part_or w a m n hn2]; simp
  · rintro e w' ⟨rfl, hb⟩
    refine ⟨rfl, ?_⟩
    have hq := hb.out
    rw [hW2] at hq
    exact below_three hq
end Go.Proofs.Ytdafgbehhgojnaa.Laws
