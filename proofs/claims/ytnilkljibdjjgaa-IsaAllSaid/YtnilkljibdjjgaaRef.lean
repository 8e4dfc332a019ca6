/-
  The reference's May and Encode for any instruction: as the program's.
-/
import Derived.Test.YtnilkljibdjjgaaRMayA
import Derived.Test.YtnilkljibdjjgaaRMayB
import Derived.Test.YtnilkljibdjjgaaRMayC
import Derived.Test.YtnilkljibdjjgaaRMayD
import Derived.Test.YtnilkljibdjjgaaEnc
namespace Go.Proofs.Ytnilkljibdjjgaa.Isa
open Go Go.RowKit Go.Proofs.Ytnilkljibdjjgaa.FieldM Go.Proofs.Ytnilkljibdjjgaa.Field

theorem rmay_is (i : Ins) {m : Bool} (h : mayN i = m) : Field.Aside (∀ wx, Calls Try.prog 17 #[i.v] wx fun e w' => e = .returned (.bool m) ∧ Bl wx w') := by
  refine ⟨fun W => ?_⟩
  rw [← h]
  obtain ⟨kd, op, a, b, c, im, u⟩ := i
  by_cases hr : 0 ≤ a ∧ a ≤ 15 ∧ 0 ≤ b ∧ b ≤ 15 ∧ 0 ≤ c ∧ c ≤ 15
  · obtain ⟨a0, a1, b0, b1, c0, c1⟩ := hr
    by_cases hk : 1 ≤ kd ∧ kd ≤ 7
    · rcases (show kd = 1 ∨ kd = 2 ∨ kd = 3 ∨ kd = 4 ∨ kd = 5 ∨ kd = 6 ∨ kd = 7 by omega) with rfl | rfl | rfl | rfl | rfl | rfl | rfl
      · exact rmay_1 op a b c im u W a0 a1 b0 b1 c0 c1
      · exact rmay_2 op a b c im u W a0 a1 b0 b1 c0 c1
      · exact rmay_3 op a b c im u W a0 a1 b0 b1 c0 c1
      · exact rmay_4 op a b c im u W a0 a1 b0 b1 c0 c1
      · exact rmay_5 op a b c im u W a0 a1 b0 b1 c0 c1
      · exact rmay_6 op a b c im u W a0 a1 b0 b1 c0 c1
      · exact rmay_7 op a b c im u W a0 a1 b0 b1 c0 c1
    · exact rmay_o kd op a b c im u W a0 a1 b0 b1 c0 c1 (by omega)
  · exact rmay_r kd op a b c im u W hr

/-! The word, laid by or. -/
theorem or_add {x y : Int} (i : Nat) {d : Int} (hd : ((2 ^ i : Nat) : Int) = d) (x0 : 0 ≤ x) (x1 : x < 4294967296) (hx : x % d = 0) (y0 : 0 ≤ y) (y1 : y < d) (hy : y < 4294967296) : bits .or .u32 x y = x + y := by
  rw [u32_or x y x0 x1 y0 hy, nat_join i x.toNat y.toNat, Int.natCast_add]
  · omega
  · have e : ((x.toNat % 2 ^ i : Nat) : Int) = 0 := by
      rw [Int.natCast_emod, hd, Int.toNat_of_nonneg x0, hx]
    omega
  · have e : ((y.toNat : Nat) : Int) < ((2 ^ i : Nat) : Int) := by rw [hd, Int.toNat_of_nonneg y0]; exact y1
    omega
theorem p28 : ((2 ^ 28 : Nat) : Int) = 268435456 := by decide
theorem p24 : ((2 ^ 24 : Nat) : Int) = 16777216 := by decide
theorem p20 : ((2 ^ 20 : Nat) : Int) = 1048576 := by decide
theorem p16 : ((2 ^ 16 : Nat) : Int) = 65536 := by decide
theorem p29 : ((2 ^ 29 : Nat) : Int) = 536870912 := by decide
theorem p30 : ((2 ^ 30 : Nat) : Int) = 1073741824 := by decide
theorem p31 : ((2 ^ 31 : Nat) : Int) = 2147483648 := by decide
section
variable {op a b c im p : Int} {u : Bool}
theorem ew1 (o0 : 0 ≤ op) (o1 : op ≤ 15) (a0 : 0 ≤ a) (a1 : a ≤ 15) (b0 : 0 ≤ b) (b1 : b ≤ 15) (c0 : 0 ≤ c) (c1 : c ≤ 15) :
    bits .or .u32 (bits .or .u32 (bits .or .u32 (bits .or .u32 (b2i u * 536870912) (a * 16777216)) (b * 1048576)) (op * 65536)) c = (wordN ⟨1, op, a, b, c, im, u⟩ : Int) := by
  have h := b2i_range u
  rw [word1]
  generalize b2i u = p at *
  rw [or_add (x := p * 536870912) (y := a * 16777216) 28 p28 (by omega) (by omega) (by omega) (by omega) (by omega) (by omega)]
  rw [or_add (x := p * 536870912 + a * 16777216) (y := b * 1048576) 24 p24 (by omega) (by omega) (by omega) (by omega) (by omega) (by omega)]
  rw [or_add (x := p * 536870912 + a * 16777216 + b * 1048576) (y := op * 65536) 20 p20 (by omega) (by omega) (by omega) (by omega) (by omega) (by omega)]
  rw [or_add (x := p * 536870912 + a * 16777216 + b * 1048576 + op * 65536) (y := c) 16 p16 (by omega) (by omega) (by omega) (by omega) (by omega) (by omega)]
  omega
theorem ew2 (q : Int) (o0 : 0 ≤ op) (o1 : op ≤ 15) (a0 : 0 ≤ a) (a1 : a ≤ 15) (b0 : 0 ≤ b) (b1 : b ≤ 15) (hq : (im < 0 ∧ q = 268435456) ∨ (¬ im < 0 ∧ q = 0)) :
    bits .or .u32 (bits .or .u32 (bits .or .u32 (bits .or .u32 (bits .or .u32 (bits .or .u32 1073741824 (b2i u * 536870912)) q) (a * 16777216)) (b * 1048576)) (op * 65536)) (im % 65536) = (wordN ⟨2, op, a, b, c, im, u⟩ : Int) := by
  have h := b2i_range u
  rw [word2, b2i_dec]
  generalize b2i u = p at *
  rw [or_add (x := 1073741824) (y := p * 536870912) 30 p30 (by omega) (by omega) (by omega) (by omega) (by omega) (by omega)]
  rw [or_add (x := 1073741824 + p * 536870912) (y := q) 29 p29 (by omega) (by omega) (by omega) (by omega) (by omega) (by omega)]
  rw [or_add (x := 1073741824 + p * 536870912 + q) (y := a * 16777216) 28 p28 (by omega) (by omega) (by omega) (by omega) (by omega) (by omega)]
  rw [or_add (x := 1073741824 + p * 536870912 + q + a * 16777216) (y := b * 1048576) 24 p24 (by omega) (by omega) (by omega) (by omega) (by omega) (by omega)]
  rw [or_add (x := 1073741824 + p * 536870912 + q + a * 16777216 + b * 1048576) (y := op * 65536) 20 p20 (by omega) (by omega) (by omega) (by omega) (by omega) (by omega)]
  rw [or_add (x := 1073741824 + p * 536870912 + q + a * 16777216 + b * 1048576 + op * 65536) (y := im % 65536) 16 p16 (by omega) (by omega) (by omega) (by omega) (by omega) (by omega)]
  split <;> omega
theorem ew3 (a0 : 0 ≤ a) (a1 : a ≤ 15) : bits .or .u32 536870912 (a * 16777216) = (wordN ⟨3, op, a, b, c, im, u⟩ : Int) := by
  rw [word3]
  rw [or_add (x := 536870912) (y := a * 16777216) 29 p29 (by omega) (by omega) (by omega) (by omega) (by omega) (by omega)]
  omega
theorem ew4 (a0 : 0 ≤ a) (a1 : a ≤ 15) : bits .or .u32 805306368 (a * 16777216) = (wordN ⟨4, op, a, b, c, im, u⟩ : Int) := by
  rw [word4]
  rw [or_add (x := 805306368) (y := a * 16777216) 28 p28 (by omega) (by omega) (by omega) (by omega) (by omega) (by omega)]
  omega
theorem ew5 (k x y : Int) (hk : (k = 0 ∧ x = 0 ∧ y = 0) ∨ (k = 1 ∧ x = 0 ∧ y = 268435456) ∨ (k = 2 ∧ x = 536870912 ∧ y = 0) ∨ (k = 3 ∧ x = 536870912 ∧ y = 268435456)) (a0 : 0 ≤ a) (a1 : a ≤ 15) (b0 : 0 ≤ b) (b1 : b ≤ 15) :
    bits .or .u32 (bits .or .u32 (bits .or .u32 (bits .or .u32 (bits .or .u32 2147483648 x) y) (a * 16777216)) (b * 1048576)) (im % 1048576) = (wordN ⟨5, k, a, b, c, im, u⟩ : Int) := by
  have e2 : b2i (k % 2 == 1) = k % 2 := by
    rcases (show k % 2 = 0 ∨ k % 2 = 1 by omega) with h | h <;> rw [h] <;> rfl
  rw [word5, b2i_dec, e2]
  clear e2
  rw [or_add (x := 2147483648) (y := x) 31 p31 (by omega) (by omega) (by omega) (by omega) (by omega) (by omega)]
  rw [or_add (x := 2147483648 + x) (y := y) 29 p29 (by omega) (by omega) (by omega) (by omega) (by omega) (by omega)]
  rw [or_add (x := 2147483648 + x + y) (y := a * 16777216) 28 p28 (by omega) (by omega) (by omega) (by omega) (by omega) (by omega)]
  rw [or_add (x := 2147483648 + x + y + a * 16777216) (y := b * 1048576) 24 p24 (by omega) (by omega) (by omega) (by omega) (by omega) (by omega)]
  rw [or_add (x := 2147483648 + x + y + a * 16777216 + b * 1048576) (y := im % 1048576) 20 p20 (by omega) (by omega) (by omega) (by omega) (by omega) (by omega)]
  split <;> omega
theorem ew6 (o0 : 0 ≤ op) (o1 : op ≤ 15) (c0 : 0 ≤ c) (c1 : c ≤ 15) :
    bits .or .u32 (bits .or .u32 (bits .or .u32 3221225472 (b2i u * 268435456)) (op * 16777216)) c = (wordN ⟨6, op, a, b, c, im, u⟩ : Int) := by
  have h := b2i_range u
  rw [word6]
  generalize b2i u = p at *
  rw [or_add (x := 3221225472) (y := p * 268435456) 29 p29 (by omega) (by omega) (by omega) (by omega) (by omega) (by omega)]
  rw [or_add (x := 3221225472 + p * 268435456) (y := op * 16777216) 28 p28 (by omega) (by omega) (by omega) (by omega) (by omega) (by omega)]
  rw [or_add (x := 3221225472 + p * 268435456 + op * 16777216) (y := c) 24 p24 (by omega) (by omega) (by omega) (by omega) (by omega) (by omega)]
  omega
theorem ew7 (o0 : 0 ≤ op) (o1 : op ≤ 15) :
    bits .or .u32 (bits .or .u32 (bits .or .u32 3758096384 (b2i u * 268435456)) (op * 16777216)) (im % 16777216) = (wordN ⟨7, op, a, b, c, im, u⟩ : Int) := by
  have h := b2i_range u
  rw [word7]
  generalize b2i u = p at *
  rw [or_add (x := 3758096384) (y := p * 268435456) 29 p29 (by omega) (by omega) (by omega) (by omega) (by omega) (by omega)]
  rw [or_add (x := 3758096384 + p * 268435456) (y := op * 16777216) 28 p28 (by omega) (by omega) (by omega) (by omega) (by omega) (by omega)]
  rw [or_add (x := 3758096384 + p * 268435456 + op * 16777216) (y := im % 16777216) 24 p24 (by omega) (by omega) (by omega) (by omega) (by omega) (by omega)]
  omega
end

theorem one_is (u : Bool) : Field.Aside (∀ wx, Calls Try.prog 22 #[.bool u] wx fun e w' => e = .returned (.int .u32 (b2i u)) ∧ w' = wx) := ⟨fun wx => rone_any u wx⟩
set_option maxHeartbeats 4000000 in
theorem rencode_ok (i : Ins) (h : mayN i = true) : Field.Aside (∀ wx, Calls Try.prog 13 #[i.v] wx fun e w' => e = .returned (.tuple #[.int .u32 (wordN i), .int .i64 0]) ∧ Bl wx w') := by
  refine ⟨fun W => ?_⟩
  have hb := may_bounds h
  have hf := may_fields h
  have MY := rmay_is i h
  obtain ⟨kd, op, a, b, c, im, u⟩ := i
  have hr := may_iff.1 h
  have hp := b2i_range u
  have O1 := one_is u
  have OT := one_is true
  have OF := one_is false
  dsimp only [Ins.v] at *
  rcases (show kd = 1 ∨ kd = 2 ∨ kd = 3 ∨ kd = 4 ∨ kd = 5 ∨ kd = 6 ∨ kd = 7 by omega) with rfl | rfl | rfl | rfl | rfl | rfl | rfl
  · rw [← ew1 hb.2.2.1 hb.2.2.2 hf.1 hf.2.1 hf.2.2.1 hf.2.2.2.1 hf.2.2.2.2.1 hf.2.2.2.2.2.1]
    exact renc_1 op a b c im (b2i u) u W hb.2.2.1 hb.2.2.2 hf.1 hf.2.1 hf.2.2.1 hf.2.2.2.1 hf.2.2.2.2.1 hf.2.2.2.2.2.1 hp.1 hp.2 MY O1
  · by_cases hm : im < 0
    · rw [← ew2 268435456 hb.2.2.1 hb.2.2.2 hf.1 hf.2.1 hf.2.2.1 hf.2.2.2.1 (Or.inl ⟨hm, rfl⟩)]
      exact renc_2a op a b c im (b2i u) u W hb.2.2.1 hb.2.2.2 hf.1 hf.2.1 hf.2.2.1 hf.2.2.2.1 hf.2.2.2.2.1 hf.2.2.2.2.2.1 hp.1 hp.2 (decide_eq_true hm) OT OF MY O1
    · rw [← ew2 0 hb.2.2.1 hb.2.2.2 hf.1 hf.2.1 hf.2.2.1 hf.2.2.2.1 (Or.inr ⟨hm, rfl⟩)]
      exact renc_2b op a b c im (b2i u) u W hb.2.2.1 hb.2.2.2 hf.1 hf.2.1 hf.2.2.1 hf.2.2.2.1 hf.2.2.2.2.1 hf.2.2.2.2.2.1 hp.1 hp.2 (decide_eq_false hm) OT OF MY O1
  · rw [← ew3 hf.1 hf.2.1]
    exact renc_3 op a b c im (b2i u) u W hb.2.2.1 hb.2.2.2 hf.1 hf.2.1 hf.2.2.1 hf.2.2.2.1 hf.2.2.2.2.1 hf.2.2.2.2.2.1 hp.1 hp.2 MY O1
  · rw [← ew4 hf.1 hf.2.1]
    exact renc_4 op a b c im (b2i u) u W hb.2.2.1 hb.2.2.2 hf.1 hf.2.1 hf.2.2.1 hf.2.2.2.1 hf.2.2.2.2.1 hf.2.2.2.2.2.1 hp.1 hp.2 MY O1
  · have ho : op = 0 ∨ op = 1 ∨ op = 2 ∨ op = 3 := by
      obtain ⟨_, _, _, _, _, _, q⟩ := hr
      omega
    clear hr h hb
    rcases ho with rfl | rfl | rfl | rfl
    · rw [← ew5 0 0 0 (Or.inl ⟨rfl, rfl, rfl⟩) hf.1 hf.2.1 hf.2.2.1 hf.2.2.2.1]
      exact renc_5a a b c im (b2i u) u W hf.1 hf.2.1 hf.2.2.1 hf.2.2.2.1 hf.2.2.2.2.1 hf.2.2.2.2.2.1 hp.1 hp.2 OT OF MY O1
    · rw [← ew5 1 0 268435456 (Or.inr (Or.inl ⟨rfl, rfl, rfl⟩)) hf.1 hf.2.1 hf.2.2.1 hf.2.2.2.1]
      exact renc_5b a b c im (b2i u) u W hf.1 hf.2.1 hf.2.2.1 hf.2.2.2.1 hf.2.2.2.2.1 hf.2.2.2.2.2.1 hp.1 hp.2 OT OF MY O1
    · rw [← ew5 2 536870912 0 (Or.inr (Or.inr (Or.inl ⟨rfl, rfl, rfl⟩))) hf.1 hf.2.1 hf.2.2.1 hf.2.2.2.1]
      exact renc_5c a b c im (b2i u) u W hf.1 hf.2.1 hf.2.2.1 hf.2.2.2.1 hf.2.2.2.2.1 hf.2.2.2.2.2.1 hp.1 hp.2 OT OF MY O1
    · rw [← ew5 3 536870912 268435456 (Or.inr (Or.inr (Or.inr ⟨rfl, rfl, rfl⟩))) hf.1 hf.2.1 hf.2.2.1 hf.2.2.2.1]
      exact renc_5d a b c im (b2i u) u W hf.1 hf.2.1 hf.2.2.1 hf.2.2.2.1 hf.2.2.2.2.1 hf.2.2.2.2.2.1 hp.1 hp.2 OT OF MY O1
  · rw [← ew6 hb.2.2.1 hb.2.2.2 hf.2.2.2.2.1 hf.2.2.2.2.2.1]
    exact renc_6 op a b c im (b2i u) u W hb.2.2.1 hb.2.2.2 hf.1 hf.2.1 hf.2.2.1 hf.2.2.2.1 hf.2.2.2.2.1 hf.2.2.2.2.2.1 hp.1 hp.2 MY O1
  · rw [← ew7 hb.2.2.1 hb.2.2.2]
    exact renc_7 op a b c im (b2i u) u W hb.2.2.1 hb.2.2.2 hf.1 hf.2.1 hf.2.2.1 hf.2.2.2.1 hf.2.2.2.2.1 hf.2.2.2.2.2.1 hp.1 hp.2 MY O1
set_option maxRecDepth 100000 in
set_option maxHeartbeats 4000000 in
theorem renc_no (kd op a b c im : Int) (u : Bool) (W : World)
   (MY : Field.Aside (∀ wx, Calls Try.prog 17 #[.agg #[.int .i64 kd, .int .i64 op, .int .i64 a, .int .i64 b, .int .i64 c, .int .i64 im, .bool u]] wx fun e w' => e = .returned (.bool false) ∧ Bl wx w')) :
   Calls Try.prog 13 #[.agg #[.int .i64 kd, .int .i64 op, .int .i64 a, .int .i64 b, .int .i64 c, .int .i64 im, .bool u]] W fun e w' => e = .returned (.tuple #[.int .u32 0, .int .i64 1]) ∧ Bl W w' := by
  go_enter Try.func13, Try.ntmps13
  go_wp2_with fail
  refine (MY.out _).mono ?_
  rintro e w1 ⟨rfl, k1⟩
  have K1 := Field.Aside.mk (((Bl.refl W).alloc (.cells #[.int .i64 kd, .int .i64 op, .int .i64 a, .int .i64 b, .int .i64 c, .int .i64 im, .bool u] 23)).then k1.out)
  clear k1
  go_wp2_with fail
  go_ret2
  exact ⟨rfl, K1.out⟩
theorem rencode_bad (i : Ins) (h : mayN i = false) : Field.Aside (∀ wx, Calls Try.prog 13 #[i.v] wx fun e w' => e = .returned (.tuple #[.int .u32 0, .int .i64 1]) ∧ Bl wx w') :=
  ⟨fun W => renc_no i.kd i.op i.a i.b i.c i.im i.u W (rmay_is i h)⟩
end Go.Proofs.Ytnilkljibdjjgaa.Isa
