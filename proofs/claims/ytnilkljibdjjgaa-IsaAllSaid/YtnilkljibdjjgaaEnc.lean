/-
  The reference's Encode, kind by kind.
-/
import Derived.Test.YtnilkljibdjjgaaRMay
import Derived.BigQuiet
import Derived.Deep.QuietTactic
namespace Go.Proofs.Ytnilkljibdjjgaa.Isa
open Go Go.RowKit Go.Proofs.Ytnilkljibdjjgaa.FieldM Go.Proofs.Ytnilkljibdjjgaa.Field
set_option linter.unusedVariables false

theorem below_dN (w : World) (n : Nat) : Below w.heap.size w (w.drewN n) := by
  induction n with
  | zero => exact Below.refl _ _
  | succ n ih => rw [← World.drew_drewN]; exact ih.drew

set_option maxRecDepth 100000 in
set_option maxHeartbeats 4000000 in
theorem renc_1 (op a b c im p : Int) (u : Bool) (W : World) (_o0 : 0 ≤ op) (_o1 : op ≤ 15) (_a0 : 0 ≤ a) (_a1 : a ≤ 15) (_b0 : 0 ≤ b) (_b1 : b ≤ 15) (_c0 : 0 ≤ c) (_c1 : c ≤ 15) (_p0 : 0 ≤ p) (_p1 : p ≤ 1)
   (MY : Field.Aside (∀ wx, Calls Try.prog 17 #[.agg #[.int .i64 1, .int .i64 op, .int .i64 a, .int .i64 b, .int .i64 c, .int .i64 im, .bool u]] wx fun e w' => e = .returned (.bool true) ∧ Bl wx w'))
   (O1 : Field.Aside (∀ wx, Calls Try.prog 22 #[.bool u] wx fun e w' => e = .returned (.int .u32 p) ∧ w' = wx)) :
   Calls Try.prog 13 #[.agg #[.int .i64 1, .int .i64 op, .int .i64 a, .int .i64 b, .int .i64 c, .int .i64 im, .bool u]] W fun e w' => e = .returned (.tuple #[.int .u32 (bits .or .u32 (bits .or .u32 (bits .or .u32 (bits .or .u32 (p * 536870912) (a * 16777216)) (b * 1048576)) (op * 65536)) c), .int .i64 0]) ∧ Bl W w' := by
  obtain ⟨W1, hW1⟩ : ∃ W1, W1 = W.alloc (.cells #[.int .i64 1, .int .i64 op, .int .i64 a, .int .i64 b, .int .i64 c, .int .i64 im, .bool u] 23) := ⟨_, rfl⟩
  have HWB : Field.Aside (Bl W W1) := ⟨by rw [hW1]; exact (Bl.refl _).alloc _⟩
  have RZ : Field.Aside (IBox W.heap.size 1 op a b c im u W1) := ⟨by rw [hW1]; exact IBox.new W 1 op a b c im u _⟩
  have HW := Field.Aside.mk hW1
  clear hW1
  go_enter Try.func13, Try.ntmps13
  go_wp2_with fail
  rw [← HW.out]
  refine (MY.out _).mono ?_
  rintro e w1 ⟨rfl, k1⟩
  obtain ⟨i0, i1, i2, i3, i4, i5, i6, fz⟩ := RZ.out.keep k1
  have K1 := Field.Aside.mk (HWB.out.then k1.out)
  clear k1 fz
  go_wp2_with fail
  refine (O1.out _).mono ?_
  rintro e w2 ⟨rfl, rfl⟩
  go_wp2_with fail
  go_ret2
  exact ⟨rfl, K1.out⟩

set_option maxRecDepth 100000 in
set_option maxHeartbeats 4000000 in
theorem renc_3 (op a b c im p : Int) (u : Bool) (W : World) (_o0 : 0 ≤ op) (_o1 : op ≤ 15) (_a0 : 0 ≤ a) (_a1 : a ≤ 15) (_b0 : 0 ≤ b) (_b1 : b ≤ 15) (_c0 : 0 ≤ c) (_c1 : c ≤ 15) (_p0 : 0 ≤ p) (_p1 : p ≤ 1)
   (MY : Field.Aside (∀ wx, Calls Try.prog 17 #[.agg #[.int .i64 3, .int .i64 op, .int .i64 a, .int .i64 b, .int .i64 c, .int .i64 im, .bool u]] wx fun e w' => e = .returned (.bool true) ∧ Bl wx w'))
   (O1 : Field.Aside (∀ wx, Calls Try.prog 22 #[.bool u] wx fun e w' => e = .returned (.int .u32 p) ∧ w' = wx)) :
   Calls Try.prog 13 #[.agg #[.int .i64 3, .int .i64 op, .int .i64 a, .int .i64 b, .int .i64 c, .int .i64 im, .bool u]] W fun e w' => e = .returned (.tuple #[.int .u32 (bits .or .u32 536870912 (a * 16777216)), .int .i64 0]) ∧ Bl W w' := by
  obtain ⟨W1, hW1⟩ : ∃ W1, W1 = W.alloc (.cells #[.int .i64 3, .int .i64 op, .int .i64 a, .int .i64 b, .int .i64 c, .int .i64 im, .bool u] 23) := ⟨_, rfl⟩
  have HWB : Field.Aside (Bl W W1) := ⟨by rw [hW1]; exact (Bl.refl _).alloc _⟩
  have RZ : Field.Aside (IBox W.heap.size 3 op a b c im u W1) := ⟨by rw [hW1]; exact IBox.new W 3 op a b c im u _⟩
  have HW := Field.Aside.mk hW1
  clear hW1
  go_enter Try.func13, Try.ntmps13
  go_wp2_with fail
  rw [← HW.out]
  refine (MY.out _).mono ?_
  rintro e w1 ⟨rfl, k1⟩
  obtain ⟨i0, i1, i2, i3, i4, i5, i6, fz⟩ := RZ.out.keep k1
  have K1 := Field.Aside.mk (HWB.out.then k1.out)
  clear k1 fz
  go_wp2_with fail
  refine (O1.out _).mono ?_
  rintro e w2 ⟨rfl, rfl⟩
  go_wp2_with fail
  go_ret2
  exact ⟨rfl, K1.out⟩

set_option maxRecDepth 100000 in
set_option maxHeartbeats 4000000 in
theorem renc_4 (op a b c im p : Int) (u : Bool) (W : World) (_o0 : 0 ≤ op) (_o1 : op ≤ 15) (_a0 : 0 ≤ a) (_a1 : a ≤ 15) (_b0 : 0 ≤ b) (_b1 : b ≤ 15) (_c0 : 0 ≤ c) (_c1 : c ≤ 15) (_p0 : 0 ≤ p) (_p1 : p ≤ 1)
   (MY : Field.Aside (∀ wx, Calls Try.prog 17 #[.agg #[.int .i64 4, .int .i64 op, .int .i64 a, .int .i64 b, .int .i64 c, .int .i64 im, .bool u]] wx fun e w' => e = .returned (.bool true) ∧ Bl wx w'))
   (O1 : Field.Aside (∀ wx, Calls Try.prog 22 #[.bool u] wx fun e w' => e = .returned (.int .u32 p) ∧ w' = wx)) :
   Calls Try.prog 13 #[.agg #[.int .i64 4, .int .i64 op, .int .i64 a, .int .i64 b, .int .i64 c, .int .i64 im, .bool u]] W fun e w' => e = .returned (.tuple #[.int .u32 (bits .or .u32 805306368 (a * 16777216)), .int .i64 0]) ∧ Bl W w' := by
  obtain ⟨W1, hW1⟩ : ∃ W1, W1 = W.alloc (.cells #[.int .i64 4, .int .i64 op, .int .i64 a, .int .i64 b, .int .i64 c, .int .i64 im, .bool u] 23) := ⟨_, rfl⟩
  have HWB : Field.Aside (Bl W W1) := ⟨by rw [hW1]; exact (Bl.refl _).alloc _⟩
  have RZ : Field.Aside (IBox W.heap.size 4 op a b c im u W1) := ⟨by rw [hW1]; exact IBox.new W 4 op a b c im u _⟩
  have HW := Field.Aside.mk hW1
  clear hW1
  go_enter Try.func13, Try.ntmps13
  go_wp2_with fail
  rw [← HW.out]
  refine (MY.out _).mono ?_
  rintro e w1 ⟨rfl, k1⟩
  obtain ⟨i0, i1, i2, i3, i4, i5, i6, fz⟩ := RZ.out.keep k1
  have K1 := Field.Aside.mk (HWB.out.then k1.out)
  clear k1 fz
  go_wp2_with fail
  refine (O1.out _).mono ?_
  rintro e w2 ⟨rfl, rfl⟩
  go_wp2_with fail
  go_ret2
  exact ⟨rfl, K1.out⟩

set_option maxRecDepth 100000 in
set_option maxHeartbeats 4000000 in
theorem renc_6 (op a b c im p : Int) (u : Bool) (W : World) (_o0 : 0 ≤ op) (_o1 : op ≤ 15) (_a0 : 0 ≤ a) (_a1 : a ≤ 15) (_b0 : 0 ≤ b) (_b1 : b ≤ 15) (_c0 : 0 ≤ c) (_c1 : c ≤ 15) (_p0 : 0 ≤ p) (_p1 : p ≤ 1)
   (MY : Field.Aside (∀ wx, Calls Try.prog 17 #[.agg #[.int .i64 6, .int .i64 op, .int .i64 a, .int .i64 b, .int .i64 c, .int .i64 im, .bool u]] wx fun e w' => e = .returned (.bool true) ∧ Bl wx w'))
   (O1 : Field.Aside (∀ wx, Calls Try.prog 22 #[.bool u] wx fun e w' => e = .returned (.int .u32 p) ∧ w' = wx)) :
   Calls Try.prog 13 #[.agg #[.int .i64 6, .int .i64 op, .int .i64 a, .int .i64 b, .int .i64 c, .int .i64 im, .bool u]] W fun e w' => e = .returned (.tuple #[.int .u32 (bits .or .u32 (bits .or .u32 (bits .or .u32 3221225472 (p * 268435456)) (op * 16777216)) c), .int .i64 0]) ∧ Bl W w' := by
  obtain ⟨W1, hW1⟩ : ∃ W1, W1 = W.alloc (.cells #[.int .i64 6, .int .i64 op, .int .i64 a, .int .i64 b, .int .i64 c, .int .i64 im, .bool u] 23) := ⟨_, rfl⟩
  have HWB : Field.Aside (Bl W W1) := ⟨by rw [hW1]; exact (Bl.refl _).alloc _⟩
  have RZ : Field.Aside (IBox W.heap.size 6 op a b c im u W1) := ⟨by rw [hW1]; exact IBox.new W 6 op a b c im u _⟩
  have HW := Field.Aside.mk hW1
  clear hW1
  go_enter Try.func13, Try.ntmps13
  go_wp2_with fail
  rw [← HW.out]
  refine (MY.out _).mono ?_
  rintro e w1 ⟨rfl, k1⟩
  obtain ⟨i0, i1, i2, i3, i4, i5, i6, fz⟩ := RZ.out.keep k1
  have K1 := Field.Aside.mk (HWB.out.then k1.out)
  clear k1 fz
  go_wp2_with fail
  refine (O1.out _).mono ?_
  rintro e w2 ⟨rfl, rfl⟩
  go_wp2_with fail
  go_ret2
  exact ⟨rfl, K1.out⟩

set_option maxRecDepth 100000 in
set_option maxHeartbeats 4000000 in
theorem renc_7 (op a b c im p : Int) (u : Bool) (W : World) (_o0 : 0 ≤ op) (_o1 : op ≤ 15) (_a0 : 0 ≤ a) (_a1 : a ≤ 15) (_b0 : 0 ≤ b) (_b1 : b ≤ 15) (_c0 : 0 ≤ c) (_c1 : c ≤ 15) (_p0 : 0 ≤ p) (_p1 : p ≤ 1)
   (MY : Field.Aside (∀ wx, Calls Try.prog 17 #[.agg #[.int .i64 7, .int .i64 op, .int .i64 a, .int .i64 b, .int .i64 c, .int .i64 im, .bool u]] wx fun e w' => e = .returned (.bool true) ∧ Bl wx w'))
   (O1 : Field.Aside (∀ wx, Calls Try.prog 22 #[.bool u] wx fun e w' => e = .returned (.int .u32 p) ∧ w' = wx)) :
   Calls Try.prog 13 #[.agg #[.int .i64 7, .int .i64 op, .int .i64 a, .int .i64 b, .int .i64 c, .int .i64 im, .bool u]] W fun e w' => e = .returned (.tuple #[.int .u32 (bits .or .u32 (bits .or .u32 (bits .or .u32 3758096384 (p * 268435456)) (op * 16777216)) (im % 16777216)), .int .i64 0]) ∧ Bl W w' := by
  obtain ⟨W1, hW1⟩ : ∃ W1, W1 = W.alloc (.cells #[.int .i64 7, .int .i64 op, .int .i64 a, .int .i64 b, .int .i64 c, .int .i64 im, .bool u] 23) := ⟨_, rfl⟩
  have HWB : Field.Aside (Bl W W1) := ⟨by rw [hW1]; exact (Bl.refl _).alloc _⟩
  have RZ : Field.Aside (IBox W.heap.size 7 op a b c im u W1) := ⟨by rw [hW1]; exact IBox.new W 7 op a b c im u _⟩
  have HW := Field.Aside.mk hW1
  clear hW1
  go_enter Try.func13, Try.ntmps13
  go_wp2_with fail
  rw [← HW.out]
  refine (MY.out _).mono ?_
  rintro e w1 ⟨rfl, k1⟩
  obtain ⟨i0, i1, i2, i3, i4, i5, i6, fz⟩ := RZ.out.keep k1
  have K1 := Field.Aside.mk (HWB.out.then k1.out)
  clear k1 fz
  go_wp2_with fail
  refine (O1.out _).mono ?_
  rintro e w2 ⟨rfl, rfl⟩
  go_wp2_with fail
  go_ret2
  exact ⟨rfl, K1.out⟩

set_option maxRecDepth 100000 in
set_option maxHeartbeats 4000000 in
theorem renc_2a (op a b c im p : Int) (u : Bool) (W : World) (_o0 : 0 ≤ op) (_o1 : op ≤ 15) (_a0 : 0 ≤ a) (_a1 : a ≤ 15) (_b0 : 0 ≤ b) (_b1 : b ≤ 15) (_c0 : 0 ≤ c) (_c1 : c ≤ 15) (_p0 : 0 ≤ p) (_p1 : p ≤ 1) (_m : decide (im < 0) = true)
   (OT : Field.Aside (∀ wx, Calls Try.prog 22 #[.bool true] wx fun e w' => e = .returned (.int .u32 1) ∧ w' = wx))
   (OF : Field.Aside (∀ wx, Calls Try.prog 22 #[.bool false] wx fun e w' => e = .returned (.int .u32 0) ∧ w' = wx))
   (MY : Field.Aside (∀ wx, Calls Try.prog 17 #[.agg #[.int .i64 2, .int .i64 op, .int .i64 a, .int .i64 b, .int .i64 c, .int .i64 im, .bool u]] wx fun e w' => e = .returned (.bool true) ∧ Bl wx w'))
   (O1 : Field.Aside (∀ wx, Calls Try.prog 22 #[.bool u] wx fun e w' => e = .returned (.int .u32 p) ∧ w' = wx)) :
   Calls Try.prog 13 #[.agg #[.int .i64 2, .int .i64 op, .int .i64 a, .int .i64 b, .int .i64 c, .int .i64 im, .bool u]] W fun e w' => e = .returned (.tuple #[.int .u32 (bits .or .u32 (bits .or .u32 (bits .or .u32 (bits .or .u32 (bits .or .u32 (bits .or .u32 1073741824 (p * 536870912)) 268435456) (a * 16777216)) (b * 1048576)) (op * 65536)) (im % 65536)), .int .i64 0]) ∧ Bl W w' := by
  obtain ⟨W1, hW1⟩ : ∃ W1, W1 = W.alloc (.cells #[.int .i64 2, .int .i64 op, .int .i64 a, .int .i64 b, .int .i64 c, .int .i64 im, .bool u] 23) := ⟨_, rfl⟩
  have HWB : Field.Aside (Bl W W1) := ⟨by rw [hW1]; exact (Bl.refl _).alloc _⟩
  have RZ : Field.Aside (IBox W.heap.size 2 op a b c im u W1) := ⟨by rw [hW1]; exact IBox.new W 2 op a b c im u _⟩
  have HW := Field.Aside.mk hW1
  clear hW1
  go_enter Try.func13, Try.ntmps13
  go_wp2_with fail
  rw [← HW.out]
  refine (MY.out _).mono ?_
  rintro e w1 ⟨rfl, k1⟩
  obtain ⟨i0, i1, i2, i3, i4, i5, i6, fz⟩ := RZ.out.keep k1
  have K1 := Field.Aside.mk (HWB.out.then k1.out)
  clear k1 fz
  go_wp2_with fail
  refine (O1.out _).mono ?_
  rintro e w2 ⟨rfl, rfl⟩
  go_wp2_with fail
  have t1 : Int.tmod (im % 4294967296) 65536 = im % 65536 := by rw [Int.tmod_eq_emod_of_nonneg (by omega)]; omega
  have t2 : im % 4294967296 % 65536 = im % 65536 := by omega
  go_quiet ((first | (go_at_call 22; exact Calls.quiet_of_same (OT.out _)) | (go_at_call 22; exact Calls.quiet_of_same (OF.out _))))
  go_wp2
  go_ret2
  exact ⟨rfl, K1.out.then (below_dN _ _)⟩

set_option maxRecDepth 100000 in
set_option maxHeartbeats 4000000 in
theorem renc_2b (op a b c im p : Int) (u : Bool) (W : World) (_o0 : 0 ≤ op) (_o1 : op ≤ 15) (_a0 : 0 ≤ a) (_a1 : a ≤ 15) (_b0 : 0 ≤ b) (_b1 : b ≤ 15) (_c0 : 0 ≤ c) (_c1 : c ≤ 15) (_p0 : 0 ≤ p) (_p1 : p ≤ 1) (_m : decide (im < 0) = false)
   (OT : Field.Aside (∀ wx, Calls Try.prog 22 #[.bool true] wx fun e w' => e = .returned (.int .u32 1) ∧ w' = wx))
   (OF : Field.Aside (∀ wx, Calls Try.prog 22 #[.bool false] wx fun e w' => e = .returned (.int .u32 0) ∧ w' = wx))
   (MY : Field.Aside (∀ wx, Calls Try.prog 17 #[.agg #[.int .i64 2, .int .i64 op, .int .i64 a, .int .i64 b, .int .i64 c, .int .i64 im, .bool u]] wx fun e w' => e = .returned (.bool true) ∧ Bl wx w'))
   (O1 : Field.Aside (∀ wx, Calls Try.prog 22 #[.bool u] wx fun e w' => e = .returned (.int .u32 p) ∧ w' = wx)) :
   Calls Try.prog 13 #[.agg #[.int .i64 2, .int .i64 op, .int .i64 a, .int .i64 b, .int .i64 c, .int .i64 im, .bool u]] W fun e w' => e = .returned (.tuple #[.int .u32 (bits .or .u32 (bits .or .u32 (bits .or .u32 (bits .or .u32 (bits .or .u32 (bits .or .u32 1073741824 (p * 536870912)) 0) (a * 16777216)) (b * 1048576)) (op * 65536)) (im % 65536)), .int .i64 0]) ∧ Bl W w' := by
  obtain ⟨W1, hW1⟩ : ∃ W1, W1 = W.alloc (.cells #[.int .i64 2, .int .i64 op, .int .i64 a, .int .i64 b, .int .i64 c, .int .i64 im, .bool u] 23) := ⟨_, rfl⟩
  have HWB : Field.Aside (Bl W W1) := ⟨by rw [hW1]; exact (Bl.refl _).alloc _⟩
  have RZ : Field.Aside (IBox W.heap.size 2 op a b c im u W1) := ⟨by rw [hW1]; exact IBox.new W 2 op a b c im u _⟩
  have HW := Field.Aside.mk hW1
  clear hW1
  go_enter Try.func13, Try.ntmps13
  go_wp2_with fail
  rw [← HW.out]
  refine (MY.out _).mono ?_
  rintro e w1 ⟨rfl, k1⟩
  obtain ⟨i0, i1, i2, i3, i4, i5, i6, fz⟩ := RZ.out.keep k1
  have K1 := Field.Aside.mk (HWB.out.then k1.out)
  clear k1 fz
  go_wp2_with fail
  refine (O1.out _).mono ?_
  rintro e w2 ⟨rfl, rfl⟩
  go_wp2_with fail
  have t1 : Int.tmod (im % 4294967296) 65536 = im % 65536 := by rw [Int.tmod_eq_emod_of_nonneg (by omega)]; omega
  have t2 : im % 4294967296 % 65536 = im % 65536 := by omega
  go_quiet ((first | (go_at_call 22; exact Calls.quiet_of_same (OT.out _)) | (go_at_call 22; exact Calls.quiet_of_same (OF.out _))))
  go_wp2
  go_ret2
  exact ⟨rfl, K1.out.then (below_dN _ _)⟩

set_option maxRecDepth 100000 in
set_option maxHeartbeats 4000000 in
theorem renc_5a (a b c im p : Int) (u : Bool) (W : World) (_a0 : 0 ≤ a) (_a1 : a ≤ 15) (_b0 : 0 ≤ b) (_b1 : b ≤ 15) (_c0 : 0 ≤ c) (_c1 : c ≤ 15) (_p0 : 0 ≤ p) (_p1 : p ≤ 1)
   (OT : Field.Aside (∀ wx, Calls Try.prog 22 #[.bool true] wx fun e w' => e = .returned (.int .u32 1) ∧ w' = wx))
   (OF : Field.Aside (∀ wx, Calls Try.prog 22 #[.bool false] wx fun e w' => e = .returned (.int .u32 0) ∧ w' = wx))
   (MY : Field.Aside (∀ wx, Calls Try.prog 17 #[.agg #[.int .i64 5, .int .i64 0, .int .i64 a, .int .i64 b, .int .i64 c, .int .i64 im, .bool u]] wx fun e w' => e = .returned (.bool true) ∧ Bl wx w'))
   (O1 : Field.Aside (∀ wx, Calls Try.prog 22 #[.bool u] wx fun e w' => e = .returned (.int .u32 p) ∧ w' = wx)) :
   Calls Try.prog 13 #[.agg #[.int .i64 5, .int .i64 0, .int .i64 a, .int .i64 b, .int .i64 c, .int .i64 im, .bool u]] W fun e w' => e = .returned (.tuple #[.int .u32 (bits .or .u32 (bits .or .u32 (bits .or .u32 (bits .or .u32 (bits .or .u32 2147483648 0) 0) (a * 16777216)) (b * 1048576)) (im % 1048576)), .int .i64 0]) ∧ Bl W w' := by
  obtain ⟨W1, hW1⟩ : ∃ W1, W1 = W.alloc (.cells #[.int .i64 5, .int .i64 0, .int .i64 a, .int .i64 b, .int .i64 c, .int .i64 im, .bool u] 23) := ⟨_, rfl⟩
  have HWB : Field.Aside (Bl W W1) := ⟨by rw [hW1]; exact (Bl.refl _).alloc _⟩
  have RZ : Field.Aside (IBox W.heap.size 5 0 a b c im u W1) := ⟨by rw [hW1]; exact IBox.new W 5 0 a b c im u _⟩
  have HW := Field.Aside.mk hW1
  clear hW1
  go_enter Try.func13, Try.ntmps13
  go_wp2_with fail
  rw [← HW.out]
  refine (MY.out _).mono ?_
  rintro e w1 ⟨rfl, k1⟩
  obtain ⟨i0, i1, i2, i3, i4, i5, i6, fz⟩ := RZ.out.keep k1
  have K1 := Field.Aside.mk (HWB.out.then k1.out)
  clear k1 fz
  go_wp2_with fail
  refine (O1.out _).mono ?_
  rintro e w2 ⟨rfl, rfl⟩
  go_wp2_with fail
  have t1 : Int.tmod (im % 4294967296) 1048576 = im % 1048576 := by rw [Int.tmod_eq_emod_of_nonneg (by omega)]; omega
  have t2 : im % 4294967296 % 1048576 = im % 1048576 := by omega
  go_quiet ((first | (go_at_call 22; exact Calls.quiet_of_same (OT.out _)) | (go_at_call 22; exact Calls.quiet_of_same (OF.out _))))
  go_wp2
  go_ret2
  exact ⟨rfl, K1.out.then (below_dN _ _)⟩

set_option maxRecDepth 100000 in
set_option maxHeartbeats 4000000 in
theorem renc_5b (a b c im p : Int) (u : Bool) (W : World) (_a0 : 0 ≤ a) (_a1 : a ≤ 15) (_b0 : 0 ≤ b) (_b1 : b ≤ 15) (_c0 : 0 ≤ c) (_c1 : c ≤ 15) (_p0 : 0 ≤ p) (_p1 : p ≤ 1)
   (OT : Field.Aside (∀ wx, Calls Try.prog 22 #[.bool true] wx fun e w' => e = .returned (.int .u32 1) ∧ w' = wx))
   (OF : Field.Aside (∀ wx, Calls Try.prog 22 #[.bool false] wx fun e w' => e = .returned (.int .u32 0) ∧ w' = wx))
   (MY : Field.Aside (∀ wx, Calls Try.prog 17 #[.agg #[.int .i64 5, .int .i64 1, .int .i64 a, .int .i64 b, .int .i64 c, .int .i64 im, .bool u]] wx fun e w' => e = .returned (.bool true) ∧ Bl wx w'))
   (O1 : Field.Aside (∀ wx, Calls Try.prog 22 #[.bool u] wx fun e w' => e = .returned (.int .u32 p) ∧ w' = wx)) :
   Calls Try.prog 13 #[.agg #[.int .i64 5, .int .i64 1, .int .i64 a, .int .i64 b, .int .i64 c, .int .i64 im, .bool u]] W fun e w' => e = .returned (.tuple #[.int .u32 (bits .or .u32 (bits .or .u32 (bits .or .u32 (bits .or .u32 (bits .or .u32 2147483648 0) 268435456) (a * 16777216)) (b * 1048576)) (im % 1048576)), .int .i64 0]) ∧ Bl W w' := by
  obtain ⟨W1, hW1⟩ : ∃ W1, W1 = W.alloc (.cells #[.int .i64 5, .int .i64 1, .int .i64 a, .int .i64 b, .int .i64 c, .int .i64 im, .bool u] 23) := ⟨_, rfl⟩
  have HWB : Field.Aside (Bl W W1) := ⟨by rw [hW1]; exact (Bl.refl _).alloc _⟩
  have RZ : Field.Aside (IBox W.heap.size 5 1 a b c im u W1) := ⟨by rw [hW1]; exact IBox.new W 5 1 a b c im u _⟩
  have HW := Field.Aside.mk hW1
  clear hW1
  go_enter Try.func13, Try.ntmps13
  go_wp2_with fail
  rw [← HW.out]
  refine (MY.out _).mono ?_
  rintro e w1 ⟨rfl, k1⟩
  obtain ⟨i0, i1, i2, i3, i4, i5, i6, fz⟩ := RZ.out.keep k1
  have K1 := Field.Aside.mk (HWB.out.then k1.out)
  clear k1 fz
  go_wp2_with fail
  refine (O1.out _).mono ?_
  rintro e w2 ⟨rfl, rfl⟩
  go_wp2_with fail
  have t1 : Int.tmod (im % 4294967296) 1048576 = im % 1048576 := by rw [Int.tmod_eq_emod_of_nonneg (by omega)]; omega
  have t2 : im % 4294967296 % 1048576 = im % 1048576 := by omega
  go_quiet ((first | (go_at_call 22; exact Calls.quiet_of_same (OT.out _)) | (go_at_call 22; exact Calls.quiet_of_same (OF.out _))))
  go_wp2
  go_ret2
  exact ⟨rfl, K1.out.then (below_dN _ _)⟩

set_option maxRecDepth 100000 in
set_option maxHeartbeats 4000000 in
theorem renc_5c (a b c im p : Int) (u : Bool) (W : World) (_a0 : 0 ≤ a) (_a1 : a ≤ 15) (_b0 : 0 ≤ b) (_b1 : b ≤ 15) (_c0 : 0 ≤ c) (_c1 : c ≤ 15) (_p0 : 0 ≤ p) (_p1 : p ≤ 1)
   (OT : Field.Aside (∀ wx, Calls Try.prog 22 #[.bool true] wx fun e w' => e = .returned (.int .u32 1) ∧ w' = wx))
   (OF : Field.Aside (∀ wx, Calls Try.prog 22 #[.bool false] wx fun e w' => e = .returned (.int .u32 0) ∧ w' = wx))
   (MY : Field.Aside (∀ wx, Calls Try.prog 17 #[.agg #[.int .i64 5, .int .i64 2, .int .i64 a, .int .i64 b, .int .i64 c, .int .i64 im, .bool u]] wx fun e w' => e = .returned (.bool true) ∧ Bl wx w'))
   (O1 : Field.Aside (∀ wx, Calls Try.prog 22 #[.bool u] wx fun e w' => e = .returned (.int .u32 p) ∧ w' = wx)) :
   Calls Try.prog 13 #[.agg #[.int .i64 5, .int .i64 2, .int .i64 a, .int .i64 b, .int .i64 c, .int .i64 im, .bool u]] W fun e w' => e = .returned (.tuple #[.int .u32 (bits .or .u32 (bits .or .u32 (bits .or .u32 (bits .or .u32 (bits .or .u32 2147483648 536870912) 0) (a * 16777216)) (b * 1048576)) (im % 1048576)), .int .i64 0]) ∧ Bl W w' := by
  obtain ⟨W1, hW1⟩ : ∃ W1, W1 = W.alloc (.cells #[.int .i64 5, .int .i64 2, .int .i64 a, .int .i64 b, .int .i64 c, .int .i64 im, .bool u] 23) := ⟨_, rfl⟩
  have HWB : Field.Aside (Bl W W1) := ⟨by rw [hW1]; exact (Bl.refl _).alloc _⟩
  have RZ : Field.Aside (IBox W.heap.size 5 2 a b c im u W1) := ⟨by rw [hW1]; exact IBox.new W 5 2 a b c im u _⟩
  have HW := Field.Aside.mk hW1
  clear hW1
  go_enter Try.func13, Try.ntmps13
  go_wp2_with fail
  rw [← HW.out]
  refine (MY.out _).mono ?_
  rintro e w1 ⟨rfl, k1⟩
  obtain ⟨i0, i1, i2, i3, i4, i5, i6, fz⟩ := RZ.out.keep k1
  have K1 := Field.Aside.mk (HWB.out.then k1.out)
  clear k1 fz
  go_wp2_with fail
  refine (O1.out _).mono ?_
  rintro e w2 ⟨rfl, rfl⟩
  go_wp2_with fail
  have t1 : Int.tmod (im % 4294967296) 1048576 = im % 1048576 := by rw [Int.tmod_eq_emod_of_nonneg (by omega)]; omega
  have t2 : im % 4294967296 % 1048576 = im % 1048576 := by omega
  go_quiet ((first | (go_at_call 22; exact Calls.quiet_of_same (OT.out _)) | (go_at_call 22; exact Calls.quiet_of_same (OF.out _))))
  go_wp2
  go_ret2
  exact ⟨rfl, K1.out.then (below_dN _ _)⟩

set_option maxRecDepth 100000 in
set_option maxHeartbeats 4000000 in
theorem renc_5d (a b c im p : Int) (u : Bool) (W : World) (_a0 : 0 ≤ a) (_a1 : a ≤ 15) (_b0 : 0 ≤ b) (_b1 : b ≤ 15) (_c0 : 0 ≤ c) (_c1 : c ≤ 15) (_p0 : 0 ≤ p) (_p1 : p ≤ 1)
   (OT : Field.Aside (∀ wx, Calls Try.prog 22 #[.bool true] wx fun e w' => e = .returned (.int .u32 1) ∧ w' = wx))
   (OF : Field.Aside (∀ wx, Calls Try.prog 22 #[.bool false] wx fun e w' => e = .returned (.int .u32 0) ∧ w' = wx))
   (MY : Field.Aside (∀ wx, Calls Try.prog 17 #[.agg #[.int .i64 5, .int .i64 3, .int .i64 a, .int .i64 b, .int .i64 c, .int .i64 im, .bool u]] wx fun e w' => e = .returned (.bool true) ∧ Bl wx w'))
   (O1 : Field.Aside (∀ wx, Calls Try.prog 22 #[.bool u] wx fun e w' => e = .returned (.int .u32 p) ∧ w' = wx)) :
   Calls Try.prog 13 #[.agg #[.int .i64 5, .int .i64 3, .int .i64 a, .int .i64 b, .int .i64 c, .int .i64 im, .bool u]] W fun e w' => e = .returned (.tuple #[.int .u32 (bits .or .u32 (bits .or .u32 (bits .or .u32 (bits .or .u32 (bits .or .u32 2147483648 536870912) 268435456) (a * 16777216)) (b * 1048576)) (im % 1048576)), .int .i64 0]) ∧ Bl W w' := by
  obtain ⟨W1, hW1⟩ : ∃ W1, W1 = W.alloc (.cells #[.int .i64 5, .int .i64 3, .int .i64 a, .int .i64 b, .int .i64 c, .int .i64 im, .bool u] 23) := ⟨_, rfl⟩
  have HWB : Field.Aside (Bl W W1) := ⟨by rw [hW1]; exact (Bl.refl _).alloc _⟩
  have RZ : Field.Aside (IBox W.heap.size 5 3 a b c im u W1) := ⟨by rw [hW1]; exact IBox.new W 5 3 a b c im u _⟩
  have HW := Field.Aside.mk hW1
  clear hW1
  go_enter Try.func13, Try.ntmps13
  go_wp2_with fail
  rw [← HW.out]
  refine (MY.out _).mono ?_
  rintro e w1 ⟨rfl, k1⟩
  obtain ⟨i0, i1, i2, i3, i4, i5, i6, fz⟩ := RZ.out.keep k1
  have K1 := Field.Aside.mk (HWB.out.then k1.out)
  clear k1 fz
  go_wp2_with fail
  refine (O1.out _).mono ?_
  rintro e w2 ⟨rfl, rfl⟩
  go_wp2_with fail
  have t1 : Int.tmod (im % 4294967296) 1048576 = im % 1048576 := by rw [Int.tmod_eq_emod_of_nonneg (by omega)]; omega
  have t2 : im % 4294967296 % 1048576 = im % 1048576 := by omega
  go_quiet ((first | (go_at_call 22; exact Calls.quiet_of_same (OT.out _)) | (go_at_call 22; exact Calls.quiet_of_same (OF.out _))))
  go_wp2
  go_ret2
  exact ⟨rfl, K1.out.then (below_dN _ _)⟩
end Go.Proofs.Ytnilkljibdjjgaa.Isa
