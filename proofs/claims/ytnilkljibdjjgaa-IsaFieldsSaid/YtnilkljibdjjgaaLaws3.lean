/-
  IsaFields' walk: what stands in the fields of an instruction's word.
-/
import Derived.Test.YtnilkljibdjjgaaFit
import Derived.Deep.RegionHeld3
namespace Go.Proofs.Ytnilkljibdjjgaa.Isa
open Go Go.RowKit Go.Proofs.Ytnilkljibdjjgaa.FieldM Go.Proofs.Ytnilkljibdjjgaa.Field

theorem keep2 {W w : World} {A0 A1 : Addr} {v0 v1 : Value} (q0 : W.cell? A0 = some v0) (q1 : W.cell? A1 = some v1) (h : Bl W w) : Bl W w ∧ w.cell? A0 = some v0 ∧ w.cell? A1 = some v1 := ⟨h, h.cell q0, h.cell q1⟩
theorem below_drewN (w : World) (n : Nat) : Below w.heap.size w (w.drewN n) := by
  induction n with
  | zero => exact Below.refl _ _
  | succ n ih => rw [← World.drew_drewN]; exact ih.drew

set_option maxRecDepth 100000 in
set_option maxHeartbeats 4000000 in
theorem fields_1 (ikd iop ia ib ic iim : Int) (iu : Bool) (jop ja jb jc jim : Int) (ju : Bool) (R : Int) (W W1 : World) (HW : Field.Aside (W1 = W.alloc (.cells #[.int .i64 ikd, .int .i64 iop, .int .i64 ia, .int .i64 ib, .int .i64 ic, .int .i64 iim, .bool iu] 23)))
   (_r0 : 0 ≤ R) (_r1 : R ≤ 4294967295) (_a0 : 0 ≤ ja) (_a1 : ja ≤ 15) (_b0 : 0 ≤ jb) (_b1 : jb ≤ 15) (_c0 : 0 ≤ jc) (_c1 : jc ≤ 15) (_o0 : 0 ≤ jop) (_o1 : jop ≤ 15)
   (SH : Field.Aside (∀ wx, Calls Try.prog 11 #[] wx fun e w' => e = .returned (.bool true) ∧ Bl wx w'))
   (FT : Field.Aside (∀ wx, Calls Try.prog 18 #[.agg #[.int .i64 ikd, .int .i64 iop, .int .i64 ia, .int .i64 ib, .int .i64 ic, .int .i64 iim, .bool iu]] wx fun e w' => e = .returned (.agg #[.int .i64 1, .int .i64 jop, .int .i64 ja, .int .i64 jb, .int .i64 jc, .int .i64 jim, .bool ju]) ∧ Bl wx w'))
   (EN : Field.Aside (∀ wx, Calls Try.prog 12 #[.agg #[.int .i64 1, .int .i64 jop, .int .i64 ja, .int .i64 jb, .int .i64 jc, .int .i64 jim, .bool ju]] wx fun e w' => e = .returned (.tuple #[.int .u32 R, .int .i64 0]) ∧ Bl wx w'))
   (_hc : bits .and .u32 R 15 = jc)
   (G30 : Field.Aside (∀ wx, Calls Try.prog 19 #[.int .u32 R, .int .i64 30, .int .i64 2] wx fun e w' => e = .returned (.int .u32 0) ∧ Bl wx w'))
   (G24 : Field.Aside (∀ wx, Calls Try.prog 19 #[.int .u32 R, .int .i64 24, .int .i64 4] wx fun e w' => e = .returned (.int .u32 ja) ∧ Bl wx w'))
   (G20 : Field.Aside (∀ wx, Calls Try.prog 19 #[.int .u32 R, .int .i64 20, .int .i64 4] wx fun e w' => e = .returned (.int .u32 jb) ∧ Bl wx w'))
   (G16 : Field.Aside (∀ wx, Calls Try.prog 19 #[.int .u32 R, .int .i64 16, .int .i64 4] wx fun e w' => e = .returned (.int .u32 jop) ∧ Bl wx w')) :
   Calls Try.prog 8 #[.agg #[.int .i64 ikd, .int .i64 iop, .int .i64 ia, .int .i64 ib, .int .i64 ic, .int .i64 iim, .bool iu]] W fun e w' => e = .returned (.bool true) ∧ Bl W w' := by
  have HWB : Field.Aside (Bl W W1) := ⟨⟨by have := HW.out; subst this; exact (Below.refl _ _).alloc (Nat.le_refl _) _⟩⟩
  have RZ : Field.Aside (IBox W.heap.size ikd iop ia ib ic iim iu W1) := ⟨by rw [HW.out]; exact IBox.new W ikd iop ia ib ic iim iu _⟩
  go_enter Try.func8, Try.ntmps8
  go_wp2_with fail
  rw [← HW.out]
  refine (SH.out _).mono ?_
  rintro e w1 ⟨rfl, k1⟩
  obtain ⟨i0, i1, i2, i3, i4, i5, i6, fz⟩ := RZ.out.keep k1
  have K1 := Field.Aside.mk (HWB.out.then k1.out)
  clear k1
  go_wp2_with fail
  refine (FT.out _).mono ?_
  rintro e w2 ⟨rfl, k2⟩
  have K2 := Field.Aside.mk ((K1.out.then k2.out).alloc (.cells #[.int .i64 1, .int .i64 jop, .int .i64 ja, .int .i64 jb, .int .i64 jc, .int .i64 jim, .bool ju] 23))
  have X := Field.Aside.mk (IBox.new w2 1 jop ja jb jc jim ju 23)
  clear k2 i0 i1 i2 i3 i4 i5 i6 fz
  go_wp2_with fail
  refine (EN.out _).mono ?_
  rintro e w3 ⟨rfl, k3⟩
  have K3 := Field.Aside.mk (K2.out.then k3.out)
  have X3 := Field.Aside.mk (X.out.keep k3)
  clear k3
  go_wp2_with fail
  refine (G30.out _).mono ?_
  rintro e w4 ⟨rfl, k4⟩
  have K4 := Field.Aside.mk (K3.out.then k4.out)
  have X4 := Field.Aside.mk (X3.out.keep k4)
  clear k4
  go_wp2_with fail
  refine (G24.out _).mono ?_
  rintro e w5 ⟨rfl, k5⟩
  have K5 := Field.Aside.mk (K4.out.then k5.out)
  have X5 := Field.Aside.mk (X4.out.keep k5)
  clear k5
  go_wp2_with fail
  refine (G20.out _).mono ?_
  rintro e w6 ⟨rfl, k6⟩
  have K6 := Field.Aside.mk (K5.out.then k6.out)
  have X6 := Field.Aside.mk (X5.out.keep k6)
  clear k6
  go_wp2_with fail
  refine (G16.out _).mono ?_
  rintro e w7 ⟨rfl, k7⟩
  have K7 := Field.Aside.mk (K6.out.then k7.out)
  obtain ⟨i0, i1, i2, i3, i4, i5, i6, fz⟩ := X6.out.keep k7
  have X7 := Field.Aside.mk (X6.out.keep k7)
  clear k7 fz
  go_wp2_with fail
  go_ret
  exact ⟨rfl, K7.out⟩

set_option maxRecDepth 100000 in
set_option maxHeartbeats 4000000 in
theorem fields_2 (ikd iop ia ib ic iim : Int) (iu : Bool) (jop ja jb jc jim : Int) (ju : Bool) (R Y : Int) (W W1 : World) (HW : Field.Aside (W1 = W.alloc (.cells #[.int .i64 ikd, .int .i64 iop, .int .i64 ia, .int .i64 ib, .int .i64 ic, .int .i64 iim, .bool iu] 23)))
   (_r0 : 0 ≤ R) (_r1 : R ≤ 4294967295) (_a0 : 0 ≤ ja) (_a1 : ja ≤ 15) (_b0 : 0 ≤ jb) (_b1 : jb ≤ 15) (_c0 : 0 ≤ jc) (_c1 : jc ≤ 15) (_o0 : 0 ≤ jop) (_o1 : jop ≤ 15)
   (SH : Field.Aside (∀ wx, Calls Try.prog 11 #[] wx fun e w' => e = .returned (.bool true) ∧ Bl wx w'))
   (FT : Field.Aside (∀ wx, Calls Try.prog 18 #[.agg #[.int .i64 ikd, .int .i64 iop, .int .i64 ia, .int .i64 ib, .int .i64 ic, .int .i64 iim, .bool iu]] wx fun e w' => e = .returned (.agg #[.int .i64 2, .int .i64 jop, .int .i64 ja, .int .i64 jb, .int .i64 jc, .int .i64 jim, .bool ju]) ∧ Bl wx w'))
   (EN : Field.Aside (∀ wx, Calls Try.prog 12 #[.agg #[.int .i64 2, .int .i64 jop, .int .i64 ja, .int .i64 jb, .int .i64 jc, .int .i64 jim, .bool ju]] wx fun e w' => e = .returned (.tuple #[.int .u32 R, .int .i64 0]) ∧ Bl wx w'))
   (_hi : bits .and .u32 R 65535 = Y) (_hi2 : bits .and .i64 jim 65535 = Y) (_y0 : 0 ≤ Y) (_y1 : Y ≤ 65535)
   (G30 : Field.Aside (∀ wx, Calls Try.prog 19 #[.int .u32 R, .int .i64 30, .int .i64 2] wx fun e w' => e = .returned (.int .u32 1) ∧ Bl wx w'))
   (G24 : Field.Aside (∀ wx, Calls Try.prog 19 #[.int .u32 R, .int .i64 24, .int .i64 4] wx fun e w' => e = .returned (.int .u32 ja) ∧ Bl wx w'))
   (G20 : Field.Aside (∀ wx, Calls Try.prog 19 #[.int .u32 R, .int .i64 20, .int .i64 4] wx fun e w' => e = .returned (.int .u32 jb) ∧ Bl wx w'))
   (G16 : Field.Aside (∀ wx, Calls Try.prog 19 #[.int .u32 R, .int .i64 16, .int .i64 4] wx fun e w' => e = .returned (.int .u32 jop) ∧ Bl wx w')) :
   Calls Try.prog 8 #[.agg #[.int .i64 ikd, .int .i64 iop, .int .i64 ia, .int .i64 ib, .int .i64 ic, .int .i64 iim, .bool iu]] W fun e w' => e = .returned (.bool true) ∧ Bl W w' := by
  have HWB : Field.Aside (Bl W W1) := ⟨⟨by have := HW.out; subst this; exact (Below.refl _ _).alloc (Nat.le_refl _) _⟩⟩
  have RZ : Field.Aside (IBox W.heap.size ikd iop ia ib ic iim iu W1) := ⟨by rw [HW.out]; exact IBox.new W ikd iop ia ib ic iim iu _⟩
  go_enter Try.func8, Try.ntmps8
  go_wp2_with fail
  rw [← HW.out]
  refine (SH.out _).mono ?_
  rintro e w1 ⟨rfl, k1⟩
  obtain ⟨i0, i1, i2, i3, i4, i5, i6, fz⟩ := RZ.out.keep k1
  have K1 := Field.Aside.mk (HWB.out.then k1.out)
  clear k1
  go_wp2_with fail
  refine (FT.out _).mono ?_
  rintro e w2 ⟨rfl, k2⟩
  have K2 := Field.Aside.mk ((K1.out.then k2.out).alloc (.cells #[.int .i64 2, .int .i64 jop, .int .i64 ja, .int .i64 jb, .int .i64 jc, .int .i64 jim, .bool ju] 23))
  have X := Field.Aside.mk (IBox.new w2 2 jop ja jb jc jim ju 23)
  clear k2 i0 i1 i2 i3 i4 i5 i6 fz
  go_wp2_with fail
  refine (EN.out _).mono ?_
  rintro e w3 ⟨rfl, k3⟩
  have K3 := Field.Aside.mk (K2.out.then k3.out)
  have X3 := Field.Aside.mk (X.out.keep k3)
  clear k3
  go_wp2_with fail
  refine (G30.out _).mono ?_
  rintro e w4 ⟨rfl, k4⟩
  have K4 := Field.Aside.mk (K3.out.then k4.out)
  have X4 := Field.Aside.mk (X3.out.keep k4)
  clear k4
  go_wp2_with fail
  refine (G24.out _).mono ?_
  rintro e w5 ⟨rfl, k5⟩
  have K5 := Field.Aside.mk (K4.out.then k5.out)
  have X5 := Field.Aside.mk (X4.out.keep k5)
  clear k5
  go_wp2_with fail
  refine (G20.out _).mono ?_
  rintro e w6 ⟨rfl, k6⟩
  have K6 := Field.Aside.mk (K5.out.then k6.out)
  have X6 := Field.Aside.mk (X5.out.keep k6)
  clear k6
  go_wp2_with fail
  refine (G16.out _).mono ?_
  rintro e w7 ⟨rfl, k7⟩
  have K7 := Field.Aside.mk (K6.out.then k7.out)
  obtain ⟨i0, i1, i2, i3, i4, i5, i6, fz⟩ := X6.out.keep k7
  have X7 := Field.Aside.mk (X6.out.keep k7)
  clear k7 fz
  go_wp2_with fail
  go_ret
  exact ⟨rfl, K7.out⟩

set_option maxRecDepth 100000 in
set_option maxHeartbeats 4000000 in
theorem fields_6 (ikd iop ia ib ic iim : Int) (iu : Bool) (jop ja jb jc jim : Int) (ju : Bool) (R Y Z : Int) (W W1 : World) (HW : Field.Aside (W1 = W.alloc (.cells #[.int .i64 ikd, .int .i64 iop, .int .i64 ia, .int .i64 ib, .int .i64 ic, .int .i64 iim, .bool iu] 23)))
   (_r0 : 0 ≤ R) (_r1 : R ≤ 4294967295) (_a0 : 0 ≤ ja) (_a1 : ja ≤ 15) (_b0 : 0 ≤ jb) (_b1 : jb ≤ 15) (_c0 : 0 ≤ jc) (_c1 : jc ≤ 15) (_o0 : 0 ≤ jop) (_o1 : jop ≤ 15)
   (SH : Field.Aside (∀ wx, Calls Try.prog 11 #[] wx fun e w' => e = .returned (.bool true) ∧ Bl wx w'))
   (FT : Field.Aside (∀ wx, Calls Try.prog 18 #[.agg #[.int .i64 ikd, .int .i64 iop, .int .i64 ia, .int .i64 ib, .int .i64 ic, .int .i64 iim, .bool iu]] wx fun e w' => e = .returned (.agg #[.int .i64 6, .int .i64 jop, .int .i64 ja, .int .i64 jb, .int .i64 jc, .int .i64 jim, .bool ju]) ∧ Bl wx w'))
   (EN : Field.Aside (∀ wx, Calls Try.prog 12 #[.agg #[.int .i64 6, .int .i64 jop, .int .i64 ja, .int .i64 jb, .int .i64 jc, .int .i64 jim, .bool ju]] wx fun e w' => e = .returned (.tuple #[.int .u32 R, .int .i64 0]) ∧ Bl wx w'))
   (_hc : bits .and .u32 R 15 = jc)
   (G30 : Field.Aside (∀ wx, Calls Try.prog 19 #[.int .u32 R, .int .i64 30, .int .i64 2] wx fun e w' => e = .returned (.int .u32 3) ∧ Bl wx w'))
   (G24 : Field.Aside (∀ wx, Calls Try.prog 19 #[.int .u32 R, .int .i64 24, .int .i64 4] wx fun e w' => e = .returned (.int .u32 jop) ∧ Bl wx w'))
   (G20 : Field.Aside (∀ wx, Calls Try.prog 19 #[.int .u32 R, .int .i64 20, .int .i64 4] wx fun e w' => e = .returned (.int .u32 Y) ∧ Bl wx w'))
   (G16 : Field.Aside (∀ wx, Calls Try.prog 19 #[.int .u32 R, .int .i64 16, .int .i64 4] wx fun e w' => e = .returned (.int .u32 Z) ∧ Bl wx w'))
   (G29 : Field.Aside (∀ wx, Calls Try.prog 19 #[.int .u32 R, .int .i64 29, .int .i64 1] wx fun e w' => e = .returned (.int .u32 0) ∧ Bl wx w')) :
   Calls Try.prog 8 #[.agg #[.int .i64 ikd, .int .i64 iop, .int .i64 ia, .int .i64 ib, .int .i64 ic, .int .i64 iim, .bool iu]] W fun e w' => e = .returned (.bool true) ∧ Bl W w' := by
  have HWB : Field.Aside (Bl W W1) := ⟨⟨by have := HW.out; subst this; exact (Below.refl _ _).alloc (Nat.le_refl _) _⟩⟩
  have RZ : Field.Aside (IBox W.heap.size ikd iop ia ib ic iim iu W1) := ⟨by rw [HW.out]; exact IBox.new W ikd iop ia ib ic iim iu _⟩
  go_enter Try.func8, Try.ntmps8
  go_wp2_with fail
  rw [← HW.out]
  refine (SH.out _).mono ?_
  rintro e w1 ⟨rfl, k1⟩
  obtain ⟨i0, i1, i2, i3, i4, i5, i6, fz⟩ := RZ.out.keep k1
  have K1 := Field.Aside.mk (HWB.out.then k1.out)
  clear k1
  go_wp2_with fail
  refine (FT.out _).mono ?_
  rintro e w2 ⟨rfl, k2⟩
  have K2 := Field.Aside.mk ((K1.out.then k2.out).alloc (.cells #[.int .i64 6, .int .i64 jop, .int .i64 ja, .int .i64 jb, .int .i64 jc, .int .i64 jim, .bool ju] 23))
  have X := Field.Aside.mk (IBox.new w2 6 jop ja jb jc jim ju 23)
  clear k2 i0 i1 i2 i3 i4 i5 i6 fz
  go_wp2_with fail
  refine (EN.out _).mono ?_
  rintro e w3 ⟨rfl, k3⟩
  have K3 := Field.Aside.mk (K2.out.then k3.out)
  have X3 := Field.Aside.mk (X.out.keep k3)
  clear k3
  go_wp2_with fail
  refine (G30.out _).mono ?_
  rintro e w4 ⟨rfl, k4⟩
  have K4 := Field.Aside.mk (K3.out.then k4.out)
  have X4 := Field.Aside.mk (X3.out.keep k4)
  clear k4
  go_wp2_with fail
  refine (G24.out _).mono ?_
  rintro e w5 ⟨rfl, k5⟩
  have K5 := Field.Aside.mk (K4.out.then k5.out)
  have X5 := Field.Aside.mk (X4.out.keep k5)
  clear k5
  go_wp2_with fail
  refine (G20.out _).mono ?_
  rintro e w6 ⟨rfl, k6⟩
  have K6 := Field.Aside.mk (K5.out.then k6.out)
  have X6 := Field.Aside.mk (X5.out.keep k6)
  clear k6
  go_wp2_with fail
  refine (G16.out _).mono ?_
  rintro e w7 ⟨rfl, k7⟩
  have K7 := Field.Aside.mk (K6.out.then k7.out)
  obtain ⟨i0, i1, i2, i3, i4, i5, i6, fz⟩ := X6.out.keep k7
  have X7 := Field.Aside.mk (X6.out.keep k7)
  clear k7 fz
  go_wp2_with fail
  refine (G29.out _).mono ?_
  rintro e w8 ⟨rfl, k8⟩
  have K8 := Field.Aside.mk (K7.out.then k8.out)
  clear k8
  go_wp2_with fail
  go_ret
  exact ⟨rfl, K8.out⟩

set_option maxRecDepth 100000 in
set_option maxHeartbeats 4000000 in
theorem fields_3 (ikd iop ia ib ic iim : Int) (iu : Bool) (jop ja jb jc jim : Int) (ju : Bool) (R Y Z : Int) (W W1 : World) (HW : Field.Aside (W1 = W.alloc (.cells #[.int .i64 ikd, .int .i64 iop, .int .i64 ia, .int .i64 ib, .int .i64 ic, .int .i64 iim, .bool iu] 23)))
   (_r0 : 0 ≤ R) (_r1 : R ≤ 4294967295) (_a0 : 0 ≤ ja) (_a1 : ja ≤ 15) (_b0 : 0 ≤ jb) (_b1 : jb ≤ 15) (_c0 : 0 ≤ jc) (_c1 : jc ≤ 15) (_o0 : 0 ≤ jop) (_o1 : jop ≤ 15)
   (SH : Field.Aside (∀ wx, Calls Try.prog 11 #[] wx fun e w' => e = .returned (.bool true) ∧ Bl wx w'))
   (FT : Field.Aside (∀ wx, Calls Try.prog 18 #[.agg #[.int .i64 ikd, .int .i64 iop, .int .i64 ia, .int .i64 ib, .int .i64 ic, .int .i64 iim, .bool iu]] wx fun e w' => e = .returned (.agg #[.int .i64 3, .int .i64 jop, .int .i64 ja, .int .i64 jb, .int .i64 jc, .int .i64 jim, .bool ju]) ∧ Bl wx w'))
   (EN : Field.Aside (∀ wx, Calls Try.prog 12 #[.agg #[.int .i64 3, .int .i64 jop, .int .i64 ja, .int .i64 jb, .int .i64 jc, .int .i64 jim, .bool ju]] wx fun e w' => e = .returned (.tuple #[.int .u32 R, .int .i64 0]) ∧ Bl wx w'))
   (_hs : R * 256 % 4294967296 = 0)
   (G30 : Field.Aside (∀ wx, Calls Try.prog 19 #[.int .u32 R, .int .i64 30, .int .i64 2] wx fun e w' => e = .returned (.int .u32 0) ∧ Bl wx w'))
   (G24 : Field.Aside (∀ wx, Calls Try.prog 19 #[.int .u32 R, .int .i64 24, .int .i64 4] wx fun e w' => e = .returned (.int .u32 ja) ∧ Bl wx w'))
   (G20 : Field.Aside (∀ wx, Calls Try.prog 19 #[.int .u32 R, .int .i64 20, .int .i64 4] wx fun e w' => e = .returned (.int .u32 Y) ∧ Bl wx w'))
   (G16 : Field.Aside (∀ wx, Calls Try.prog 19 #[.int .u32 R, .int .i64 16, .int .i64 4] wx fun e w' => e = .returned (.int .u32 Z) ∧ Bl wx w'))
   (G29 : Field.Aside (∀ wx, Calls Try.prog 19 #[.int .u32 R, .int .i64 29, .int .i64 1] wx fun e w' => e = .returned (.int .u32 1) ∧ Bl wx w')) :
   Calls Try.prog 8 #[.agg #[.int .i64 ikd, .int .i64 iop, .int .i64 ia, .int .i64 ib, .int .i64 ic, .int .i64 iim, .bool iu]] W fun e w' => e = .returned (.bool true) ∧ Bl W w' := by
  have HWB : Field.Aside (Bl W W1) := ⟨⟨by have := HW.out; subst this; exact (Below.refl _ _).alloc (Nat.le_refl _) _⟩⟩
  have RZ : Field.Aside (IBox W.heap.size ikd iop ia ib ic iim iu W1) := ⟨by rw [HW.out]; exact IBox.new W ikd iop ia ib ic iim iu _⟩
  go_enter Try.func8, Try.ntmps8
  go_wp2_with fail
  rw [← HW.out]
  refine (SH.out _).mono ?_
  rintro e w1 ⟨rfl, k1⟩
  obtain ⟨i0, i1, i2, i3, i4, i5, i6, fz⟩ := RZ.out.keep k1
  have K1 := Field.Aside.mk (HWB.out.then k1.out)
  clear k1
  go_wp2_with fail
  refine (FT.out _).mono ?_
  rintro e w2 ⟨rfl, k2⟩
  have K2 := Field.Aside.mk ((K1.out.then k2.out).alloc (.cells #[.int .i64 3, .int .i64 jop, .int .i64 ja, .int .i64 jb, .int .i64 jc, .int .i64 jim, .bool ju] 23))
  have X := Field.Aside.mk (IBox.new w2 3 jop ja jb jc jim ju 23)
  clear k2 i0 i1 i2 i3 i4 i5 i6 fz
  go_wp2_with fail
  refine (EN.out _).mono ?_
  rintro e w3 ⟨rfl, k3⟩
  have K3 := Field.Aside.mk (K2.out.then k3.out)
  have X3 := Field.Aside.mk (X.out.keep k3)
  clear k3
  go_wp2_with fail
  refine (G30.out _).mono ?_
  rintro e w4 ⟨rfl, k4⟩
  have K4 := Field.Aside.mk (K3.out.then k4.out)
  have X4 := Field.Aside.mk (X3.out.keep k4)
  clear k4
  go_wp2_with fail
  refine (G24.out _).mono ?_
  rintro e w5 ⟨rfl, k5⟩
  have K5 := Field.Aside.mk (K4.out.then k5.out)
  have X5 := Field.Aside.mk (X4.out.keep k5)
  clear k5
  go_wp2_with fail
  refine (G20.out _).mono ?_
  rintro e w6 ⟨rfl, k6⟩
  have K6 := Field.Aside.mk (K5.out.then k6.out)
  have X6 := Field.Aside.mk (X5.out.keep k6)
  clear k6
  go_wp2_with fail
  refine (G16.out _).mono ?_
  rintro e w7 ⟨rfl, k7⟩
  have K7 := Field.Aside.mk (K6.out.then k7.out)
  obtain ⟨i0, i1, i2, i3, i4, i5, i6, fz⟩ := X6.out.keep k7
  have X7 := Field.Aside.mk (X6.out.keep k7)
  clear k7 fz
  go_wp2_with fail
  refine (G29.out _).mono ?_
  rintro e w8 ⟨rfl, k8⟩
  have K8 := Field.Aside.mk (K7.out.then k8.out)
  clear k8
  go_wp2_with fail
  go_ret
  exact ⟨rfl, K8.out⟩

set_option maxRecDepth 100000 in
set_option maxHeartbeats 4000000 in
theorem fields_4 (ikd iop ia ib ic iim : Int) (iu : Bool) (jop ja jb jc jim : Int) (ju : Bool) (R Y Z : Int) (W W1 : World) (HW : Field.Aside (W1 = W.alloc (.cells #[.int .i64 ikd, .int .i64 iop, .int .i64 ia, .int .i64 ib, .int .i64 ic, .int .i64 iim, .bool iu] 23)))
   (_r0 : 0 ≤ R) (_r1 : R ≤ 4294967295) (_a0 : 0 ≤ ja) (_a1 : ja ≤ 15) (_b0 : 0 ≤ jb) (_b1 : jb ≤ 15) (_c0 : 0 ≤ jc) (_c1 : jc ≤ 15) (_o0 : 0 ≤ jop) (_o1 : jop ≤ 15)
   (SH : Field.Aside (∀ wx, Calls Try.prog 11 #[] wx fun e w' => e = .returned (.bool true) ∧ Bl wx w'))
   (FT : Field.Aside (∀ wx, Calls Try.prog 18 #[.agg #[.int .i64 ikd, .int .i64 iop, .int .i64 ia, .int .i64 ib, .int .i64 ic, .int .i64 iim, .bool iu]] wx fun e w' => e = .returned (.agg #[.int .i64 4, .int .i64 jop, .int .i64 ja, .int .i64 jb, .int .i64 jc, .int .i64 jim, .bool ju]) ∧ Bl wx w'))
   (EN : Field.Aside (∀ wx, Calls Try.prog 12 #[.agg #[.int .i64 4, .int .i64 jop, .int .i64 ja, .int .i64 jb, .int .i64 jc, .int .i64 jim, .bool ju]] wx fun e w' => e = .returned (.tuple #[.int .u32 R, .int .i64 0]) ∧ Bl wx w'))
   (_hs : R * 256 % 4294967296 = 0)
   (G30 : Field.Aside (∀ wx, Calls Try.prog 19 #[.int .u32 R, .int .i64 30, .int .i64 2] wx fun e w' => e = .returned (.int .u32 0) ∧ Bl wx w'))
   (G24 : Field.Aside (∀ wx, Calls Try.prog 19 #[.int .u32 R, .int .i64 24, .int .i64 4] wx fun e w' => e = .returned (.int .u32 ja) ∧ Bl wx w'))
   (G20 : Field.Aside (∀ wx, Calls Try.prog 19 #[.int .u32 R, .int .i64 20, .int .i64 4] wx fun e w' => e = .returned (.int .u32 Y) ∧ Bl wx w'))
   (G16 : Field.Aside (∀ wx, Calls Try.prog 19 #[.int .u32 R, .int .i64 16, .int .i64 4] wx fun e w' => e = .returned (.int .u32 Z) ∧ Bl wx w'))
   (G29 : Field.Aside (∀ wx, Calls Try.prog 19 #[.int .u32 R, .int .i64 29, .int .i64 1] wx fun e w' => e = .returned (.int .u32 1) ∧ Bl wx w')) :
   Calls Try.prog 8 #[.agg #[.int .i64 ikd, .int .i64 iop, .int .i64 ia, .int .i64 ib, .int .i64 ic, .int .i64 iim, .bool iu]] W fun e w' => e = .returned (.bool true) ∧ Bl W w' := by
  have HWB : Field.Aside (Bl W W1) := ⟨⟨by have := HW.out; subst this; exact (Below.refl _ _).alloc (Nat.le_refl _) _⟩⟩
  have RZ : Field.Aside (IBox W.heap.size ikd iop ia ib ic iim iu W1) := ⟨by rw [HW.out]; exact IBox.new W ikd iop ia ib ic iim iu _⟩
  go_enter Try.func8, Try.ntmps8
  go_wp2_with fail
  rw [← HW.out]
  refine (SH.out _).mono ?_
  rintro e w1 ⟨rfl, k1⟩
  obtain ⟨i0, i1, i2, i3, i4, i5, i6, fz⟩ := RZ.out.keep k1
  have K1 := Field.Aside.mk (HWB.out.then k1.out)
  clear k1
  go_wp2_with fail
  refine (FT.out _).mono ?_
  rintro e w2 ⟨rfl, k2⟩
  have K2 := Field.Aside.mk ((K1.out.then k2.out).alloc (.cells #[.int .i64 4, .int .i64 jop, .int .i64 ja, .int .i64 jb, .int .i64 jc, .int .i64 jim, .bool ju] 23))
  have X := Field.Aside.mk (IBox.new w2 4 jop ja jb jc jim ju 23)
  clear k2 i0 i1 i2 i3 i4 i5 i6 fz
  go_wp2_with fail
  refine (EN.out _).mono ?_
  rintro e w3 ⟨rfl, k3⟩
  have K3 := Field.Aside.mk (K2.out.then k3.out)
  have X3 := Field.Aside.mk (X.out.keep k3)
  clear k3
  go_wp2_with fail
  refine (G30.out _).mono ?_
  rintro e w4 ⟨rfl, k4⟩
  have K4 := Field.Aside.mk (K3.out.then k4.out)
  have X4 := Field.Aside.mk (X3.out.keep k4)
  clear k4
  go_wp2_with fail
  refine (G24.out _).mono ?_
  rintro e w5 ⟨rfl, k5⟩
  have K5 := Field.Aside.mk (K4.out.then k5.out)
  have X5 := Field.Aside.mk (X4.out.keep k5)
  clear k5
  go_wp2_with fail
  refine (G20.out _).mono ?_
  rintro e w6 ⟨rfl, k6⟩
  have K6 := Field.Aside.mk (K5.out.then k6.out)
  have X6 := Field.Aside.mk (X5.out.keep k6)
  clear k6
  go_wp2_with fail
  refine (G16.out _).mono ?_
  rintro e w7 ⟨rfl, k7⟩
  have K7 := Field.Aside.mk (K6.out.then k7.out)
  obtain ⟨i0, i1, i2, i3, i4, i5, i6, fz⟩ := X6.out.keep k7
  have X7 := Field.Aside.mk (X6.out.keep k7)
  clear k7 fz
  go_wp2_with fail
  refine (G29.out _).mono ?_
  rintro e w8 ⟨rfl, k8⟩
  have K8 := Field.Aside.mk (K7.out.then k8.out)
  clear k8
  go_wp2_with fail
  go_ret
  exact ⟨rfl, K8.out⟩

set_option maxRecDepth 100000 in
set_option maxHeartbeats 4000000 in
theorem fields_5 (ikd iop ia ib ic iim : Int) (iu : Bool) (jop ja jb jc jim : Int) (ju : Bool) (R Z : Int) (W W1 : World) (HW : Field.Aside (W1 = W.alloc (.cells #[.int .i64 ikd, .int .i64 iop, .int .i64 ia, .int .i64 ib, .int .i64 ic, .int .i64 iim, .bool iu] 23)))
   (_r0 : 0 ≤ R) (_r1 : R ≤ 4294967295) (_a0 : 0 ≤ ja) (_a1 : ja ≤ 15) (_b0 : 0 ≤ jb) (_b1 : jb ≤ 15) (_c0 : 0 ≤ jc) (_c1 : jc ≤ 15) (_o0 : 0 ≤ jop) (_o1 : jop ≤ 15)
   (SH : Field.Aside (∀ wx, Calls Try.prog 11 #[] wx fun e w' => e = .returned (.bool true) ∧ Bl wx w'))
   (FT : Field.Aside (∀ wx, Calls Try.prog 18 #[.agg #[.int .i64 ikd, .int .i64 iop, .int .i64 ia, .int .i64 ib, .int .i64 ic, .int .i64 iim, .bool iu]] wx fun e w' => e = .returned (.agg #[.int .i64 5, .int .i64 jop, .int .i64 ja, .int .i64 jb, .int .i64 jc, .int .i64 jim, .bool ju]) ∧ Bl wx w'))
   (EN : Field.Aside (∀ wx, Calls Try.prog 12 #[.agg #[.int .i64 5, .int .i64 jop, .int .i64 ja, .int .i64 jb, .int .i64 jc, .int .i64 jim, .bool ju]] wx fun e w' => e = .returned (.tuple #[.int .u32 R, .int .i64 0]) ∧ Bl wx w'))
   (G30 : Field.Aside (∀ wx, Calls Try.prog 19 #[.int .u32 R, .int .i64 30, .int .i64 2] wx fun e w' => e = .returned (.int .u32 2) ∧ Bl wx w'))
   (G24 : Field.Aside (∀ wx, Calls Try.prog 19 #[.int .u32 R, .int .i64 24, .int .i64 4] wx fun e w' => e = .returned (.int .u32 ja) ∧ Bl wx w'))
   (G20 : Field.Aside (∀ wx, Calls Try.prog 19 #[.int .u32 R, .int .i64 20, .int .i64 4] wx fun e w' => e = .returned (.int .u32 jb) ∧ Bl wx w'))
   (G16 : Field.Aside (∀ wx, Calls Try.prog 19 #[.int .u32 R, .int .i64 16, .int .i64 4] wx fun e w' => e = .returned (.int .u32 Z) ∧ Bl wx w'))
   (S20 : Field.Aside (∀ wx, Calls Try.prog 20 #[.int .u32 R, .int .i64 20] wx fun e w' => e = .returned (.int .i64 jim) ∧ w' = wx)) :
   Calls Try.prog 8 #[.agg #[.int .i64 ikd, .int .i64 iop, .int .i64 ia, .int .i64 ib, .int .i64 ic, .int .i64 iim, .bool iu]] W fun e w' => e = .returned (.bool true) ∧ Bl W w' := by
  have HWB : Field.Aside (Bl W W1) := ⟨⟨by have := HW.out; subst this; exact (Below.refl _ _).alloc (Nat.le_refl _) _⟩⟩
  have RZ : Field.Aside (IBox W.heap.size ikd iop ia ib ic iim iu W1) := ⟨by rw [HW.out]; exact IBox.new W ikd iop ia ib ic iim iu _⟩
  go_enter Try.func8, Try.ntmps8
  go_wp2_with fail
  rw [← HW.out]
  refine (SH.out _).mono ?_
  rintro e w1 ⟨rfl, k1⟩
  obtain ⟨i0, i1, i2, i3, i4, i5, i6, fz⟩ := RZ.out.keep k1
  have K1 := Field.Aside.mk (HWB.out.then k1.out)
  clear k1
  go_wp2_with fail
  refine (FT.out _).mono ?_
  rintro e w2 ⟨rfl, k2⟩
  have K2 := Field.Aside.mk ((K1.out.then k2.out).alloc (.cells #[.int .i64 5, .int .i64 jop, .int .i64 ja, .int .i64 jb, .int .i64 jc, .int .i64 jim, .bool ju] 23))
  have X := Field.Aside.mk (IBox.new w2 5 jop ja jb jc jim ju 23)
  clear k2 i0 i1 i2 i3 i4 i5 i6 fz
  go_wp2_with fail
  refine (EN.out _).mono ?_
  rintro e w3 ⟨rfl, k3⟩
  have K3 := Field.Aside.mk (K2.out.then k3.out)
  have X3 := Field.Aside.mk (X.out.keep k3)
  clear k3
  go_wp2_with fail
  refine (G30.out _).mono ?_
  rintro e w4 ⟨rfl, k4⟩
  have K4 := Field.Aside.mk (K3.out.then k4.out)
  have X4 := Field.Aside.mk (X3.out.keep k4)
  clear k4
  go_wp2_with fail
  refine (G24.out _).mono ?_
  rintro e w5 ⟨rfl, k5⟩
  have K5 := Field.Aside.mk (K4.out.then k5.out)
  have X5 := Field.Aside.mk (X4.out.keep k5)
  clear k5
  go_wp2_with fail
  refine (G20.out _).mono ?_
  rintro e w6 ⟨rfl, k6⟩
  have K6 := Field.Aside.mk (K5.out.then k6.out)
  have X6 := Field.Aside.mk (X5.out.keep k6)
  clear k6
  go_wp2_with fail
  refine (G16.out _).mono ?_
  rintro e w7 ⟨rfl, k7⟩
  have K7 := Field.Aside.mk (K6.out.then k7.out)
  obtain ⟨i0, i1, i2, i3, i4, i5, i6, fz⟩ := X6.out.keep k7
  have X7 := Field.Aside.mk (X6.out.keep k7)
  clear k7 fz
  go_wp2_with fail
  go_quiet ((go_at_call 20; exact Calls.quiet_of_same (S20.out _)))
  go_wp2
  go_ret
  exact ⟨rfl, K7.out.then (below_drewN _ _)⟩

set_option maxRecDepth 100000 in
set_option maxHeartbeats 4000000 in
theorem fields_7 (ikd iop ia ib ic iim : Int) (iu : Bool) (jop ja jb jc jim : Int) (ju : Bool) (R Y Z : Int) (W W1 : World) (HW : Field.Aside (W1 = W.alloc (.cells #[.int .i64 ikd, .int .i64 iop, .int .i64 ia, .int .i64 ib, .int .i64 ic, .int .i64 iim, .bool iu] 23)))
   (_r0 : 0 ≤ R) (_r1 : R ≤ 4294967295) (_a0 : 0 ≤ ja) (_a1 : ja ≤ 15) (_b0 : 0 ≤ jb) (_b1 : jb ≤ 15) (_c0 : 0 ≤ jc) (_c1 : jc ≤ 15) (_o0 : 0 ≤ jop) (_o1 : jop ≤ 15)
   (SH : Field.Aside (∀ wx, Calls Try.prog 11 #[] wx fun e w' => e = .returned (.bool true) ∧ Bl wx w'))
   (FT : Field.Aside (∀ wx, Calls Try.prog 18 #[.agg #[.int .i64 ikd, .int .i64 iop, .int .i64 ia, .int .i64 ib, .int .i64 ic, .int .i64 iim, .bool iu]] wx fun e w' => e = .returned (.agg #[.int .i64 7, .int .i64 jop, .int .i64 ja, .int .i64 jb, .int .i64 jc, .int .i64 jim, .bool ju]) ∧ Bl wx w'))
   (EN : Field.Aside (∀ wx, Calls Try.prog 12 #[.agg #[.int .i64 7, .int .i64 jop, .int .i64 ja, .int .i64 jb, .int .i64 jc, .int .i64 jim, .bool ju]] wx fun e w' => e = .returned (.tuple #[.int .u32 R, .int .i64 0]) ∧ Bl wx w'))
   (G30 : Field.Aside (∀ wx, Calls Try.prog 19 #[.int .u32 R, .int .i64 30, .int .i64 2] wx fun e w' => e = .returned (.int .u32 3) ∧ Bl wx w'))
   (G24 : Field.Aside (∀ wx, Calls Try.prog 19 #[.int .u32 R, .int .i64 24, .int .i64 4] wx fun e w' => e = .returned (.int .u32 jop) ∧ Bl wx w'))
   (G20 : Field.Aside (∀ wx, Calls Try.prog 19 #[.int .u32 R, .int .i64 20, .int .i64 4] wx fun e w' => e = .returned (.int .u32 Y) ∧ Bl wx w'))
   (G16 : Field.Aside (∀ wx, Calls Try.prog 19 #[.int .u32 R, .int .i64 16, .int .i64 4] wx fun e w' => e = .returned (.int .u32 Z) ∧ Bl wx w'))
   (S24 : Field.Aside (∀ wx, Calls Try.prog 20 #[.int .u32 R, .int .i64 24] wx fun e w' => e = .returned (.int .i64 jim) ∧ w' = wx))
   (G29 : Field.Aside (∀ wx, Calls Try.prog 19 #[.int .u32 R, .int .i64 29, .int .i64 1] wx fun e w' => e = .returned (.int .u32 1) ∧ Bl wx w')) :
   Calls Try.prog 8 #[.agg #[.int .i64 ikd, .int .i64 iop, .int .i64 ia, .int .i64 ib, .int .i64 ic, .int .i64 iim, .bool iu]] W fun e w' => e = .returned (.bool true) ∧ Bl W w' := by
  have HWB : Field.Aside (Bl W W1) := ⟨⟨by have := HW.out; subst this; exact (Below.refl _ _).alloc (Nat.le_refl _) _⟩⟩
  have RZ : Field.Aside (IBox W.heap.size ikd iop ia ib ic iim iu W1) := ⟨by rw [HW.out]; exact IBox.new W ikd iop ia ib ic iim iu _⟩
  go_enter Try.func8, Try.ntmps8
  go_wp2_with fail
  rw [← HW.out]
  refine (SH.out _).mono ?_
  rintro e w1 ⟨rfl, k1⟩
  obtain ⟨i0, i1, i2, i3, i4, i5, i6, fz⟩ := RZ.out.keep k1
  have K1 := Field.Aside.mk (HWB.out.then k1.out)
  clear k1
  go_wp2_with fail
  refine (FT.out _).mono ?_
  rintro e w2 ⟨rfl, k2⟩
  have K2 := Field.Aside.mk ((K1.out.then k2.out).alloc (.cells #[.int .i64 7, .int .i64 jop, .int .i64 ja, .int .i64 jb, .int .i64 jc, .int .i64 jim, .bool ju] 23))
  have X := Field.Aside.mk (IBox.new w2 7 jop ja jb jc jim ju 23)
  clear k2 i0 i1 i2 i3 i4 i5 i6 fz
  go_wp2_with fail
  refine (EN.out _).mono ?_
  rintro e w3 ⟨rfl, k3⟩
  have K3 := Field.Aside.mk (K2.out.then k3.out)
  have X3 := Field.Aside.mk (X.out.keep k3)
  clear k3
  go_wp2_with fail
  refine (G30.out _).mono ?_
  rintro e w4 ⟨rfl, k4⟩
  have K4 := Field.Aside.mk (K3.out.then k4.out)
  have X4 := Field.Aside.mk (X3.out.keep k4)
  clear k4
  go_wp2_with fail
  refine (G24.out _).mono ?_
  rintro e w5 ⟨rfl, k5⟩
  have K5 := Field.Aside.mk (K4.out.then k5.out)
  have X5 := Field.Aside.mk (X4.out.keep k5)
  clear k5
  go_wp2_with fail
  refine (G20.out _).mono ?_
  rintro e w6 ⟨rfl, k6⟩
  have K6 := Field.Aside.mk (K5.out.then k6.out)
  have X6 := Field.Aside.mk (X5.out.keep k6)
  clear k6
  go_wp2_with fail
  refine (G16.out _).mono ?_
  rintro e w7 ⟨rfl, k7⟩
  have K7 := Field.Aside.mk (K6.out.then k7.out)
  obtain ⟨i0, i1, i2, i3, i4, i5, i6, fz⟩ := X6.out.keep k7
  have X7 := Field.Aside.mk (X6.out.keep k7)
  clear k7 fz
  go_wp2_with fail
  have B7 : Bl w7 w7 := Bl.refl _
  go_region_held3 (fun w' => Bl w7 w' ∧ w'.cell? ⟨w2.heap.size, 1, none⟩ = some (.int .i64 jop) ∧ w'.cell? ⟨w2.heap.size, 5, none⟩ = some (.int .i64 jim)) (first | ((refine keep2 i1 i5 ?_); with_reducible assumption) | ((refine keep2 i1 i5 (Bl.drew ?_)); with_reducible assumption) | ((refine keep2 i1 i5 ?_); exact And.left (by with_reducible assumption))) (first | (go_at_call 20; (with_reducible refine (S24.out _).mono ?_); rintro e wn ⟨rfl, rfl⟩) | (go_at_call 19; (with_reducible refine (G29.out _).mono ?_); rintro e wn ⟨rfl, kn⟩; have BN : Bl w7 wn := Bl.then (And.left (by with_reducible assumption)) kn.out; clear kn))
  all_goals (try go_wp2)
  all_goals go_ret
  all_goals exact ⟨rfl, K7.out.then BN.out⟩

theorem get_r (R : Nat) (hR : R < 4294967296) (at_ n : Int) (hn : n ≤ 9223372036854775807) {r : Int} (hr : (getN R at_ n : Int) = r) : Field.Aside (∀ wx, Calls Try.prog 19 #[.int .u32 R, .int .i64 at_, .int .i64 n] wx fun e w' => e = .returned (.int .u32 r) ∧ Bl wx w') :=
  ⟨fun wx => (get_any R at_ n wx hR hn).mono fun _ _ ⟨e, k⟩ => ⟨by rw [e, hr], ⟨k⟩⟩⟩
theorem signed_r (R : Nat) (n : Int) {r : Int} (hr : signedN R (kn n) = r) : Field.Aside (∀ wx, Calls Try.prog 20 #[.int .u32 R, .int .i64 n] wx fun e w' => e = .returned (.int .i64 r) ∧ w' = wx) :=
  ⟨fun wx => (signed_any R n wx).mono fun _ _ ⟨e, k⟩ => ⟨by rw [e, hr], k.symm⟩⟩
theorem and_low (R m k d : Nat) (mi : Int) (hi : mi = (m : Int)) (hd : 2 ^ k = d) (hm : m = d - 1) (hx : R < 4294967296) (hk : k ≤ 32) {r : Int} (hr : ((R % d : Nat) : Int) = r) : bits .and .u32 (R : Int) mi = r := by
  have h2 : 2 ^ k ≤ 2 ^ 32 := Nat.pow_le_pow_right (by decide) hk
  have h3 := Nat.two_pow_pos k
  rw [hi, u32_and_nat _ _ hx (by omega), hm, ← hd, Nat.and_two_pow_sub_one_eq_mod, hd, hr]
set_option maxHeartbeats 4000000 in
theorem fields_walk (kd op a b c im : Int) (u : Bool) (W : World) (_wz0 : (Lit.int .i64 kd).wf = true) (_wz1 : (Lit.int .i64 op).wf = true) (_wz2 : (Lit.int .i64 a).wf = true) (_wz3 : (Lit.int .i64 b).wf = true) (_wz4 : (Lit.int .i64 c).wf = true) (_wz5 : (Lit.int .i64 im).wf = true) :
   Calls Try.prog 8 #[.agg #[.int .i64 kd, .int .i64 op, .int .i64 a, .int .i64 b, .int .i64 c, .int .i64 im, .bool u]] W fun e w' => e = .returned (.bool true) ∧ Below W.heap.size W w' := by
  obtain ⟨j, hm, FT⟩ := fit_is ⟨kd, op, a, b, c, im, u⟩
  have hb := may_bounds hm
  have hf := may_fields hm
  have EN := encode_ok j hm
  have rd := may_read hm
  have hl := wordN_lt j
  obtain ⟨jkd, jop, ja, jb, jc, jim, ju⟩ := j
  dsimp only [Ins.v] at *
  obtain ⟨R, hR⟩ : ∃ R, R = wordN ⟨jkd, jop, ja, jb, jc, jim, ju⟩ := ⟨_, rfl⟩
  rw [← hR] at EN rd hl
  have e30 := get_at R 30 2 1073741824 4 (by decide) (by decide) (by decide)
  have e29 := get_at R 29 1 536870912 2 (by decide) (by decide) (by decide)
  have e24 := get_at R 24 4 16777216 16 (by decide) (by decide) (by decide)
  have e20 := get_at R 20 4 1048576 16 (by decide) (by decide) (by decide)
  have e16 := get_at R 16 4 65536 16 (by decide) (by decide) (by decide)
  have r0 : (0 : Int) ≤ R := by omega
  have r1 : (R : Int) ≤ 4294967295 := by omega
  have big : ∀ n : Int, n ≤ 24 → n ≤ 9223372036854775807 := fun n h => by omega
  have hb' := b2i_range ju
  rcases (show jkd = 1 ∨ jkd = 2 ∨ jkd = 3 ∨ jkd = 4 ∨ jkd = 5 ∨ jkd = 6 ∨ jkd = 7 by omega) with rfl | rfl | rfl | rfl | rfl | rfl | rfl
  · have w := word1 jop ja jb jc jim ju
    rw [← hR] at w
    clear hR rd hm
    exact (fields_1 kd op a b c im u jop ja jb jc jim ju R W _ ⟨rfl⟩ r0 r1 hf.1 hf.2.1 hf.2.2.1 hf.2.2.2.1 hf.2.2.2.2.1 hf.2.2.2.2.2.1 hb.2.2.1 hb.2.2.2 shown_any FT EN (and_low R 15 4 16 15 rfl (by decide) rfl hl (by decide) (by omega))
      (get_r R hl 30 2 (by decide) (e30.trans (by omega))) (get_r R hl 24 4 (by decide) (e24.trans (by omega))) (get_r R hl 20 4 (by decide) (e20.trans (by omega))) (get_r R hl 16 4 (by decide) (e16.trans (by omega)))).mono fun _ _ ⟨e, k⟩ => ⟨e, k.out⟩
  · have w := word2 jop ja jb jc jim ju
    rw [← hR, b2i_dec] at w
    clear hR rd hm
    have q30 : R / 1073741824 % 4 = 1 := by split at w <;> omega
    have q24 : ((R / 16777216 % 16 : Nat) : Int) = ja := by split at w <;> omega
    have q20' : ((R / 1048576 % 16 : Nat) : Int) = jb := by split at w <;> omega
    have q16' : ((R / 65536 % 16 : Nat) : Int) = jop := by split at w <;> omega
    have ql : ((R % 65536 : Nat) : Int) = jim % 65536 := by split at w <;> omega
    clear w
    exact (fields_2 kd op a b c im u jop ja jb jc jim ju R (jim % 65536) W _ ⟨rfl⟩ r0 r1 hf.1 hf.2.1 hf.2.2.1 hf.2.2.2.1 hf.2.2.2.2.1 hf.2.2.2.2.2.1 hb.2.2.1 hb.2.2.2 shown_any FT EN (and_low R 65535 16 65536 65535 rfl (by decide) rfl hl (by decide) ql) (and65535 jim) (by omega) (by omega)
      (get_r R hl 30 2 (by decide) (e30.trans (by omega))) (get_r R hl 24 4 (by decide) (e24.trans q24)) (get_r R hl 20 4 (by decide) (e20.trans q20')) (get_r R hl 16 4 (by decide) (e16.trans q16'))).mono fun _ _ ⟨e, k⟩ => ⟨e, k.out⟩
  · have w := word3 jop ja jb jc jim ju
    rw [← hR] at w
    clear hR rd hm
    exact (fields_3 kd op a b c im u jop ja jb jc jim ju R _ _ W _ ⟨rfl⟩ r0 r1 hf.1 hf.2.1 hf.2.2.1 hf.2.2.2.1 hf.2.2.2.2.1 hf.2.2.2.2.2.1 hb.2.2.1 hb.2.2.2 shown_any FT EN (by omega)
      (get_r R hl 30 2 (by decide) (e30.trans (by omega))) (get_r R hl 24 4 (by decide) (e24.trans (by omega))) (get_r R hl 20 4 (by decide) rfl) (get_r R hl 16 4 (by decide) rfl) (get_r R hl 29 1 (by decide) (e29.trans (by omega)))).mono fun _ _ ⟨e, k⟩ => ⟨e, k.out⟩
  · have w := word4 jop ja jb jc jim ju
    rw [← hR] at w
    clear hR rd hm
    exact (fields_4 kd op a b c im u jop ja jb jc jim ju R _ _ W _ ⟨rfl⟩ r0 r1 hf.1 hf.2.1 hf.2.2.1 hf.2.2.2.1 hf.2.2.2.2.1 hf.2.2.2.2.2.1 hb.2.2.1 hb.2.2.2 shown_any FT EN (by omega)
      (get_r R hl 30 2 (by decide) (e30.trans (by omega))) (get_r R hl 24 4 (by decide) (e24.trans (by omega))) (get_r R hl 20 4 (by decide) rfl) (get_r R hl 16 4 (by decide) rfl) (get_r R hl 29 1 (by decide) (e29.trans (by omega)))).mono fun _ _ ⟨e, k⟩ => ⟨e, k.out⟩
  · have w := word5 jop ja jb jc jim ju
    have h1 := b2i_range (decide (2 ≤ jop))
    have h2 := b2i_range (jop % 2 == 1)
    rw [← hR] at w
    have q30 : R / 1073741824 % 4 = 2 := by omega
    have q24 : ((R / 16777216 % 16 : Nat) : Int) = ja := by omega
    have q20' : ((R / 1048576 % 16 : Nat) : Int) = jb := by omega
    have qs : signedN R 19 = jim := by
      rw [read_mem q30] at rd
      exact (congrArg Ins.im rd).symm
    clear w hR rd hm
    exact (fields_5 kd op a b c im u jop ja jb jc jim ju R _ W _ ⟨rfl⟩ r0 r1 hf.1 hf.2.1 hf.2.2.1 hf.2.2.2.1 hf.2.2.2.2.1 hf.2.2.2.2.2.1 hb.2.2.1 hb.2.2.2 shown_any FT EN
      (get_r R hl 30 2 (by decide) (e30.trans (by omega))) (get_r R hl 24 4 (by decide) (e24.trans q24)) (get_r R hl 20 4 (by decide) (e20.trans q20')) (get_r R hl 16 4 (by decide) rfl) (signed_r R 20 qs)).mono fun _ _ ⟨e, k⟩ => ⟨e, k.out⟩
  · have w := word6 jop ja jb jc jim ju
    rw [← hR] at w
    clear hR rd hm
    exact (fields_6 kd op a b c im u jop ja jb jc jim ju R _ _ W _ ⟨rfl⟩ r0 r1 hf.1 hf.2.1 hf.2.2.1 hf.2.2.2.1 hf.2.2.2.2.1 hf.2.2.2.2.2.1 hb.2.2.1 hb.2.2.2 shown_any FT EN (and_low R 15 4 16 15 rfl (by decide) rfl hl (by decide) (by omega))
      (get_r R hl 30 2 (by decide) (e30.trans (by omega))) (get_r R hl 24 4 (by decide) (e24.trans (by omega))) (get_r R hl 20 4 (by decide) rfl) (get_r R hl 16 4 (by decide) rfl) (get_r R hl 29 1 (by decide) (e29.trans (by omega)))).mono fun _ _ ⟨e, k⟩ => ⟨e, k.out⟩
  · have w := word7 jop ja jb jc jim ju
    rw [← hR] at w
    have q30 : R / 1073741824 % 4 = 3 := by omega
    have q29' : R / 536870912 % 2 = 1 := by omega
    have q24 : ((R / 16777216 % 16 : Nat) : Int) = jop := by omega
    have qs : signedN R 23 = jim := by
      rw [read_jmp q30 q29'] at rd
      exact (congrArg Ins.im rd).symm
    clear w hR rd hm
    exact (fields_7 kd op a b c im u jop ja jb jc jim ju R _ _ W _ ⟨rfl⟩ r0 r1 hf.1 hf.2.1 hf.2.2.1 hf.2.2.2.1 hf.2.2.2.2.1 hf.2.2.2.2.2.1 hb.2.2.1 hb.2.2.2 shown_any FT EN
      (get_r R hl 30 2 (by decide) (e30.trans (by omega))) (get_r R hl 24 4 (by decide) (e24.trans q24)) (get_r R hl 20 4 (by decide) rfl) (get_r R hl 16 4 (by decide) rfl) (signed_r R 24 qs) (get_r R hl 29 1 (by decide) (e29.trans (by omega)))).mono fun _ _ ⟨e, k⟩ => ⟨e, k.out⟩
end Go.Proofs.Ytnilkljibdjjgaa.Isa
