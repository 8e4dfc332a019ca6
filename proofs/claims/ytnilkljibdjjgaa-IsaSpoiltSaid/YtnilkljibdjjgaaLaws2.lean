/-
  IsaSpoilt's walk: an instruction with one thing of it beyond its bounds may not be.
-/
import Derived.Test.YtnilkljibdjjgaaFit
namespace Go.Proofs.Ytnilkljibdjjgaa.Isa
open Go Go.RowKit Go.Proofs.Ytnilkljibdjjgaa.FieldM Go.Proofs.Ytnilkljibdjjgaa.Field

set_option maxHeartbeats 4000000 in
theorem spoilt_0 (ikd iop ia ib ic iim : Int) (iu : Bool) (jkd jop ja jb jc jim : Int) (ju : Bool) (wh n : Int) (W W1 : World) (_h : wh % 7 = 0) (_h0 : 0 ≤ wh) (_h1 : wh ≤ 255) (_n0 : 0 ≤ n) (_n1 : n ≤ 65535)
   (HW : Field.Aside (W1 = W.alloc (.cells #[.int .i64 ikd, .int .i64 iop, .int .i64 ia, .int .i64 ib, .int .i64 ic, .int .i64 iim, .bool iu] 23)))
   (SH : Field.Aside (∀ wx, Calls Try.prog 11 #[] wx fun e w' => e = .returned (.bool true) ∧ Bl wx w'))
   (FT : Field.Aside (∀ wx, Calls Try.prog 18 #[.agg #[.int .i64 ikd, .int .i64 iop, .int .i64 ia, .int .i64 ib, .int .i64 ic, .int .i64 iim, .bool iu]] wx fun e w' => e = .returned (.agg #[.int .i64 jkd, .int .i64 jop, .int .i64 ja, .int .i64 jb, .int .i64 jc, .int .i64 jim, .bool ju]) ∧ Bl wx w'))
   (EN : Field.Aside (∀ wx, Calls Try.prog 12 #[.agg #[.int .i64 (7 + (1 + n)), .int .i64 jop, .int .i64 ja, .int .i64 jb, .int .i64 jc, .int .i64 jim, .bool ju]] wx fun e w' => e = .returned (.tuple #[.int .u32 0, .int .i64 1]) ∧ Bl wx w'))
   (MY : Field.Aside (∀ wx, Calls Try.prog 16 #[.agg #[.int .i64 (7 + (1 + n)), .int .i64 jop, .int .i64 ja, .int .i64 jb, .int .i64 jc, .int .i64 jim, .bool ju]] wx fun e w' => e = .returned (.bool false) ∧ Bl wx w')) :
   Calls Try.prog 7 #[.agg #[.int .i64 ikd, .int .i64 iop, .int .i64 ia, .int .i64 ib, .int .i64 ic, .int .i64 iim, .bool iu], .int .u8 wh, .int .u16 n] W fun e w' => e = .returned (.bool true) ∧ Bl W w' := by
  have HWB : Field.Aside (Bl W W1) := ⟨⟨by have := HW.out; subst this; exact (Below.refl _ _).alloc (Nat.le_refl _) _⟩⟩
  have RZ : Field.Aside (IBox W.heap.size ikd iop ia ib ic iim iu W1) := ⟨by rw [HW.out]; exact IBox.new W ikd iop ia ib ic iim iu _⟩
  go_enter Try.func7, Try.ntmps7
  go_wp2_with fail
  rw [← HW.out]
  refine (SH.out _).mono ?_
  rintro e w1 ⟨rfl, k1⟩
  obtain ⟨i0, i1, i2, i3, i4, i5, i6, fz⟩ := RZ.out.keep k1
  have K1 := Field.Aside.mk (HWB.out.then k1.out)
  clear k1
  go_wp2_with fail
  refine (FT.out _).mono ?_
  rintro e w2 ⟨rfl, k2⟩
  have K2 := Field.Aside.mk (K1.out.then k2.out)
  clear k2 i0 i1 i2 i3 i4 i5 i6 fz
  go_wp2_with fail
  have K3 := Field.Aside.mk (K2.out.alloc (.cells #[.int .i64 (7 + (1 + n)), .int .i64 jop, .int .i64 ja, .int .i64 jb, .int .i64 jc, .int .i64 jim, .bool ju] 23))
  have X := Field.Aside.mk (IBox.new w2 (7 + (1 + n)) jop ja jb jc jim ju 23)
  refine (EN.out _).mono ?_
  rintro e w3 ⟨rfl, k3⟩
  obtain ⟨i0, i1, i2, i3, i4, i5, i6, fz⟩ := X.out.keep k3
  have K4 := Field.Aside.mk (K3.out.then k3.out)
  clear k3
  go_wp2_with fail
  refine (MY.out _).mono ?_
  rintro e w4 ⟨rfl, k4⟩
  have K5 := Field.Aside.mk (K4.out.then k4.out)
  clear k4
  go_wp2_with fail
  go_ret
  exact ⟨rfl, K5.out⟩

set_option maxHeartbeats 4000000 in
theorem spoilt_1 (ikd iop ia ib ic iim : Int) (iu : Bool) (jkd jop ja jb jc jim : Int) (ju : Bool) (wh n : Int) (W W1 : World) (_h : wh % 7 = 1) (_h0 : 0 ≤ wh) (_h1 : wh ≤ 255) (_n0 : 0 ≤ n) (_n1 : n ≤ 65535)
   (HW : Field.Aside (W1 = W.alloc (.cells #[.int .i64 ikd, .int .i64 iop, .int .i64 ia, .int .i64 ib, .int .i64 ic, .int .i64 iim, .bool iu] 23)))
   (SH : Field.Aside (∀ wx, Calls Try.prog 11 #[] wx fun e w' => e = .returned (.bool true) ∧ Bl wx w'))
   (FT : Field.Aside (∀ wx, Calls Try.prog 18 #[.agg #[.int .i64 ikd, .int .i64 iop, .int .i64 ia, .int .i64 ib, .int .i64 ic, .int .i64 iim, .bool iu]] wx fun e w' => e = .returned (.agg #[.int .i64 jkd, .int .i64 jop, .int .i64 ja, .int .i64 jb, .int .i64 jc, .int .i64 jim, .bool ju]) ∧ Bl wx w'))
   (EN : Field.Aside (∀ wx, Calls Try.prog 12 #[.agg #[.int .i64 jkd, .int .i64 jop, .int .i64 (15 + (1 + n)), .int .i64 jb, .int .i64 jc, .int .i64 jim, .bool ju]] wx fun e w' => e = .returned (.tuple #[.int .u32 0, .int .i64 1]) ∧ Bl wx w'))
   (MY : Field.Aside (∀ wx, Calls Try.prog 16 #[.agg #[.int .i64 jkd, .int .i64 jop, .int .i64 (15 + (1 + n)), .int .i64 jb, .int .i64 jc, .int .i64 jim, .bool ju]] wx fun e w' => e = .returned (.bool false) ∧ Bl wx w')) :
   Calls Try.prog 7 #[.agg #[.int .i64 ikd, .int .i64 iop, .int .i64 ia, .int .i64 ib, .int .i64 ic, .int .i64 iim, .bool iu], .int .u8 wh, .int .u16 n] W fun e w' => e = .returned (.bool true) ∧ Bl W w' := by
  have HWB : Field.Aside (Bl W W1) := ⟨⟨by have := HW.out; subst this; exact (Below.refl _ _).alloc (Nat.le_refl _) _⟩⟩
  have RZ : Field.Aside (IBox W.heap.size ikd iop ia ib ic iim iu W1) := ⟨by rw [HW.out]; exact IBox.new W ikd iop ia ib ic iim iu _⟩
  go_enter Try.func7, Try.ntmps7
  go_wp2_with fail
  rw [← HW.out]
  refine (SH.out _).mono ?_
  rintro e w1 ⟨rfl, k1⟩
  obtain ⟨i0, i1, i2, i3, i4, i5, i6, fz⟩ := RZ.out.keep k1
  have K1 := Field.Aside.mk (HWB.out.then k1.out)
  clear k1
  go_wp2_with fail
  refine (FT.out _).mono ?_
  rintro e w2 ⟨rfl, k2⟩
  have K2 := Field.Aside.mk (K1.out.then k2.out)
  clear k2 i0 i1 i2 i3 i4 i5 i6 fz
  go_wp2_with fail
  have K3 := Field.Aside.mk (K2.out.alloc (.cells #[.int .i64 jkd, .int .i64 jop, .int .i64 (15 + (1 + n)), .int .i64 jb, .int .i64 jc, .int .i64 jim, .bool ju] 23))
  have X := Field.Aside.mk (IBox.new w2 jkd jop (15 + (1 + n)) jb jc jim ju 23)
  refine (EN.out _).mono ?_
  rintro e w3 ⟨rfl, k3⟩
  obtain ⟨i0, i1, i2, i3, i4, i5, i6, fz⟩ := X.out.keep k3
  have K4 := Field.Aside.mk (K3.out.then k3.out)
  clear k3
  go_wp2_with fail
  refine (MY.out _).mono ?_
  rintro e w4 ⟨rfl, k4⟩
  have K5 := Field.Aside.mk (K4.out.then k4.out)
  clear k4
  go_wp2_with fail
  go_ret
  exact ⟨rfl, K5.out⟩

set_option maxHeartbeats 4000000 in
theorem spoilt_2 (ikd iop ia ib ic iim : Int) (iu : Bool) (jkd jop ja jb jc jim : Int) (ju : Bool) (wh n : Int) (W W1 : World) (_h : wh % 7 = 2) (_h0 : 0 ≤ wh) (_h1 : wh ≤ 255) (_n0 : 0 ≤ n) (_n1 : n ≤ 65535)
   (HW : Field.Aside (W1 = W.alloc (.cells #[.int .i64 ikd, .int .i64 iop, .int .i64 ia, .int .i64 ib, .int .i64 ic, .int .i64 iim, .bool iu] 23)))
   (SH : Field.Aside (∀ wx, Calls Try.prog 11 #[] wx fun e w' => e = .returned (.bool true) ∧ Bl wx w'))
   (FT : Field.Aside (∀ wx, Calls Try.prog 18 #[.agg #[.int .i64 ikd, .int .i64 iop, .int .i64 ia, .int .i64 ib, .int .i64 ic, .int .i64 iim, .bool iu]] wx fun e w' => e = .returned (.agg #[.int .i64 jkd, .int .i64 jop, .int .i64 ja, .int .i64 jb, .int .i64 jc, .int .i64 jim, .bool ju]) ∧ Bl wx w'))
   (EN : Field.Aside (∀ wx, Calls Try.prog 12 #[.agg #[.int .i64 jkd, .int .i64 jop, .int .i64 ja, .int .i64 (-(1 + n)), .int .i64 jc, .int .i64 jim, .bool ju]] wx fun e w' => e = .returned (.tuple #[.int .u32 0, .int .i64 1]) ∧ Bl wx w'))
   (MY : Field.Aside (∀ wx, Calls Try.prog 16 #[.agg #[.int .i64 jkd, .int .i64 jop, .int .i64 ja, .int .i64 (-(1 + n)), .int .i64 jc, .int .i64 jim, .bool ju]] wx fun e w' => e = .returned (.bool false) ∧ Bl wx w')) :
   Calls Try.prog 7 #[.agg #[.int .i64 ikd, .int .i64 iop, .int .i64 ia, .int .i64 ib, .int .i64 ic, .int .i64 iim, .bool iu], .int .u8 wh, .int .u16 n] W fun e w' => e = .returned (.bool true) ∧ Bl W w' := by
  have HWB : Field.Aside (Bl W W1) := ⟨⟨by have := HW.out; subst this; exact (Below.refl _ _).alloc (Nat.le_refl _) _⟩⟩
  have RZ : Field.Aside (IBox W.heap.size ikd iop ia ib ic iim iu W1) := ⟨by rw [HW.out]; exact IBox.new W ikd iop ia ib ic iim iu _⟩
  go_enter Try.func7, Try.ntmps7
  go_wp2_with fail
  rw [← HW.out]
  refine (SH.out _).mono ?_
  rintro e w1 ⟨rfl, k1⟩
  obtain ⟨i0, i1, i2, i3, i4, i5, i6, fz⟩ := RZ.out.keep k1
  have K1 := Field.Aside.mk (HWB.out.then k1.out)
  clear k1
  go_wp2_with fail
  refine (FT.out _).mono ?_
  rintro e w2 ⟨rfl, k2⟩
  have K2 := Field.Aside.mk (K1.out.then k2.out)
  clear k2 i0 i1 i2 i3 i4 i5 i6 fz
  go_wp2_with fail
  have K3 := Field.Aside.mk (K2.out.alloc (.cells #[.int .i64 jkd, .int .i64 jop, .int .i64 ja, .int .i64 (-(1 + n)), .int .i64 jc, .int .i64 jim, .bool ju] 23))
  have X := Field.Aside.mk (IBox.new w2 jkd jop ja (-(1 + n)) jc jim ju 23)
  refine (EN.out _).mono ?_
  rintro e w3 ⟨rfl, k3⟩
  obtain ⟨i0, i1, i2, i3, i4, i5, i6, fz⟩ := X.out.keep k3
  have K4 := Field.Aside.mk (K3.out.then k3.out)
  clear k3
  go_wp2_with fail
  refine (MY.out _).mono ?_
  rintro e w4 ⟨rfl, k4⟩
  have K5 := Field.Aside.mk (K4.out.then k4.out)
  clear k4
  go_wp2_with fail
  go_ret
  exact ⟨rfl, K5.out⟩

set_option maxHeartbeats 4000000 in
theorem spoilt_3 (ikd iop ia ib ic iim : Int) (iu : Bool) (jkd jop ja jb jc jim : Int) (ju : Bool) (wh n : Int) (W W1 : World) (_h : wh % 7 = 3) (_h0 : 0 ≤ wh) (_h1 : wh ≤ 255) (_n0 : 0 ≤ n) (_n1 : n ≤ 65535)
   (HW : Field.Aside (W1 = W.alloc (.cells #[.int .i64 ikd, .int .i64 iop, .int .i64 ia, .int .i64 ib, .int .i64 ic, .int .i64 iim, .bool iu] 23)))
   (SH : Field.Aside (∀ wx, Calls Try.prog 11 #[] wx fun e w' => e = .returned (.bool true) ∧ Bl wx w'))
   (FT : Field.Aside (∀ wx, Calls Try.prog 18 #[.agg #[.int .i64 ikd, .int .i64 iop, .int .i64 ia, .int .i64 ib, .int .i64 ic, .int .i64 iim, .bool iu]] wx fun e w' => e = .returned (.agg #[.int .i64 jkd, .int .i64 jop, .int .i64 ja, .int .i64 jb, .int .i64 jc, .int .i64 jim, .bool ju]) ∧ Bl wx w'))
   (EN : Field.Aside (∀ wx, Calls Try.prog 12 #[.agg #[.int .i64 jkd, .int .i64 jop, .int .i64 ja, .int .i64 jb, .int .i64 (15 + (1 + n)), .int .i64 jim, .bool ju]] wx fun e w' => e = .returned (.tuple #[.int .u32 0, .int .i64 1]) ∧ Bl wx w'))
   (MY : Field.Aside (∀ wx, Calls Try.prog 16 #[.agg #[.int .i64 jkd, .int .i64 jop, .int .i64 ja, .int .i64 jb, .int .i64 (15 + (1 + n)), .int .i64 jim, .bool ju]] wx fun e w' => e = .returned (.bool false) ∧ Bl wx w')) :
   Calls Try.prog 7 #[.agg #[.int .i64 ikd, .int .i64 iop, .int .i64 ia, .int .i64 ib, .int .i64 ic, .int .i64 iim, .bool iu], .int .u8 wh, .int .u16 n] W fun e w' => e = .returned (.bool true) ∧ Bl W w' := by
  have HWB : Field.Aside (Bl W W1) := ⟨⟨by have := HW.out; subst this; exact (Below.refl _ _).alloc (Nat.le_refl _) _⟩⟩
  have RZ : Field.Aside (IBox W.heap.size ikd iop ia ib ic iim iu W1) := ⟨by rw [HW.out]; exact IBox.new W ikd iop ia ib ic iim iu _⟩
  go_enter Try.func7, Try.ntmps7
  go_wp2_with fail
  rw [← HW.out]
  refine (SH.out _).mono ?_
  rintro e w1 ⟨rfl, k1⟩
  obtain ⟨i0, i1, i2, i3, i4, i5, i6, fz⟩ := RZ.out.keep k1
  have K1 := Field.Aside.mk (HWB.out.then k1.out)
  clear k1
  go_wp2_with fail
  refine (FT.out _).mono ?_
  rintro e w2 ⟨rfl, k2⟩
  have K2 := Field.Aside.mk (K1.out.then k2.out)
  clear k2 i0 i1 i2 i3 i4 i5 i6 fz
  go_wp2_with fail
  have K3 := Field.Aside.mk (K2.out.alloc (.cells #[.int .i64 jkd, .int .i64 jop, .int .i64 ja, .int .i64 jb, .int .i64 (15 + (1 + n)), .int .i64 jim, .bool ju] 23))
  have X := Field.Aside.mk (IBox.new w2 jkd jop ja jb (15 + (1 + n)) jim ju 23)
  refine (EN.out _).mono ?_
  rintro e w3 ⟨rfl, k3⟩
  obtain ⟨i0, i1, i2, i3, i4, i5, i6, fz⟩ := X.out.keep k3
  have K4 := Field.Aside.mk (K3.out.then k3.out)
  clear k3
  go_wp2_with fail
  refine (MY.out _).mono ?_
  rintro e w4 ⟨rfl, k4⟩
  have K5 := Field.Aside.mk (K4.out.then k4.out)
  clear k4
  go_wp2_with fail
  go_ret
  exact ⟨rfl, K5.out⟩

set_option maxHeartbeats 4000000 in
theorem spoilt_4 (ikd iop ia ib ic iim : Int) (iu : Bool) (jkd jop ja jb jc jim : Int) (ju : Bool) (wh n : Int) (W W1 : World) (_h : wh % 7 = 4) (_h0 : 0 ≤ wh) (_h1 : wh ≤ 255) (_n0 : 0 ≤ n) (_n1 : n ≤ 65535)
   (HW : Field.Aside (W1 = W.alloc (.cells #[.int .i64 ikd, .int .i64 iop, .int .i64 ia, .int .i64 ib, .int .i64 ic, .int .i64 iim, .bool iu] 23)))
   (SH : Field.Aside (∀ wx, Calls Try.prog 11 #[] wx fun e w' => e = .returned (.bool true) ∧ Bl wx w'))
   (FT : Field.Aside (∀ wx, Calls Try.prog 18 #[.agg #[.int .i64 ikd, .int .i64 iop, .int .i64 ia, .int .i64 ib, .int .i64 ic, .int .i64 iim, .bool iu]] wx fun e w' => e = .returned (.agg #[.int .i64 jkd, .int .i64 jop, .int .i64 ja, .int .i64 jb, .int .i64 jc, .int .i64 jim, .bool ju]) ∧ Bl wx w'))
   (EN : Field.Aside (∀ wx, Calls Try.prog 12 #[.agg #[.int .i64 jkd, .int .i64 (15 + (1 + n)), .int .i64 ja, .int .i64 jb, .int .i64 jc, .int .i64 jim, .bool ju]] wx fun e w' => e = .returned (.tuple #[.int .u32 0, .int .i64 1]) ∧ Bl wx w'))
   (MY : Field.Aside (∀ wx, Calls Try.prog 16 #[.agg #[.int .i64 jkd, .int .i64 (15 + (1 + n)), .int .i64 ja, .int .i64 jb, .int .i64 jc, .int .i64 jim, .bool ju]] wx fun e w' => e = .returned (.bool false) ∧ Bl wx w')) :
   Calls Try.prog 7 #[.agg #[.int .i64 ikd, .int .i64 iop, .int .i64 ia, .int .i64 ib, .int .i64 ic, .int .i64 iim, .bool iu], .int .u8 wh, .int .u16 n] W fun e w' => e = .returned (.bool true) ∧ Bl W w' := by
  have HWB : Field.Aside (Bl W W1) := ⟨⟨by have := HW.out; subst this; exact (Below.refl _ _).alloc (Nat.le_refl _) _⟩⟩
  have RZ : Field.Aside (IBox W.heap.size ikd iop ia ib ic iim iu W1) := ⟨by rw [HW.out]; exact IBox.new W ikd iop ia ib ic iim iu _⟩
  go_enter Try.func7, Try.ntmps7
  go_wp2_with fail
  rw [← HW.out]
  refine (SH.out _).mono ?_
  rintro e w1 ⟨rfl, k1⟩
  obtain ⟨i0, i1, i2, i3, i4, i5, i6, fz⟩ := RZ.out.keep k1
  have K1 := Field.Aside.mk (HWB.out.then k1.out)
  clear k1
  go_wp2_with fail
  refine (FT.out _).mono ?_
  rintro e w2 ⟨rfl, k2⟩
  have K2 := Field.Aside.mk (K1.out.then k2.out)
  clear k2 i0 i1 i2 i3 i4 i5 i6 fz
  go_wp2_with fail
  have K3 := Field.Aside.mk (K2.out.alloc (.cells #[.int .i64 jkd, .int .i64 (15 + (1 + n)), .int .i64 ja, .int .i64 jb, .int .i64 jc, .int .i64 jim, .bool ju] 23))
  have X := Field.Aside.mk (IBox.new w2 jkd (15 + (1 + n)) ja jb jc jim ju 23)
  refine (EN.out _).mono ?_
  rintro e w3 ⟨rfl, k3⟩
  obtain ⟨i0, i1, i2, i3, i4, i5, i6, fz⟩ := X.out.keep k3
  have K4 := Field.Aside.mk (K3.out.then k3.out)
  clear k3
  go_wp2_with fail
  refine (MY.out _).mono ?_
  rintro e w4 ⟨rfl, k4⟩
  have K5 := Field.Aside.mk (K4.out.then k4.out)
  clear k4
  go_wp2_with fail
  go_ret
  exact ⟨rfl, K5.out⟩

set_option maxHeartbeats 4000000 in
theorem spoilt_5 (ikd iop ia ib ic iim : Int) (iu : Bool) (jkd jop ja jb jc jim : Int) (ju : Bool) (wh n : Int) (W W1 : World) (_h : wh % 7 = 5) (_h0 : 0 ≤ wh) (_h1 : wh ≤ 255) (_n0 : 0 ≤ n) (_n1 : n ≤ 65535)
   (HW : Field.Aside (W1 = W.alloc (.cells #[.int .i64 ikd, .int .i64 iop, .int .i64 ia, .int .i64 ib, .int .i64 ic, .int .i64 iim, .bool iu] 23)))
   (SH : Field.Aside (∀ wx, Calls Try.prog 11 #[] wx fun e w' => e = .returned (.bool true) ∧ Bl wx w'))
   (FT : Field.Aside (∀ wx, Calls Try.prog 18 #[.agg #[.int .i64 ikd, .int .i64 iop, .int .i64 ia, .int .i64 ib, .int .i64 ic, .int .i64 iim, .bool iu]] wx fun e w' => e = .returned (.agg #[.int .i64 jkd, .int .i64 jop, .int .i64 ja, .int .i64 jb, .int .i64 jc, .int .i64 jim, .bool ju]) ∧ Bl wx w'))
   (EN : Field.Aside (∀ wx, Calls Try.prog 12 #[.agg #[.int .i64 jkd, .int .i64 jop, .int .i64 ja, .int .i64 jb, .int .i64 jc, .int .i64 (8388607 + (1 + n)), .bool ju]] wx fun e w' => e = .returned (.tuple #[.int .u32 0, .int .i64 1]) ∧ Bl wx w'))
   (MY : Field.Aside (∀ wx, Calls Try.prog 16 #[.agg #[.int .i64 jkd, .int .i64 jop, .int .i64 ja, .int .i64 jb, .int .i64 jc, .int .i64 (8388607 + (1 + n)), .bool ju]] wx fun e w' => e = .returned (.bool false) ∧ Bl wx w')) :
   Calls Try.prog 7 #[.agg #[.int .i64 ikd, .int .i64 iop, .int .i64 ia, .int .i64 ib, .int .i64 ic, .int .i64 iim, .bool iu], .int .u8 wh, .int .u16 n] W fun e w' => e = .returned (.bool true) ∧ Bl W w' := by
  have HWB : Field.Aside (Bl W W1) := ⟨⟨by have := HW.out; subst this; exact (Below.refl _ _).alloc (Nat.le_refl _) _⟩⟩
  have RZ : Field.Aside (IBox W.heap.size ikd iop ia ib ic iim iu W1) := ⟨by rw [HW.out]; exact IBox.new W ikd iop ia ib ic iim iu _⟩
  go_enter Try.func7, Try.ntmps7
  go_wp2_with fail
  rw [← HW.out]
  refine (SH.out _).mono ?_
  rintro e w1 ⟨rfl, k1⟩
  obtain ⟨i0, i1, i2, i3, i4, i5, i6, fz⟩ := RZ.out.keep k1
  have K1 := Field.Aside.mk (HWB.out.then k1.out)
  clear k1
  go_wp2_with fail
  refine (FT.out _).mono ?_
  rintro e w2 ⟨rfl, k2⟩
  have K2 := Field.Aside.mk (K1.out.then k2.out)
  clear k2 i0 i1 i2 i3 i4 i5 i6 fz
  go_wp2_with fail
  have K3 := Field.Aside.mk (K2.out.alloc (.cells #[.int .i64 jkd, .int .i64 jop, .int .i64 ja, .int .i64 jb, .int .i64 jc, .int .i64 (8388607 + (1 + n)), .bool ju] 23))
  have X := Field.Aside.mk (IBox.new w2 jkd jop ja jb jc (8388607 + (1 + n)) ju 23)
  refine (EN.out _).mono ?_
  rintro e w3 ⟨rfl, k3⟩
  obtain ⟨i0, i1, i2, i3, i4, i5, i6, fz⟩ := X.out.keep k3
  have K4 := Field.Aside.mk (K3.out.then k3.out)
  clear k3
  go_wp2_with fail
  refine (MY.out _).mono ?_
  rintro e w4 ⟨rfl, k4⟩
  have K5 := Field.Aside.mk (K4.out.then k4.out)
  clear k4
  go_wp2_with fail
  go_ret
  exact ⟨rfl, K5.out⟩

set_option maxHeartbeats 4000000 in
theorem spoilt_6 (ikd iop ia ib ic iim : Int) (iu : Bool) (jkd jop ja jb jc jim : Int) (ju : Bool) (wh n : Int) (W W1 : World) (_h : wh % 7 = 6) (_h0 : 0 ≤ wh) (_h1 : wh ≤ 255) (_n0 : 0 ≤ n) (_n1 : n ≤ 65535)
   (HW : Field.Aside (W1 = W.alloc (.cells #[.int .i64 ikd, .int .i64 iop, .int .i64 ia, .int .i64 ib, .int .i64 ic, .int .i64 iim, .bool iu] 23)))
   (SH : Field.Aside (∀ wx, Calls Try.prog 11 #[] wx fun e w' => e = .returned (.bool true) ∧ Bl wx w'))
   (FT : Field.Aside (∀ wx, Calls Try.prog 18 #[.agg #[.int .i64 ikd, .int .i64 iop, .int .i64 ia, .int .i64 ib, .int .i64 ic, .int .i64 iim, .bool iu]] wx fun e w' => e = .returned (.agg #[.int .i64 jkd, .int .i64 jop, .int .i64 ja, .int .i64 jb, .int .i64 jc, .int .i64 jim, .bool ju]) ∧ Bl wx w'))
   (EN : Field.Aside (∀ wx, Calls Try.prog 12 #[.agg #[.int .i64 (-(1 + n)), .int .i64 jop, .int .i64 ja, .int .i64 jb, .int .i64 jc, .int .i64 jim, .bool ju]] wx fun e w' => e = .returned (.tuple #[.int .u32 0, .int .i64 1]) ∧ Bl wx w'))
   (MY : Field.Aside (∀ wx, Calls Try.prog 16 #[.agg #[.int .i64 (-(1 + n)), .int .i64 jop, .int .i64 ja, .int .i64 jb, .int .i64 jc, .int .i64 jim, .bool ju]] wx fun e w' => e = .returned (.bool false) ∧ Bl wx w')) :
   Calls Try.prog 7 #[.agg #[.int .i64 ikd, .int .i64 iop, .int .i64 ia, .int .i64 ib, .int .i64 ic, .int .i64 iim, .bool iu], .int .u8 wh, .int .u16 n] W fun e w' => e = .returned (.bool true) ∧ Bl W w' := by
  have HWB : Field.Aside (Bl W W1) := ⟨⟨by have := HW.out; subst this; exact (Below.refl _ _).alloc (Nat.le_refl _) _⟩⟩
  have RZ : Field.Aside (IBox W.heap.size ikd iop ia ib ic iim iu W1) := ⟨by rw [HW.out]; exact IBox.new W ikd iop ia ib ic iim iu _⟩
  go_enter Try.func7, Try.ntmps7
  go_wp2_with fail
  rw [← HW.out]
  refine (SH.out _).mono ?_
  rintro e w1 ⟨rfl, k1⟩
  obtain ⟨i0, i1, i2, i3, i4, i5, i6, fz⟩ := RZ.out.keep k1
  have K1 := Field.Aside.mk (HWB.out.then k1.out)
  clear k1
  go_wp2_with fail
  refine (FT.out _).mono ?_
  rintro e w2 ⟨rfl, k2⟩
  have K2 := Field.Aside.mk (K1.out.then k2.out)
  clear k2 i0 i1 i2 i3 i4 i5 i6 fz
  go_wp2_with fail
  have K3 := Field.Aside.mk (K2.out.alloc (.cells #[.int .i64 (-(1 + n)), .int .i64 jop, .int .i64 ja, .int .i64 jb, .int .i64 jc, .int .i64 jim, .bool ju] 23))
  have X := Field.Aside.mk (IBox.new w2 (-(1 + n)) jop ja jb jc jim ju 23)
  refine (EN.out _).mono ?_
  rintro e w3 ⟨rfl, k3⟩
  obtain ⟨i0, i1, i2, i3, i4, i5, i6, fz⟩ := X.out.keep k3
  have K4 := Field.Aside.mk (K3.out.then k3.out)
  clear k3
  go_wp2_with fail
  refine (MY.out _).mono ?_
  rintro e w4 ⟨rfl, k4⟩
  have K5 := Field.Aside.mk (K4.out.then k4.out)
  clear k4
  go_wp2_with fail
  go_ret
  exact ⟨rfl, K5.out⟩

theorem wfu8 {a : Int} (h : (Lit.int .u8 a).wf = true) : 0 ≤ a ∧ a ≤ 255 := by
  simp [Lit.wf, IntKind.min, IntKind.max, IntKind.signed, IntKind.bits] at h
  omega
theorem wfu16 {a : Int} (h : (Lit.int .u16 a).wf = true) : 0 ≤ a ∧ a ≤ 65535 := by
  simp [Lit.wf, IntKind.min, IntKind.max, IntKind.signed, IntKind.bits] at h
  omega
theorem spoilt_walk (kd op a b c im : Int) (u : Bool) (wh n : Int) (W : World) (_wz0 : (Lit.int .i64 kd).wf = true) (_wz1 : (Lit.int .i64 op).wf = true) (_wz2 : (Lit.int .i64 a).wf = true) (_wz3 : (Lit.int .i64 b).wf = true) (_wz4 : (Lit.int .i64 c).wf = true) (_wz5 : (Lit.int .i64 im).wf = true) (wa : (Lit.int .u8 wh).wf = true) (wb : (Lit.int .u16 n).wf = true) :
   Calls Try.prog 7 #[.agg #[.int .i64 kd, .int .i64 op, .int .i64 a, .int .i64 b, .int .i64 c, .int .i64 im, .bool u], .int .u8 wh, .int .u16 n] W fun e w' => e = .returned (.bool true) ∧ Below W.heap.size W w' := by
  obtain ⟨h0, h1⟩ := wfu8 wa
  obtain ⟨n0, n1⟩ := wfu16 wb
  obtain ⟨j, hm, FT⟩ := fit_is ⟨kd, op, a, b, c, im, u⟩
  rcases (show wh % 7 = 0 ∨ wh % 7 = 1 ∨ wh % 7 = 2 ∨ wh % 7 = 3 ∨ wh % 7 = 4 ∨ wh % 7 = 5 ∨ wh % 7 = 6 by omega) with h | h | h | h | h | h | h
  · have hb : mayN ⟨7 + (1 + n), j.op, j.a, j.b, j.c, j.im, j.u⟩ = false := not_may (by simp only; clear wa wb FT; omega)
    have E := encode_bad _ hb
    have M := may_is _ hb
    dsimp only [Ins.v] at E M
    exact (spoilt_0 kd op a b c im u j.kd j.op j.a j.b j.c j.im j.u wh n W _ h h0 h1 n0 n1 ⟨rfl⟩ shown_any FT E M).mono fun _ _ ⟨e, k⟩ => ⟨e, k.out⟩
  · have hb : mayN ⟨j.kd, j.op, 15 + (1 + n), j.b, j.c, j.im, j.u⟩ = false := not_may (by simp only; clear wa wb FT; omega)
    have E := encode_bad _ hb
    have M := may_is _ hb
    dsimp only [Ins.v] at E M
    exact (spoilt_1 kd op a b c im u j.kd j.op j.a j.b j.c j.im j.u wh n W _ h h0 h1 n0 n1 ⟨rfl⟩ shown_any FT E M).mono fun _ _ ⟨e, k⟩ => ⟨e, k.out⟩
  · have hb : mayN ⟨j.kd, j.op, j.a, -(1 + n), j.c, j.im, j.u⟩ = false := not_may (by simp only; clear wa wb FT; omega)
    have E := encode_bad _ hb
    have M := may_is _ hb
    dsimp only [Ins.v] at E M
    exact (spoilt_2 kd op a b c im u j.kd j.op j.a j.b j.c j.im j.u wh n W _ h h0 h1 n0 n1 ⟨rfl⟩ shown_any FT E M).mono fun _ _ ⟨e, k⟩ => ⟨e, k.out⟩
  · have hb : mayN ⟨j.kd, j.op, j.a, j.b, 15 + (1 + n), j.im, j.u⟩ = false := not_may (by simp only; clear wa wb FT; omega)
    have E := encode_bad _ hb
    have M := may_is _ hb
    dsimp only [Ins.v] at E M
    exact (spoilt_3 kd op a b c im u j.kd j.op j.a j.b j.c j.im j.u wh n W _ h h0 h1 n0 n1 ⟨rfl⟩ shown_any FT E M).mono fun _ _ ⟨e, k⟩ => ⟨e, k.out⟩
  · have hb : mayN ⟨j.kd, 15 + (1 + n), j.a, j.b, j.c, j.im, j.u⟩ = false := not_may (by simp only; clear wa wb FT; omega)
    have E := encode_bad _ hb
    have M := may_is _ hb
    dsimp only [Ins.v] at E M
    exact (spoilt_4 kd op a b c im u j.kd j.op j.a j.b j.c j.im j.u wh n W _ h h0 h1 n0 n1 ⟨rfl⟩ shown_any FT E M).mono fun _ _ ⟨e, k⟩ => ⟨e, k.out⟩
  · have hb : mayN ⟨j.kd, j.op, j.a, j.b, j.c, 8388607 + (1 + n), j.u⟩ = false := not_may (by simp only; clear wa wb FT; omega)
    have E := encode_bad _ hb
    have M := may_is _ hb
    dsimp only [Ins.v] at E M
    exact (spoilt_5 kd op a b c im u j.kd j.op j.a j.b j.c j.im j.u wh n W _ h h0 h1 n0 n1 ⟨rfl⟩ shown_any FT E M).mono fun _ _ ⟨e, k⟩ => ⟨e, k.out⟩
  · have hb : mayN ⟨-(1 + n), j.op, j.a, j.b, j.c, j.im, j.u⟩ = false := not_may (by simp only; clear wa wb FT; omega)
    have E := encode_bad _ hb
    have M := may_is _ hb
    dsimp only [Ins.v] at E M
    exact (spoilt_6 kd op a b c im u j.kd j.op j.a j.b j.c j.im j.u wh n W _ h h0 h1 n0 n1 ⟨rfl⟩ shown_any FT E M).mono fun _ _ ⟨e, k⟩ => ⟨e, k.out⟩
end Go.Proofs.Ytnilkljibdjjgaa.Isa
