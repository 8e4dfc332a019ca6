/-
  isa.Encode and isa.Decode, out of the contracts of what they call.
-/
import Derived.Test.YtnilkljibdjjgaaIns
import Derived.Test.YtnilkljibdjjgaaReadT
namespace Go.Proofs.Ytnilkljibdjjgaa.Isa
open Go.RowKit Go.Proofs.Ytnilkljibdjjgaa.FieldM Go.Proofs.Ytnilkljibdjjgaa.Field

set_option maxHeartbeats 4000000 in
theorem encode_no (kd op a b c im : Int) (u : Bool) (W W1 : World) (HW : Field.Aside (W1 = W.alloc (.cells #[.int .i64 kd, .int .i64 op, .int .i64 a, .int .i64 b, .int .i64 c, .int .i64 im, .bool u] 23)))
   (MY : Field.Aside (∀ wx, Calls Try.prog 16 #[.agg #[.int .i64 kd, .int .i64 op, .int .i64 a, .int .i64 b, .int .i64 c, .int .i64 im, .bool u]] wx fun e w' => e = .returned (.bool false) ∧ Bl wx w')) :
   Calls Try.prog 12 #[.agg #[.int .i64 kd, .int .i64 op, .int .i64 a, .int .i64 b, .int .i64 c, .int .i64 im, .bool u]] W fun e w' => e = .returned (.tuple #[.int .u32 0, .int .i64 1]) ∧ Bl W w' := by
  have HWB : Field.Aside (Bl W W1) := ⟨⟨by have := HW.out; subst this; exact (Below.refl _ _).alloc (Nat.le_refl _) _⟩⟩
  go_enter Try.func12, Try.ntmps12
  go_wp2_with fail
  rw [← HW.out]
  refine (MY.out _).mono ?_
  rintro e w1 ⟨rfl, k1⟩
  go_wp2_with fail
  go_ret2
  exact ⟨rfl, HWB.out.then k1.out⟩

set_option maxHeartbeats 4000000 in
theorem encode_yes (kd op a b c im : Int) (u : Bool) (R : Int) (W W1 : World) (HW : Field.Aside (W1 = W.alloc (.cells #[.int .i64 kd, .int .i64 op, .int .i64 a, .int .i64 b, .int .i64 c, .int .i64 im, .bool u] 23)))
   (MY : Field.Aside (∀ wx, Calls Try.prog 16 #[.agg #[.int .i64 kd, .int .i64 op, .int .i64 a, .int .i64 b, .int .i64 c, .int .i64 im, .bool u]] wx fun e w' => e = .returned (.bool true) ∧ Bl wx w'))
   (WD : Field.Aside (∀ wx, Calls Try.prog 21 #[.agg #[.int .i64 kd, .int .i64 op, .int .i64 a, .int .i64 b, .int .i64 c, .int .i64 im, .bool u]] wx fun e w' => e = .returned (.int .u32 R) ∧ Bl wx w')) :
   Calls Try.prog 12 #[.agg #[.int .i64 kd, .int .i64 op, .int .i64 a, .int .i64 b, .int .i64 c, .int .i64 im, .bool u]] W fun e w' => e = .returned (.tuple #[.int .u32 R, .int .i64 0]) ∧ Bl W w' := by
  have HWB : Field.Aside (Bl W W1) := ⟨⟨by have := HW.out; subst this; exact (Below.refl _ _).alloc (Nat.le_refl _) _⟩⟩
  have RZ : Field.Aside (IBox W.heap.size kd op a b c im u W1) := ⟨by rw [HW.out]; exact IBox.new W kd op a b c im u _⟩
  go_enter Try.func12, Try.ntmps12
  go_wp2_with fail
  rw [← HW.out]
  refine (MY.out _).mono ?_
  rintro e w1 ⟨rfl, k1⟩
  obtain ⟨i0, i1, i2, i3, i4, i5, i6, fz⟩ := RZ.out.keep k1
  go_wp2_with fail
  refine (WD.out _).mono ?_
  rintro e w2 ⟨rfl, k2⟩
  go_wp2_with fail
  go_ret2
  exact ⟨rfl, (HWB.out.then k1.out).then k2.out⟩

/-- The result's box and the box of what was read. -/
theorem two_boxes (W : World) (kd op a b c im : Int) (u : Bool) (T : TypeId) {w1 : World} (h : Bl (W.alloc (.cells #[.int .i64 0, .int .i64 0, .int .i64 0, .int .i64 0, .int .i64 0, .int .i64 0, .bool false] T)) w1) :
   IBox W.heap.size 0 0 0 0 0 0 false (w1.alloc (.cells #[.int .i64 kd, .int .i64 op, .int .i64 a, .int .i64 b, .int .i64 c, .int .i64 im, .bool u] T)) ∧
   IBox w1.heap.size kd op a b c im u (w1.alloc (.cells #[.int .i64 kd, .int .i64 op, .int .i64 a, .int .i64 b, .int .i64 c, .int .i64 im, .bool u] T)) ∧ W.heap.size < w1.heap.size :=
  ⟨((IBox.new W 0 0 0 0 0 0 false T).keep h).keep ((Bl.refl _).alloc _), IBox.new w1 kd op a b c im u T, by have := h.out.size; simp at this; omega⟩
theorem Bl.of_new {W : World} {o : Obj} {w : World} (h : Bl (W.alloc o) w) : Bl W w := (((Bl.refl W).alloc o).then h.out)

set_option maxHeartbeats 4000000 in
theorem decode_no1 (w kd op a b c im : Int) (u : Bool) (W : World)
   (RD : Field.Aside (∀ wx, Calls Try.prog 23 #[.int .u32 w] wx fun e w' => e = .returned (.agg #[.int .i64 kd, .int .i64 op, .int .i64 a, .int .i64 b, .int .i64 c, .int .i64 im, .bool u]) ∧ Bl wx w'))
   (MY : Field.Aside (∀ wx, Calls Try.prog 16 #[.agg #[.int .i64 kd, .int .i64 op, .int .i64 a, .int .i64 b, .int .i64 c, .int .i64 im, .bool u]] wx fun e w' => e = .returned (.bool false) ∧ Bl wx w')) :
   Calls Try.prog 14 #[.int .u32 w] W fun e w' => e = .returned (.tuple #[.agg #[.int .i64 0, .int .i64 0, .int .i64 0, .int .i64 0, .int .i64 0, .int .i64 0, .bool false], .bool false]) ∧ Bl W w' := by
  go_enter Try.func14, Try.ntmps14
  go_wp2_with fail
  refine (RD.out _).mono ?_
  rintro e w1 ⟨rfl, k1⟩
  have K1 := Field.Aside.mk k1
  obtain ⟨z, y, hlt⟩ := two_boxes W kd op a b c im u _ k1
  clear k1
  have Z := Field.Aside.mk z
  have Y := Field.Aside.mk y
  clear z y
  go_wp2_with fail
  refine (MY.out _).mono ?_
  rintro e w2 ⟨rfl, k2⟩
  obtain ⟨z0, z1, z2, z3, z4, z5, z6, zf⟩ := Z.out.keep k2
  have K2 := Field.Aside.mk k2
  clear k2
  go_wp2_with fail
  refine bodyPost_ret (v := .tuple #[.agg #[.int .i64 0, .int .i64 0, .int .i64 0, .int .i64 0, .int .i64 0, .int .i64 0, .bool false], .bool false]) ?_ rfl ⟨rfl, ?_⟩
  · simp only [results, Try.results14]
    go_simp
  · have hq : Bl W w2 := ((K1.out.of_new).alloc _).then K2.out.out
    repeat (refine Bl.puts ?_ (Nat.le_refl _) _)
    exact hq

set_option maxHeartbeats 4000000 in
theorem decode_no2 (w kd op a b c im : Int) (u : Bool) (R : Int) (hne : (R == w) = false) (W : World)
   (RD : Field.Aside (∀ wx, Calls Try.prog 23 #[.int .u32 w] wx fun e w' => e = .returned (.agg #[.int .i64 kd, .int .i64 op, .int .i64 a, .int .i64 b, .int .i64 c, .int .i64 im, .bool u]) ∧ Bl wx w'))
   (MY : Field.Aside (∀ wx, Calls Try.prog 16 #[.agg #[.int .i64 kd, .int .i64 op, .int .i64 a, .int .i64 b, .int .i64 c, .int .i64 im, .bool u]] wx fun e w' => e = .returned (.bool true) ∧ Bl wx w'))
   (WD : Field.Aside (∀ wx, Calls Try.prog 21 #[.agg #[.int .i64 kd, .int .i64 op, .int .i64 a, .int .i64 b, .int .i64 c, .int .i64 im, .bool u]] wx fun e w' => e = .returned (.int .u32 R) ∧ Bl wx w')) :
   Calls Try.prog 14 #[.int .u32 w] W fun e w' => e = .returned (.tuple #[.agg #[.int .i64 0, .int .i64 0, .int .i64 0, .int .i64 0, .int .i64 0, .int .i64 0, .bool false], .bool false]) ∧ Bl W w' := by
  have hne2 : (R != w) = true := by rw [bne, hne]; rfl
  go_enter Try.func14, Try.ntmps14
  go_wp2_with fail
  refine (RD.out _).mono ?_
  rintro e w1 ⟨rfl, k1⟩
  have K1 := Field.Aside.mk k1
  obtain ⟨z, y, hlt⟩ := two_boxes W kd op a b c im u _ k1
  clear k1
  have Z := Field.Aside.mk z
  have Y := Field.Aside.mk y
  clear z y
  go_wp2_with fail
  refine (MY.out _).mono ?_
  rintro e w2 ⟨rfl, k2⟩
  have K2 := Field.Aside.mk k2
  obtain ⟨i0, i1, i2, i3, i4, i5, i6, fz⟩ := Y.out.keep k2
  clear k2
  go_wp2_with fail
  refine (WD.out _).mono ?_
  rintro e w3 ⟨rfl, k3⟩
  clear i0 i1 i2 i3 i4 i5 i6 fz
  have K3 := Field.Aside.mk (K2.out.then k3.out)
  clear k3
  obtain ⟨z0, z1, z2, z3, z4, z5, z6, zf⟩ := Z.out.keep K3.out
  go_wp2_with fail
  refine bodyPost_ret (v := .tuple #[.agg #[.int .i64 0, .int .i64 0, .int .i64 0, .int .i64 0, .int .i64 0, .int .i64 0, .bool false], .bool false]) ?_ rfl ⟨rfl, ?_⟩
  · simp only [results, Try.results14]
    go_simp
  · have hq : Bl W w3 := ((K1.out.of_new).alloc _).then K3.out.out
    repeat (refine Bl.puts ?_ (Nat.le_refl _) _)
    exact hq

set_option maxHeartbeats 4000000 in
theorem decode_yes (w kd op a b c im : Int) (u : Bool) (W : World)
   (RD : Field.Aside (∀ wx, Calls Try.prog 23 #[.int .u32 w] wx fun e w' => e = .returned (.agg #[.int .i64 kd, .int .i64 op, .int .i64 a, .int .i64 b, .int .i64 c, .int .i64 im, .bool u]) ∧ Bl wx w'))
   (MY : Field.Aside (∀ wx, Calls Try.prog 16 #[.agg #[.int .i64 kd, .int .i64 op, .int .i64 a, .int .i64 b, .int .i64 c, .int .i64 im, .bool u]] wx fun e w' => e = .returned (.bool true) ∧ Bl wx w'))
   (WD : Field.Aside (∀ wx, Calls Try.prog 21 #[.agg #[.int .i64 kd, .int .i64 op, .int .i64 a, .int .i64 b, .int .i64 c, .int .i64 im, .bool u]] wx fun e w' => e = .returned (.int .u32 w) ∧ Bl wx w')) :
   Calls Try.prog 14 #[.int .u32 w] W fun e w' => e = .returned (.tuple #[.agg #[.int .i64 kd, .int .i64 op, .int .i64 a, .int .i64 b, .int .i64 c, .int .i64 im, .bool u], .bool true]) ∧ Bl W w' := by
  go_enter Try.func14, Try.ntmps14
  go_wp2_with fail
  refine (RD.out _).mono ?_
  rintro e w1 ⟨rfl, k1⟩
  have K1 := Field.Aside.mk k1
  obtain ⟨z, y, hlt⟩ := two_boxes W kd op a b c im u _ k1
  clear k1
  have Z := Field.Aside.mk z
  have Y := Field.Aside.mk y
  clear z y
  go_wp2_with fail
  refine (MY.out _).mono ?_
  rintro e w2 ⟨rfl, k2⟩
  have K2 := Field.Aside.mk k2
  obtain ⟨i0, i1, i2, i3, i4, i5, i6, fz⟩ := Y.out.keep k2
  clear k2
  go_wp2_with fail
  refine (WD.out _).mono ?_
  rintro e w3 ⟨rfl, k3⟩
  clear i0 i1 i2 i3 i4 i5 i6 fz
  have K3 := Field.Aside.mk (K2.out.then k3.out)
  clear k3
  have hne : ¬ w1.heap.size = W.heap.size := by omega
  have hne' : ¬ W.heap.size = w1.heap.size := by omega
  obtain ⟨z0, z1, z2, z3, z4, z5, z6, zf⟩ := Z.out.keep K3.out
  obtain ⟨i0, i1, i2, i3, i4, i5, i6, fz⟩ := Y.out.keep K3.out
  go_wp2_with fail
  refine bodyPost_ret (v := .tuple #[.agg #[.int .i64 kd, .int .i64 op, .int .i64 a, .int .i64 b, .int .i64 c, .int .i64 im, .bool u], .bool true]) ?_ rfl ⟨rfl, ?_⟩
  · simp only [results, Try.results14]
    go_simp
  · have hq : Bl W w3 := ((K1.out.of_new).alloc _).then K3.out.out
    repeat (refine Bl.puts ?_ (Nat.le_refl _) _)
    exact hq
end Go.Proofs.Ytnilkljibdjjgaa.Isa
