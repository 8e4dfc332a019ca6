/-
  IsaAll's walk: whether any instruction may be, its word, and any word's instruction, is as the reference says.
-/
import Derived.Test.YtnilkljibdjjgaaRef
import Derived.Test.YtnilkljibdjjgaaGuess
import Derived.Deep.RegionHeld3
namespace Go.Proofs.Ytnilkljibdjjgaa.Isa
open Go Go.RowKit Go.Proofs.Ytnilkljibdjjgaa.FieldM Go.Proofs.Ytnilkljibdjjgaa.Field

set_option maxHeartbeats 4000000 in
theorem rdec_no1 (w R er : Int) (jkd jop ja jb jc jim : Int) (ju : Bool) (W : World) (_h : (er == 0) = false) (_h2 : (er != 0) = true)
   (GS : Field.Aside (∀ wx, Calls Try.prog 24 #[.int .u32 w] wx fun e w' => e = .returned (.agg #[.int .i64 jkd, .int .i64 jop, .int .i64 ja, .int .i64 jb, .int .i64 jc, .int .i64 jim, .bool ju]) ∧ Bl wx w'))
   (EN : Field.Aside (∀ wx, Calls Try.prog 13 #[.agg #[.int .i64 jkd, .int .i64 jop, .int .i64 ja, .int .i64 jb, .int .i64 jc, .int .i64 jim, .bool ju]] wx fun e w' => e = .returned (.tuple #[.int .u32 R, .int .i64 er]) ∧ Bl wx w')) :
   Calls Try.prog 15 #[.int .u32 w] W fun e w' => e = .returned (.tuple #[.agg #[.int .i64 0, .int .i64 0, .int .i64 0, .int .i64 0, .int .i64 0, .int .i64 0, .bool false], .bool false]) ∧ Bl W w' := by
  go_enter Try.func15, Try.ntmps15
  go_wp2_with fail
  refine (GS.out _).mono ?_
  rintro e w1 ⟨rfl, k1⟩
  have K1 := Field.Aside.mk k1
  obtain ⟨z, y, hlt⟩ := two_boxes W jkd jop ja jb jc jim ju _ k1
  clear k1
  have Z := Field.Aside.mk z
  have Y := Field.Aside.mk y
  clear z y
  go_wp2_with fail
  refine (EN.out _).mono ?_
  rintro e w2 ⟨rfl, k2⟩
  have hne : ¬ w1.heap.size = W.heap.size := by omega
  have hne' : ¬ W.heap.size = w1.heap.size := by omega
  obtain ⟨z0, z1, z2, z3, z4, z5, z6, zf⟩ := Z.out.keep k2
  obtain ⟨i0, i1, i2, i3, i4, i5, i6, fz⟩ := Y.out.keep k2
  have K2 := Field.Aside.mk k2
  clear k2
  go_wp2_with fail
  refine bodyPost_ret (v := .tuple #[.agg #[.int .i64 0, .int .i64 0, .int .i64 0, .int .i64 0, .int .i64 0, .int .i64 0, .bool false], .bool false]) ?_ rfl ⟨rfl, ?_⟩
  · simp only [results, Try.results15]
    go_simp
  · have hq : Bl W w2 := ((K1.out.of_new).alloc _).then K2.out.out
    repeat (refine Bl.puts ?_ (Nat.le_refl _) _)
    exact hq

set_option maxHeartbeats 4000000 in
theorem rdec_no2 (w R : Int) (jkd jop ja jb jc jim : Int) (ju : Bool) (W : World) (_h : (R == w) = false) (_h2 : (R != w) = true)
   (GS : Field.Aside (∀ wx, Calls Try.prog 24 #[.int .u32 w] wx fun e w' => e = .returned (.agg #[.int .i64 jkd, .int .i64 jop, .int .i64 ja, .int .i64 jb, .int .i64 jc, .int .i64 jim, .bool ju]) ∧ Bl wx w'))
   (EN : Field.Aside (∀ wx, Calls Try.prog 13 #[.agg #[.int .i64 jkd, .int .i64 jop, .int .i64 ja, .int .i64 jb, .int .i64 jc, .int .i64 jim, .bool ju]] wx fun e w' => e = .returned (.tuple #[.int .u32 R, .int .i64 0]) ∧ Bl wx w')) :
   Calls Try.prog 15 #[.int .u32 w] W fun e w' => e = .returned (.tuple #[.agg #[.int .i64 0, .int .i64 0, .int .i64 0, .int .i64 0, .int .i64 0, .int .i64 0, .bool false], .bool false]) ∧ Bl W w' := by
  go_enter Try.func15, Try.ntmps15
  go_wp2_with fail
  refine (GS.out _).mono ?_
  rintro e w1 ⟨rfl, k1⟩
  have K1 := Field.Aside.mk k1
  obtain ⟨z, y, hlt⟩ := two_boxes W jkd jop ja jb jc jim ju _ k1
  clear k1
  have Z := Field.Aside.mk z
  have Y := Field.Aside.mk y
  clear z y
  go_wp2_with fail
  refine (EN.out _).mono ?_
  rintro e w2 ⟨rfl, k2⟩
  have hne : ¬ w1.heap.size = W.heap.size := by omega
  have hne' : ¬ W.heap.size = w1.heap.size := by omega
  obtain ⟨z0, z1, z2, z3, z4, z5, z6, zf⟩ := Z.out.keep k2
  obtain ⟨i0, i1, i2, i3, i4, i5, i6, fz⟩ := Y.out.keep k2
  have K2 := Field.Aside.mk k2
  clear k2
  go_wp2_with fail
  refine bodyPost_ret (v := .tuple #[.agg #[.int .i64 0, .int .i64 0, .int .i64 0, .int .i64 0, .int .i64 0, .int .i64 0, .bool false], .bool false]) ?_ rfl ⟨rfl, ?_⟩
  · simp only [results, Try.results15]
    go_simp
  · have hq : Bl W w2 := ((K1.out.of_new).alloc _).then K2.out.out
    repeat (refine Bl.puts ?_ (Nat.le_refl _) _)
    exact hq

set_option maxHeartbeats 4000000 in
theorem rdec_yes (w : Int) (jkd jop ja jb jc jim : Int) (ju : Bool) (W : World)
   (GS : Field.Aside (∀ wx, Calls Try.prog 24 #[.int .u32 w] wx fun e w' => e = .returned (.agg #[.int .i64 jkd, .int .i64 jop, .int .i64 ja, .int .i64 jb, .int .i64 jc, .int .i64 jim, .bool ju]) ∧ Bl wx w'))
   (EN : Field.Aside (∀ wx, Calls Try.prog 13 #[.agg #[.int .i64 jkd, .int .i64 jop, .int .i64 ja, .int .i64 jb, .int .i64 jc, .int .i64 jim, .bool ju]] wx fun e w' => e = .returned (.tuple #[.int .u32 w, .int .i64 0]) ∧ Bl wx w')) :
   Calls Try.prog 15 #[.int .u32 w] W fun e w' => e = .returned (.tuple #[.agg #[.int .i64 jkd, .int .i64 jop, .int .i64 ja, .int .i64 jb, .int .i64 jc, .int .i64 jim, .bool ju], .bool true]) ∧ Bl W w' := by
  go_enter Try.func15, Try.ntmps15
  go_wp2_with fail
  refine (GS.out _).mono ?_
  rintro e w1 ⟨rfl, k1⟩
  have K1 := Field.Aside.mk k1
  obtain ⟨z, y, hlt⟩ := two_boxes W jkd jop ja jb jc jim ju _ k1
  clear k1
  have Z := Field.Aside.mk z
  have Y := Field.Aside.mk y
  clear z y
  go_wp2_with fail
  refine (EN.out _).mono ?_
  rintro e w2 ⟨rfl, k2⟩
  have hne : ¬ w1.heap.size = W.heap.size := by omega
  have hne' : ¬ W.heap.size = w1.heap.size := by omega
  obtain ⟨z0, z1, z2, z3, z4, z5, z6, zf⟩ := Z.out.keep k2
  obtain ⟨i0, i1, i2, i3, i4, i5, i6, fz⟩ := Y.out.keep k2
  have K2 := Field.Aside.mk k2
  clear k2
  go_wp2_with fail
  refine bodyPost_ret (v := .tuple #[.agg #[.int .i64 jkd, .int .i64 jop, .int .i64 ja, .int .i64 jb, .int .i64 jc, .int .i64 jim, .bool ju], .bool true]) ?_ rfl ⟨rfl, ?_⟩
  · simp only [results, Try.results15]
    go_simp
  · have hq : Bl W w2 := ((K1.out.of_new).alloc _).then K2.out.out
    repeat (refine Bl.puts ?_ (Nat.le_refl _) _)
    exact hq

theorem guess_is (w : Nat) (hw : w < 4294967296) : Field.Aside (∀ wx, Calls Try.prog 24 #[.int .u32 w] wx fun e w' => e = .returned (readN w).v ∧ Bl wx w') := ⟨fun wx => guess_any w hw wx⟩
theorem rdecode_ok (w : Nat) (hw : w < 4294967296) (h : okN w = true) : Field.Aside (∀ wx, Calls Try.prog 15 #[.int .u32 w] wx fun e w' => e = .returned (.tuple #[(readN w).v, .bool true]) ∧ Bl wx w') := by
  unfold okN at h
  rw [Bool.and_eq_true, decide_eq_true_iff] at h
  have E := rencode_ok (readN w) h.1
  rw [h.2] at E
  exact ⟨fun wx => rdec_yes w (readN w).kd (readN w).op (readN w).a (readN w).b (readN w).c (readN w).im (readN w).u wx (guess_is w hw) E⟩
theorem rdecode_bad (w : Nat) (hw : w < 4294967296) (h : okN w = false) : Field.Aside (∀ wx, Calls Try.prog 15 #[.int .u32 w] wx fun e w' => e = .returned (.tuple #[.agg #[.int .i64 0, .int .i64 0, .int .i64 0, .int .i64 0, .int .i64 0, .int .i64 0, .bool false], .bool false]) ∧ Bl wx w') := by
  unfold okN at h
  by_cases hm : mayN (readN w) = true
  · rw [hm, Bool.true_and, decide_eq_false_iff_not] at h
    have E := rencode_ok (readN w) hm
    have hq : ((wordN (readN w) : Int) == (w : Int)) = false := beq_eq_false_iff_ne.2 (by omega)
    exact ⟨fun wx => rdec_no2 w _ (readN w).kd (readN w).op (readN w).a (readN w).b (readN w).c (readN w).im (readN w).u wx hq (by rw [bne, hq]; rfl) (guess_is w hw) E⟩
  · exact ⟨fun wx => rdec_no1 w 0 1 (readN w).kd (readN w).op (readN w).a (readN w).b (readN w).c (readN w).im (readN w).u wx rfl rfl (guess_is w hw) (rencode_bad _ (by simpa using hm))⟩

theorem keep22 {g h k : Nat} {ikd iop ia ib ic iim jkd jop ja jb jc jim : Int} {iu ju : Bool} {W w : World} (q : IBox g ikd iop ia ib ic iim iu W) (r : IBox h jkd jop ja jb jc jim ju W) (t : IBox k jkd jop ja jb jc jim ju W) (z : Bl W w) : Bl W w ∧ w.cell? ⟨g, 0, none⟩ = some (.int .i64 ikd) ∧ w.cell? ⟨g, 1, none⟩ = some (.int .i64 iop) ∧ w.cell? ⟨g, 2, none⟩ = some (.int .i64 ia) ∧ w.cell? ⟨g, 3, none⟩ = some (.int .i64 ib) ∧ w.cell? ⟨g, 4, none⟩ = some (.int .i64 ic) ∧ w.cell? ⟨g, 5, none⟩ = some (.int .i64 iim) ∧ w.cell? ⟨g, 6, none⟩ = some (.bool iu) ∧ w.cell? ⟨h, 0, none⟩ = some (.int .i64 jkd) ∧ w.cell? ⟨h, 1, none⟩ = some (.int .i64 jop) ∧ w.cell? ⟨h, 2, none⟩ = some (.int .i64 ja) ∧ w.cell? ⟨h, 3, none⟩ = some (.int .i64 jb) ∧ w.cell? ⟨h, 4, none⟩ = some (.int .i64 jc) ∧ w.cell? ⟨h, 5, none⟩ = some (.int .i64 jim) ∧ w.cell? ⟨h, 6, none⟩ = some (.bool ju) ∧ w.cell? ⟨k, 0, none⟩ = some (.int .i64 jkd) ∧ w.cell? ⟨k, 1, none⟩ = some (.int .i64 jop) ∧ w.cell? ⟨k, 2, none⟩ = some (.int .i64 ja) ∧ w.cell? ⟨k, 3, none⟩ = some (.int .i64 jb) ∧ w.cell? ⟨k, 4, none⟩ = some (.int .i64 jc) ∧ w.cell? ⟨k, 5, none⟩ = some (.int .i64 jim) ∧ w.cell? ⟨k, 6, none⟩ = some (.bool ju) :=
  ⟨z, z.cell q.i0, z.cell q.i1, z.cell q.i2, z.cell q.i3, z.cell q.i4, z.cell q.i5, z.cell q.i6, z.cell r.i0, z.cell r.i1, z.cell r.i2, z.cell r.i3, z.cell r.i4, z.cell r.i5, z.cell r.i6, z.cell t.i0, z.cell t.i1, z.cell t.i2, z.cell t.i3, z.cell t.i4, z.cell t.i5, z.cell t.i6⟩
attribute [local go_sem high] eqIns

set_option maxRecDepth 100000 in
set_option maxHeartbeats 20000000 in
theorem all_raw (ikd iop ia ib ic iim : Int) (iu : Bool) (jkd jop ja jb jc jim : Int) (ju : Bool) (w R er : Int) (m q : Bool) (W W1 : World) (HW : Field.Aside (W1 = W.alloc (.cells #[.int .i64 ikd, .int .i64 iop, .int .i64 ia, .int .i64 ib, .int .i64 ic, .int .i64 iim, .bool iu] 23)))
   (SH : Field.Aside (∀ wx, Calls Try.prog 11 #[] wx fun e w' => e = .returned (.bool true) ∧ Bl wx w'))
   (EN : Field.Aside (∀ wx, Calls Try.prog 12 #[.agg #[.int .i64 ikd, .int .i64 iop, .int .i64 ia, .int .i64 ib, .int .i64 ic, .int .i64 iim, .bool iu]] wx fun e w' => e = .returned (.tuple #[.int .u32 R, .int .i64 er]) ∧ Bl wx w'))
   (RE : Field.Aside (∀ wx, Calls Try.prog 13 #[.agg #[.int .i64 ikd, .int .i64 iop, .int .i64 ia, .int .i64 ib, .int .i64 ic, .int .i64 iim, .bool iu]] wx fun e w' => e = .returned (.tuple #[.int .u32 R, .int .i64 er]) ∧ Bl wx w'))
   (DC : Field.Aside (∀ wx, Calls Try.prog 14 #[.int .u32 w] wx fun e w' => e = .returned (.tuple #[.agg #[.int .i64 jkd, .int .i64 jop, .int .i64 ja, .int .i64 jb, .int .i64 jc, .int .i64 jim, .bool ju], .bool q]) ∧ Bl wx w'))
   (RD : Field.Aside (∀ wx, Calls Try.prog 15 #[.int .u32 w] wx fun e w' => e = .returned (.tuple #[.agg #[.int .i64 jkd, .int .i64 jop, .int .i64 ja, .int .i64 jb, .int .i64 jc, .int .i64 jim, .bool ju], .bool q]) ∧ Bl wx w'))
   (MY : Field.Aside (∀ wx, Calls Try.prog 16 #[.agg #[.int .i64 ikd, .int .i64 iop, .int .i64 ia, .int .i64 ib, .int .i64 ic, .int .i64 iim, .bool iu]] wx fun e w' => e = .returned (.bool m) ∧ Bl wx w'))
   (RM : Field.Aside (∀ wx, Calls Try.prog 17 #[.agg #[.int .i64 ikd, .int .i64 iop, .int .i64 ia, .int .i64 ib, .int .i64 ic, .int .i64 iim, .bool iu]] wx fun e w' => e = .returned (.bool m) ∧ Bl wx w')) :
   Calls Try.prog 3 #[.agg #[.int .i64 ikd, .int .i64 iop, .int .i64 ia, .int .i64 ib, .int .i64 ic, .int .i64 iim, .bool iu], .int .u32 w] W fun e w' => e = .returned (.bool true) ∧ Bl W w' := by
  have HWB : Field.Aside (Bl W W1) := ⟨⟨by have := HW.out; subst this; exact (Below.refl _ _).alloc (Nat.le_refl _) _⟩⟩
  have RZ : Field.Aside (IBox W.heap.size ikd iop ia ib ic iim iu W1) := ⟨by rw [HW.out]; exact IBox.new W ikd iop ia ib ic iim iu _⟩
  go_enter Try.func3, Try.ntmps3
  go_wp2_with fail
  rw [← HW.out]
  refine (SH.out _).mono ?_
  rintro e w1 ⟨rfl, k1⟩
  obtain ⟨i0, i1, i2, i3, i4, i5, i6, fz⟩ := RZ.out.keep k1
  have K1 := Field.Aside.mk k1
  clear k1
  go_wp2_with fail
  refine (EN.out _).mono ?_
  rintro e w2 ⟨rfl, k2⟩
  clear i0 i1 i2 i3 i4 i5 i6 fz
  have K2 := Field.Aside.mk (K1.out.then k2.out)
  clear k2
  obtain ⟨i0, i1, i2, i3, i4, i5, i6, fz⟩ := RZ.out.keep K2.out
  go_wp2_with fail
  refine (RE.out _).mono ?_
  rintro e w3 ⟨rfl, k3⟩
  have K3 := Field.Aside.mk (K2.out.then k3.out)
  clear k3
  go_wp2_with fail
  refine (DC.out _).mono ?_
  rintro e w4 ⟨rfl, k4⟩
  have K4 := Field.Aside.mk ((K3.out.then k4.out).alloc (.cells #[.int .i64 jkd, .int .i64 jop, .int .i64 ja, .int .i64 jb, .int .i64 jc, .int .i64 jim, .bool ju] 23))
  have X4 := Field.Aside.mk (IBox.new w4 jkd jop ja jb jc jim ju 23)
  clear k4
  go_wp2_with fail
  refine (RD.out _).mono ?_
  rintro e w5 ⟨rfl, k5⟩
  have K5 := Field.Aside.mk ((K4.out.then k5.out).alloc (.cells #[.int .i64 jkd, .int .i64 jop, .int .i64 ja, .int .i64 jb, .int .i64 jc, .int .i64 jim, .bool ju] 23))
  have X5 := Field.Aside.mk ((X4.out.keep k5).keep ((Bl.refl _).alloc (.cells #[.int .i64 jkd, .int .i64 jop, .int .i64 ja, .int .i64 jb, .int .i64 jc, .int .i64 jim, .bool ju] 23)))
  have Y5 := Field.Aside.mk (IBox.new w5 jkd jop ja jb jc jim ju 23)
  clear k5 i0 i1 i2 i3 i4 i5 i6 fz
  obtain ⟨W5, hW5⟩ : ∃ W5, W5 = w5.alloc (.cells #[.int .i64 jkd, .int .i64 jop, .int .i64 ja, .int .i64 jb, .int .i64 jc, .int .i64 jim, .bool ju] 23) := ⟨_, rfl⟩
  rw [← hW5] at K5 X5 Y5
  have H5 := Field.Aside.mk hW5
  clear hW5
  go_wp2_with fail
  rw [← H5.out]
  obtain ⟨i0, i1, i2, i3, i4, i5, i6, fz⟩ := RZ.out.keep K5.out
  obtain ⟨x0, x1, x2, x3, x4, x5, x6, xf⟩ := X5.out
  obtain ⟨y0, y1, y2, y3, y4, y5, y6, yf⟩ := Y5.out
  clear fz xf yf
  have RQ := Field.Aside.mk (RZ.out.keep K5.out)
  have B5 : Bl W5 W5 := Bl.refl _
  go_region_held3 (fun w' => Bl W5 w' ∧ w'.cell? ⟨W.heap.size, 0, none⟩ = some (.int .i64 ikd) ∧ w'.cell? ⟨W.heap.size, 1, none⟩ = some (.int .i64 iop) ∧ w'.cell? ⟨W.heap.size, 2, none⟩ = some (.int .i64 ia) ∧ w'.cell? ⟨W.heap.size, 3, none⟩ = some (.int .i64 ib) ∧ w'.cell? ⟨W.heap.size, 4, none⟩ = some (.int .i64 ic) ∧ w'.cell? ⟨W.heap.size, 5, none⟩ = some (.int .i64 iim) ∧ w'.cell? ⟨W.heap.size, 6, none⟩ = some (.bool iu) ∧ w'.cell? ⟨w4.heap.size, 0, none⟩ = some (.int .i64 jkd) ∧ w'.cell? ⟨w4.heap.size, 1, none⟩ = some (.int .i64 jop) ∧ w'.cell? ⟨w4.heap.size, 2, none⟩ = some (.int .i64 ja) ∧ w'.cell? ⟨w4.heap.size, 3, none⟩ = some (.int .i64 jb) ∧ w'.cell? ⟨w4.heap.size, 4, none⟩ = some (.int .i64 jc) ∧ w'.cell? ⟨w4.heap.size, 5, none⟩ = some (.int .i64 jim) ∧ w'.cell? ⟨w4.heap.size, 6, none⟩ = some (.bool ju) ∧ w'.cell? ⟨w5.heap.size, 0, none⟩ = some (.int .i64 jkd) ∧ w'.cell? ⟨w5.heap.size, 1, none⟩ = some (.int .i64 jop) ∧ w'.cell? ⟨w5.heap.size, 2, none⟩ = some (.int .i64 ja) ∧ w'.cell? ⟨w5.heap.size, 3, none⟩ = some (.int .i64 jb) ∧ w'.cell? ⟨w5.heap.size, 4, none⟩ = some (.int .i64 jc) ∧ w'.cell? ⟨w5.heap.size, 5, none⟩ = some (.int .i64 jim) ∧ w'.cell? ⟨w5.heap.size, 6, none⟩ = some (.bool ju)) (first | ((refine keep22 RQ.out X5.out Y5.out ?_); with_reducible assumption) | ((refine keep22 RQ.out X5.out Y5.out (Bl.drew ?_)); with_reducible assumption) | ((refine keep22 RQ.out X5.out Y5.out ?_); exact And.left (by with_reducible assumption))) (first | (go_at_call 16; (with_reducible refine (MY.out _).mono ?_); rintro e wn ⟨rfl, kn⟩; have BN : Bl W5 wn := Bl.then (And.left (by with_reducible assumption)) kn.out; clear kn) | (go_at_call 17; (with_reducible refine (RM.out _).mono ?_); rintro e wn ⟨rfl, kn⟩; have BN : Bl W5 wn := Bl.then (And.left (by with_reducible assumption)) kn.out; clear kn))
  all_goals (try go_wp2)
  all_goals go_ret
  all_goals exact ⟨rfl, HWB.out.then (K5.out.then BN.out).out⟩


theorem all_walk (kd op a b c im : Int) (u : Bool) (x : Int) (W : World) (_w0 : (Lit.int .i64 kd).wf = true) (_w1 : (Lit.int .i64 op).wf = true) (_w2 : (Lit.int .i64 a).wf = true) (_w3 : (Lit.int .i64 b).wf = true) (_w4 : (Lit.int .i64 c).wf = true) (_w5 : (Lit.int .i64 im).wf = true) (wx : (Lit.int .u32 x).wf = true) :
   Calls Try.prog 3 #[.agg #[.int .i64 kd, .int .i64 op, .int .i64 a, .int .i64 b, .int .i64 c, .int .i64 im, .bool u], .int .u32 x] W fun e w' => e = .returned (.bool true) ∧ Below W.heap.size W w' := by
  obtain ⟨x0, x1⟩ := wfu32 wx
  obtain ⟨w, rfl⟩ := Int.eq_ofNat_of_zero_le x0
  have hw : w < 4294967296 := by omega
  have key : ∀ R er m, Field.Aside (∀ wx, Calls Try.prog 12 #[(Ins.mk kd op a b c im u).v] wx fun e w' => e = .returned (.tuple #[.int .u32 R, .int .i64 er]) ∧ Bl wx w') →
      Field.Aside (∀ wx, Calls Try.prog 13 #[(Ins.mk kd op a b c im u).v] wx fun e w' => e = .returned (.tuple #[.int .u32 R, .int .i64 er]) ∧ Bl wx w') → mayN ⟨kd, op, a, b, c, im, u⟩ = m →
      Calls Try.prog 3 #[.agg #[.int .i64 kd, .int .i64 op, .int .i64 a, .int .i64 b, .int .i64 c, .int .i64 im, .bool u], .int .u32 w] W fun e w' => e = .returned (.bool true) ∧ Bl W w' := by
    intro R er m E RE hm
    have M := may_is _ hm
    have RM := rmay_is _ hm
    cases hk : okN w with
    | true => exact all_raw kd op a b c im u (readN w).kd (readN w).op (readN w).a (readN w).b (readN w).c (readN w).im (readN w).u w R er m true W _ ⟨rfl⟩ shown_any E RE (decode_ok w hw hk) (rdecode_ok w hw hk) M RM
    | false => exact all_raw kd op a b c im u 0 0 0 0 0 0 false w R er m false W _ ⟨rfl⟩ shown_any E RE (decode_bad w hw hk) (rdecode_bad w hw hk) M RM
  cases hm : mayN ⟨kd, op, a, b, c, im, u⟩ with
  | true => exact (key _ _ _ (encode_ok _ hm) (rencode_ok _ hm) hm).mono fun _ _ ⟨e, k⟩ => ⟨e, k.out⟩
  | false => exact (key _ _ _ (encode_bad _ hm) (rencode_bad _ hm) hm).mono fun _ _ ⟨e, k⟩ => ⟨e, k.out⟩
end Go.Proofs.Ytnilkljibdjjgaa.Isa
