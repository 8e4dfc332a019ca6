/-
  IsaBack's walk and IsaUnlike's: an instruction that may be is decoded from its word; unlike ones have unlike words.
-/
import Derived.Test.YtnilkljibdjjgaaFit
namespace Go.Proofs.Ytnilkljibdjjgaa.Isa
open Go Go.RowKit Go.Proofs.Ytnilkljibdjjgaa.FieldM Go.Proofs.Ytnilkljibdjjgaa.Field

set_option maxHeartbeats 4000000 in
theorem back_raw (ikd iop ia ib ic iim : Int) (iu : Bool) (jkd jop ja jb jc jim : Int) (ju : Bool) (R : Int) (W W1 : World) (HW : Field.Aside (W1 = W.alloc (.cells #[.int .i64 ikd, .int .i64 iop, .int .i64 ia, .int .i64 ib, .int .i64 ic, .int .i64 iim, .bool iu] 23)))
   (SH : Field.Aside (∀ wx, Calls Try.prog 11 #[] wx fun e w' => e = .returned (.bool true) ∧ Bl wx w'))
   (FT : Field.Aside (∀ wx, Calls Try.prog 18 #[.agg #[.int .i64 ikd, .int .i64 iop, .int .i64 ia, .int .i64 ib, .int .i64 ic, .int .i64 iim, .bool iu]] wx fun e w' => e = .returned (.agg #[.int .i64 jkd, .int .i64 jop, .int .i64 ja, .int .i64 jb, .int .i64 jc, .int .i64 jim, .bool ju]) ∧ Bl wx w'))
   (EN : Field.Aside (∀ wx, Calls Try.prog 12 #[.agg #[.int .i64 jkd, .int .i64 jop, .int .i64 ja, .int .i64 jb, .int .i64 jc, .int .i64 jim, .bool ju]] wx fun e w' => e = .returned (.tuple #[.int .u32 R, .int .i64 0]) ∧ Bl wx w'))
   (DC : Field.Aside (∀ wx, Calls Try.prog 14 #[.int .u32 R] wx fun e w' => e = .returned (.tuple #[.agg #[.int .i64 jkd, .int .i64 jop, .int .i64 ja, .int .i64 jb, .int .i64 jc, .int .i64 jim, .bool ju], .bool true]) ∧ Bl wx w'))
   (MY : Field.Aside (∀ wx, Calls Try.prog 16 #[.agg #[.int .i64 jkd, .int .i64 jop, .int .i64 ja, .int .i64 jb, .int .i64 jc, .int .i64 jim, .bool ju]] wx fun e w' => e = .returned (.bool true) ∧ Bl wx w')) :
   Calls Try.prog 4 #[.agg #[.int .i64 ikd, .int .i64 iop, .int .i64 ia, .int .i64 ib, .int .i64 ic, .int .i64 iim, .bool iu]] W fun e w' => e = .returned (.bool true) ∧ Bl W w' := by
  have HWB : Field.Aside (Bl W W1) := ⟨⟨by have := HW.out; subst this; exact (Below.refl _ _).alloc (Nat.le_refl _) _⟩⟩
  have RZ : Field.Aside (IBox W.heap.size ikd iop ia ib ic iim iu W1) := ⟨by rw [HW.out]; exact IBox.new W ikd iop ia ib ic iim iu _⟩
  go_enter Try.func4, Try.ntmps4
  go_wp2_with fail
  rw [← HW.out]
  refine (SH.out _).mono ?_
  rintro e w1 ⟨rfl, k1⟩
  obtain ⟨i0, i1, i2, i3, i4, i5, i6, fz⟩ := RZ.out.keep k1
  have K1 := Field.Aside.mk (HWB.out.then k1.out)
  clear k1
  go_wp2_with fail
  refine (FT.out _).mono ?_
  rintro e w2 ⟨rfl, k2⟩
  have K2 := Field.Aside.mk ((K1.out.then k2.out).alloc (.cells #[.int .i64 jkd, .int .i64 jop, .int .i64 ja, .int .i64 jb, .int .i64 jc, .int .i64 jim, .bool ju] 23))
  have X := Field.Aside.mk (IBox.new w2 jkd jop ja jb jc jim ju 23)
  clear k2 i0 i1 i2 i3 i4 i5 i6 fz
  go_wp2_with fail
  refine (EN.out _).mono ?_
  rintro e w3 ⟨rfl, k3⟩
  have K3 := Field.Aside.mk (K2.out.then k3.out)
  have X3 := Field.Aside.mk (X.out.keep k3)
  clear k3
  go_wp2_with fail
  refine (DC.out _).mono ?_
  rintro e w4 ⟨rfl, k4⟩
  have K4 := Field.Aside.mk ((K3.out.then k4.out).alloc (.cells #[.int .i64 jkd, .int .i64 jop, .int .i64 ja, .int .i64 jb, .int .i64 jc, .int .i64 jim, .bool ju] 23))
  have X4 := Field.Aside.mk ((X3.out.keep k4).keep ((Bl.refl _).alloc (.cells #[.int .i64 jkd, .int .i64 jop, .int .i64 ja, .int .i64 jb, .int .i64 jc, .int .i64 jim, .bool ju] 23)))
  have Y4 := Field.Aside.mk (IBox.new w4 jkd jop ja jb jc jim ju 23)
  obtain ⟨i0, i1, i2, i3, i4, i5, i6, fz⟩ := X3.out.keep k4
  have hlt : w2.heap.size < w4.heap.size := (X3.out.keep k4).lt
  have hne : ¬ w2.heap.size = w4.heap.size := by omega
  have hne2 : ¬ w4.heap.size = w2.heap.size := by omega
  clear k4
  go_wp2_with fail
  refine (MY.out _).mono ?_
  rintro e w5 ⟨rfl, k5⟩
  clear i0 i1 i2 i3 i4 i5 i6 fz
  obtain ⟨i0, i1, i2, i3, i4, i5, i6, fz⟩ := X4.out.keep k5
  obtain ⟨y0, y1, y2, y3, y4, y5, y6, yf⟩ := Y4.out.keep k5
  have K5 := Field.Aside.mk (K4.out.then k5.out)
  clear k5
  go_wp2_with fail
  go_ret
  exact ⟨rfl, K5.out⟩

theorem back_walk (kd op a b c im : Int) (u : Bool) (W : World) (_w0 : (Lit.int .i64 kd).wf = true) (_w1 : (Lit.int .i64 op).wf = true) (_w2 : (Lit.int .i64 a).wf = true) (_w3 : (Lit.int .i64 b).wf = true) (_w4 : (Lit.int .i64 c).wf = true) (_w5 : (Lit.int .i64 im).wf = true) :
   Calls Try.prog 4 #[.agg #[.int .i64 kd, .int .i64 op, .int .i64 a, .int .i64 b, .int .i64 c, .int .i64 im, .bool u]] W fun e w' => e = .returned (.bool true) ∧ Below W.heap.size W w' := by
  obtain ⟨j, hm, FT⟩ := fit_is ⟨kd, op, a, b, c, im, u⟩
  have hk := ok_word hm
  have D := decode_ok (wordN j) (wordN_lt j) hk.1
  rw [hk.2] at D
  exact (back_raw kd op a b c im u j.kd j.op j.a j.b j.c j.im j.u (wordN j) W _ ⟨rfl⟩ shown_any FT (encode_ok j hm) D (may_is j hm)).mono fun _ _ ⟨e, k⟩ => ⟨e, k.out⟩

/-- Two instructions held against each other, as one Bool. -/
theorem eqIns (d : Nat) (w : World) (x0 y0 x1 y1 x2 y2 x3 y3 x4 y4 x5 y5 : Int) (x6 y6 : Bool) :
    (Op.equalIn (d + 2) 23 (.agg #[.int .i64 x0, .int .i64 x1, .int .i64 x2, .int .i64 x3, .int .i64 x4, .int .i64 x5, .bool x6]) (.agg #[.int .i64 y0, .int .i64 y1, .int .i64 y2, .int .i64 y3, .int .i64 y4, .int .i64 y5, .bool y6])).run Try.prog w = .ok (x0 == y0 && (x1 == y1 && (x2 == y2 && (x3 == y3 && (x4 == y4 && (x5 == y5 && (x6 == y6))))))) w := by
  refine Go.Proofs.YtnilkljibdjjgaaW.PrintWords.eqA_of Try.underlying23 (by kernel_rfl) ?_
  refine Go.Proofs.YtnilkljibdjjgaaW.PrintWords.eqf_cons (by rfl) (by go_simp; rfl) (by go_simp; rfl) (by go_simp) ?_
  refine Go.Proofs.YtnilkljibdjjgaaW.PrintWords.eqf_cons (by rfl) (by go_simp; rfl) (by go_simp; rfl) (by go_simp) ?_
  refine Go.Proofs.YtnilkljibdjjgaaW.PrintWords.eqf_cons (by rfl) (by go_simp; rfl) (by go_simp; rfl) (by go_simp) ?_
  refine Go.Proofs.YtnilkljibdjjgaaW.PrintWords.eqf_cons (by rfl) (by go_simp; rfl) (by go_simp; rfl) (by go_simp) ?_
  refine Go.Proofs.YtnilkljibdjjgaaW.PrintWords.eqf_cons (by rfl) (by go_simp; rfl) (by go_simp; rfl) (by go_simp) ?_
  refine Go.Proofs.YtnilkljibdjjgaaW.PrintWords.eqf_cons (by rfl) (by go_simp; rfl) (by go_simp; rfl) (by go_simp) ?_
  exact Go.Proofs.YtnilkljibdjjgaaW.PrintWords.eqf_last (by rfl) (by go_simp; rfl) (by go_simp; rfl) (by go_simp)
attribute [local go_sem high] eqIns

set_option maxHeartbeats 4000000 in
theorem unlike_raw (ikd iop ia ib ic iim : Int) (iu : Bool) (kkd kop ka kb kc kim : Int) (ku : Bool) (xkd xop xa xb xc xim : Int) (xu : Bool) (ykd yop ya yb yc yim : Int) (yu : Bool) (R S : Int) (q : Bool) (W : World) (_hq : (R == S) = q)
   (_hs : (xkd == ykd && (xop == yop && (xa == ya && (xb == yb && (xc == yc && (xim == yim && (xu == yu))))))) = q)
   (SH : Field.Aside (∀ wx, Calls Try.prog 11 #[] wx fun e w' => e = .returned (.bool true) ∧ Bl wx w'))
   (FI : Field.Aside (∀ wx, Calls Try.prog 18 #[.agg #[.int .i64 ikd, .int .i64 iop, .int .i64 ia, .int .i64 ib, .int .i64 ic, .int .i64 iim, .bool iu]] wx fun e w' => e = .returned (.agg #[.int .i64 xkd, .int .i64 xop, .int .i64 xa, .int .i64 xb, .int .i64 xc, .int .i64 xim, .bool xu]) ∧ Bl wx w'))
   (FK : Field.Aside (∀ wx, Calls Try.prog 18 #[.agg #[.int .i64 kkd, .int .i64 kop, .int .i64 ka, .int .i64 kb, .int .i64 kc, .int .i64 kim, .bool ku]] wx fun e w' => e = .returned (.agg #[.int .i64 ykd, .int .i64 yop, .int .i64 ya, .int .i64 yb, .int .i64 yc, .int .i64 yim, .bool yu]) ∧ Bl wx w'))
   (EX : Field.Aside (∀ wx, Calls Try.prog 12 #[.agg #[.int .i64 xkd, .int .i64 xop, .int .i64 xa, .int .i64 xb, .int .i64 xc, .int .i64 xim, .bool xu]] wx fun e w' => e = .returned (.tuple #[.int .u32 R, .int .i64 0]) ∧ Bl wx w'))
   (EY : Field.Aside (∀ wx, Calls Try.prog 12 #[.agg #[.int .i64 ykd, .int .i64 yop, .int .i64 ya, .int .i64 yb, .int .i64 yc, .int .i64 yim, .bool yu]] wx fun e w' => e = .returned (.tuple #[.int .u32 S, .int .i64 0]) ∧ Bl wx w')) :
   Calls Try.prog 9 #[.agg #[.int .i64 ikd, .int .i64 iop, .int .i64 ia, .int .i64 ib, .int .i64 ic, .int .i64 iim, .bool iu], .agg #[.int .i64 kkd, .int .i64 kop, .int .i64 ka, .int .i64 kb, .int .i64 kc, .int .i64 kim, .bool ku]] W fun e w' => e = .returned (.bool true) ∧ Bl W w' := by
  obtain ⟨W1, hW1⟩ : ∃ W1, W1 = (W.alloc (.cells #[.int .i64 ikd, .int .i64 iop, .int .i64 ia, .int .i64 ib, .int .i64 ic, .int .i64 iim, .bool iu] 23)).alloc (.cells #[.int .i64 kkd, .int .i64 kop, .int .i64 ka, .int .i64 kb, .int .i64 kc, .int .i64 kim, .bool ku] 23) := ⟨_, rfl⟩
  have HWB : Field.Aside (Bl W W1) := ⟨by rw [hW1]; exact ((Bl.refl _).alloc _).alloc _⟩
  have RI : Field.Aside (IBox W.heap.size ikd iop ia ib ic iim iu W1) := ⟨by rw [hW1]; exact (IBox.new W ikd iop ia ib ic iim iu _).keep ((Bl.refl _).alloc _)⟩
  have RK : Field.Aside (IBox (W.heap.size + 1) kkd kop ka kb kc kim ku W1) := ⟨by have h := IBox.new (W.alloc (.cells #[.int .i64 ikd, .int .i64 iop, .int .i64 ia, .int .i64 ib, .int .i64 ic, .int .i64 iim, .bool iu] 23)) kkd kop ka kb kc kim ku 23; rw [hW1]; simpa using h⟩
  have HW := Field.Aside.mk hW1
  clear hW1
  have HS := Field.Aside.mk _hs
  clear _hs
  go_enter Try.func9, Try.ntmps9
  go_wp2_with fail
  rw [← HW.out]
  refine (SH.out _).mono ?_
  rintro e w1 ⟨rfl, k1⟩
  obtain ⟨i0, i1, i2, i3, i4, i5, i6, fz⟩ := RI.out.keep k1
  have K1 := Field.Aside.mk k1
  clear k1
  go_wp2_with fail
  refine (FI.out _).mono ?_
  rintro e w2 ⟨rfl, k2⟩
  clear i0 i1 i2 i3 i4 i5 i6 fz
  obtain ⟨i0, i1, i2, i3, i4, i5, i6, fz⟩ := RK.out.keep (K1.out.then k2.out)
  have X := Field.Aside.mk (IBox.new w2 xkd xop xa xb xc xim xu 23)
  have K2 := Field.Aside.mk ((K1.out.then k2.out).alloc (.cells #[.int .i64 xkd, .int .i64 xop, .int .i64 xa, .int .i64 xb, .int .i64 xc, .int .i64 xim, .bool xu] 23))
  have hlt : W.heap.size + 1 < w2.heap.size := (RK.out.keep (K1.out.then k2.out)).lt
  have hne : ¬ W.heap.size + 1 = w2.heap.size := by omega
  have hne2 : ¬ w2.heap.size = W.heap.size + 1 := by omega
  clear k2
  go_wp2_with fail
  refine (FK.out _).mono ?_
  rintro e w3 ⟨rfl, k3⟩
  clear i0 i1 i2 i3 i4 i5 i6 fz hlt hne hne2
  have X3 := Field.Aside.mk ((X.out.keep k3).keep ((Bl.refl _).alloc (.cells #[.int .i64 ykd, .int .i64 yop, .int .i64 ya, .int .i64 yb, .int .i64 yc, .int .i64 yim, .bool yu] 23)))
  obtain ⟨i0, i1, i2, i3, i4, i5, i6, fz⟩ := X.out.keep k3
  have Y := Field.Aside.mk (IBox.new w3 ykd yop ya yb yc yim yu 23)
  have K3 := Field.Aside.mk ((K2.out.then k3.out).alloc (.cells #[.int .i64 ykd, .int .i64 yop, .int .i64 ya, .int .i64 yb, .int .i64 yc, .int .i64 yim, .bool yu] 23))
  have hlt : w2.heap.size < w3.heap.size := (X.out.keep k3).lt
  have hne : ¬ w2.heap.size = w3.heap.size := by omega
  have hne2 : ¬ w3.heap.size = w2.heap.size := by omega
  clear k3
  go_wp2_with fail
  refine (EX.out _).mono ?_
  rintro e w4 ⟨rfl, k4⟩
  clear i0 i1 i2 i3 i4 i5 i6 fz
  have X4 := Field.Aside.mk (X3.out.keep k4)
  have K4 := Field.Aside.mk (K3.out.then k4.out)
  obtain ⟨y0, y1, y2, y3, y4, y5, y6, yf⟩ := Y.out.keep k4
  have Y4 := Field.Aside.mk (Y.out.keep k4)
  clear k4
  go_wp2_with fail
  refine (EY.out _).mono ?_
  rintro e w5 ⟨rfl, k5⟩
  clear y0 y1 y2 y3 y4 y5 y6 yf
  obtain ⟨i0, i1, i2, i3, i4, i5, i6, fz⟩ := X4.out.keep k5
  obtain ⟨y0, y1, y2, y3, y4, y5, y6, yf⟩ := Y4.out.keep k5
  have K5 := Field.Aside.mk (HWB.out.then (K4.out.then k5.out).out)
  clear k5
  have hs := HS.out
  go_wp2_with fail
  go_ret
  exact ⟨rfl, K5.out⟩

theorem ins_beq (x y : Ins) : (x.kd == y.kd && (x.op == y.op && (x.a == y.a && (x.b == y.b && (x.c == y.c && (x.im == y.im && (x.u == y.u))))))) = decide (x = y) := by
  obtain ⟨kd, op, a, b, c, im, u⟩ := x
  obtain ⟨kd', op', a', b', c', im', u'⟩ := y
  rw [Bool.eq_iff_iff]
  simp [Ins.mk.injEq]
theorem unlike_walk (kd op a b c im : Int) (u : Bool) (kkd kop ka kb kc kim : Int) (ku : Bool) (W : World) (_wa0 : (Lit.int .i64 kd).wf = true) (_wa1 : (Lit.int .i64 op).wf = true) (_wa2 : (Lit.int .i64 a).wf = true) (_wa3 : (Lit.int .i64 b).wf = true) (_wa4 : (Lit.int .i64 c).wf = true) (_wa5 : (Lit.int .i64 im).wf = true) (_wb0 : (Lit.int .i64 kkd).wf = true) (_wb1 : (Lit.int .i64 kop).wf = true) (_wb2 : (Lit.int .i64 ka).wf = true) (_wb3 : (Lit.int .i64 kb).wf = true) (_wb4 : (Lit.int .i64 kc).wf = true) (_wb5 : (Lit.int .i64 kim).wf = true) :
   Calls Try.prog 9 #[.agg #[.int .i64 kd, .int .i64 op, .int .i64 a, .int .i64 b, .int .i64 c, .int .i64 im, .bool u], .agg #[.int .i64 kkd, .int .i64 kop, .int .i64 ka, .int .i64 kb, .int .i64 kc, .int .i64 kim, .bool ku]] W fun e w' => e = .returned (.bool true) ∧ Below W.heap.size W w' := by
  obtain ⟨x, hx, FI⟩ := fit_is ⟨kd, op, a, b, c, im, u⟩
  obtain ⟨y, hy, FK⟩ := fit_is ⟨kkd, kop, ka, kb, kc, kim, ku⟩
  have hw : ((wordN x : Int) == (wordN y : Int)) = decide (x = y) := by
    have h := word_inj hx hy
    rw [Bool.eq_iff_iff, beq_iff_eq, decide_eq_true_iff, ← h]
    omega
  exact (unlike_raw kd op a b c im u kkd kop ka kb kc kim ku x.kd x.op x.a x.b x.c x.im x.u y.kd y.op y.a y.b y.c y.im y.u (wordN x) (wordN y) _ W hw (ins_beq x y) shown_any FI FK (encode_ok x hx) (encode_ok y hy)).mono fun _ _ ⟨e, k⟩ => ⟨e, k.out⟩
end Go.Proofs.Ytnilkljibdjjgaa.Isa
