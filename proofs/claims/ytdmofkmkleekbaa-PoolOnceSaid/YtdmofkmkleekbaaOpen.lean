/-
  Arguments that are arrays, or structs, of whole numbers and bools, by value: opened to their numbers; each reads behind the call as it did, since nothing that was there has changed.
-/
import Derived.ProofKit
import Derived.OpenShut
import Derived.ShutString
import Derived.ChangeOld
import Derived.Below
import Derived.SizedLaws
import Derived.Carry
import Derived.Lib.SmallJoins
import Derived.Test.YtdmofkmkleekbaaProg
import Derived.KernelRfl
namespace Go.Proofs.Ytdmofkmkleekbaa.Open
open Go.Joins Go.ChangeShapes Go.WideShapes Go.RowKit Go.Deep
section
variable {H : Type} {enc : TypeId × Value → H} {P : Program} {w : World} {base : Nat} {spare : Nat → Bool} {held : Bool}

theorem okWide_array {r : Reach} {b0 n : Nat} {t e : TypeId} {v : Value} (ht : P.underlying t = some (.array n e)) (h : Value.okWide P w r b0 t v) : ∃ cs, v = .agg cs ∧ cs.size = P.cellsOf t := by
  simp only [Value.okWide, ht] at h
  obtain ⟨cs, h1, h2, _⟩ := h
  exact ⟨cs, h1, h2⟩

/-- An array of two whole numbers. -/
theorem open_arr2 {r : Reach} {b0 : Nat} {t e : TypeId} {k : IntKind} {v : Value} {d : DataW H} {p : List MemPlace} (ht : P.underlying t = some (.array 2 e)) (he : P.underlying e = some (.int k)) (hce : P.cellsOf e = 1) (hct : P.cellsOf t = 2)
    (hv : Value.okWide P w r b0 t v) (h : DataW.Trod enc P w base spare held t v d p) :
    ∃ a b : Int, v = .agg #[.int k a, .int k b] ∧ p = [] ∧ (Lit.int k a).wf = true ∧ (Lit.int k b).wf = true := by
  obtain ⟨cs, rfl, hsz⟩ := okWide_array ht hv
  obtain ⟨l⟩ := cs
  match l, hsz.trans hct with
  | [c0, c1], _ =>
    obtain ⟨fuel, hf⟩ := h
    obtain ⟨xs, m, _, hx, _, hl, hg⟩ := DataW.trod_array ht hf
    match xs, hl with
    | [y0, y1], _ =>
      have g0 := hg 0 (by omega)
      have g1 := hg 1 (by omega)
      simp [hce, Value.cells] at g0 g1
      obtain ⟨a, e0, rfl, wa⟩ := DataW.trod_int he g0
      obtain ⟨b, e1, rfl, wb⟩ := DataW.trod_int he g1
      simp at e0 e1
      subst e0 e1
      simp at hx
      exact ⟨a, b, rfl, hx.2, wa, wb⟩

/-- An array of three whole numbers. -/
theorem open_arr3 {r : Reach} {b0 : Nat} {t e : TypeId} {k : IntKind} {v : Value} {d : DataW H} {p : List MemPlace} (ht : P.underlying t = some (.array 3 e)) (he : P.underlying e = some (.int k)) (hce : P.cellsOf e = 1) (hct : P.cellsOf t = 3)
    (hv : Value.okWide P w r b0 t v) (h : DataW.Trod enc P w base spare held t v d p) :
    ∃ a b c : Int, v = .agg #[.int k a, .int k b, .int k c] ∧ p = [] ∧ (Lit.int k a).wf = true ∧ (Lit.int k b).wf = true ∧ (Lit.int k c).wf = true := by
  obtain ⟨cs, rfl, hsz⟩ := okWide_array ht hv
  obtain ⟨l⟩ := cs
  match l, hsz.trans hct with
  | [c0, c1, c2], _ =>
    obtain ⟨fuel, hf⟩ := h
    obtain ⟨xs, m, _, hx, _, hl, hg⟩ := DataW.trod_array ht hf
    match xs, hl with
    | [y0, y1, y2], _ =>
      have g0 := hg 0 (by omega)
      have g1 := hg 1 (by omega)
      have g2 := hg 2 (by omega)
      simp [hce, Value.cells] at g0 g1 g2
      obtain ⟨a, e0, rfl, wa⟩ := DataW.trod_int he g0
      obtain ⟨b, e1, rfl, wb⟩ := DataW.trod_int he g1
      obtain ⟨c, e2, rfl, wc⟩ := DataW.trod_int he g2
      simp at e0 e1 e2
      subst e0 e1 e2
      simp at hx
      exact ⟨a, b, c, rfl, hx.2, wa, wb, wc⟩
/-- A struct of a bool and a whole number. -/
theorem open_bits {r : Reach} {b0 : Nat} {t : TypeId} {f0 f1 : Field} {k : IntKind} {v : Value} {d : DataW H} {p : List MemPlace} (hs : P.underlying t = some (.struct #[f0, f1])) (hone : oneCellFields P #[f0, f1] = true) (hC : P.cellsOf t = 2)
    (hb : P.underlying f0.type = some .bool) (hi : P.underlying f1.type = some (.int k)) (hv : Value.okWide P w r b0 t v) (h : DataW.Trod enc P w base spare held t v d p) :
    ∃ (c : Bool) (a : Int), v = .agg #[.bool c, .int k a] ∧ p = [] ∧ (Lit.int k a).wf = true := by
  obtain ⟨v0, v1, y0, y1, n, rfl, rfl, rfl, g0, g1⟩ := Joins.open_agg2 hs hone hC hv h
  obtain ⟨c, e0, rfl⟩ := DataW.trod_bool hb g0
  obtain ⟨a, e1, rfl, wa⟩ := DataW.trod_int hi g1
  simp at e0 e1
  subst e0 e1
  exact ⟨c, a, rfl, rfl, wa⟩

/-- A struct of six whole numbers and a bool. -/
theorem open_instr {r : Reach} {b0 : Nat} {t : TypeId} {f0 f1 f2 f3 f4 f5 f6 : Field} {k : IntKind} {v : Value} {d : DataW H} {p : List MemPlace} (hs : P.underlying t = some (.struct #[f0, f1, f2, f3, f4, f5, f6])) (hone : oneCellFields P #[f0, f1, f2, f3, f4, f5, f6] = true) (hC : P.cellsOf t = 7)
    (i0 : P.underlying f0.type = some (.int k)) (i1 : P.underlying f1.type = some (.int k)) (i2 : P.underlying f2.type = some (.int k)) (i3 : P.underlying f3.type = some (.int k)) (i4 : P.underlying f4.type = some (.int k)) (i5 : P.underlying f5.type = some (.int k)) (hb : P.underlying f6.type = some .bool)
    (hv : Value.okWide P w r b0 t v) (h : DataW.Trod enc P w base spare held t v d p) :
    ∃ (a0 a1 a2 a3 a4 a5 : Int) (c : Bool), v = .agg #[.int k a0, .int k a1, .int k a2, .int k a3, .int k a4, .int k a5, .bool c] ∧ p = [] ∧ (Lit.int k a0).wf = true ∧ (Lit.int k a1).wf = true ∧ (Lit.int k a2).wf = true ∧ (Lit.int k a3).wf = true ∧ (Lit.int k a4).wf = true ∧ (Lit.int k a5).wf = true := by
  obtain ⟨cs, rfl, hsz⟩ := okWide_struct hs hv
  obtain ⟨l⟩ := cs
  match l, hsz.trans hC with
  | [c0, c1, c2, c3, c4, c5, c6], _ =>
    obtain ⟨fuel, hf⟩ := h
    obtain ⟨xs, m, _, hx, _, hl, hg⟩ := DataW.trod_struct hs hf
    match xs, hl with
    | [y0, y1, y2, y3, y4, y5, y6], _ =>
      obtain ⟨o0, k0⟩ := hone_of hone 0 f0 rfl
      obtain ⟨o1, k1⟩ := hone_of hone 1 f1 rfl
      obtain ⟨o2, k2⟩ := hone_of hone 2 f2 rfl
      obtain ⟨o3, k3⟩ := hone_of hone 3 f3 rfl
      obtain ⟨o4, k4⟩ := hone_of hone 4 f4 rfl
      obtain ⟨o5, k5⟩ := hone_of hone 5 f5 rfl
      obtain ⟨o6, k6⟩ := hone_of hone 6 f6 rfl
      have g0 := hg 0 f0 rfl
      have g1 := hg 1 f1 rfl
      have g2 := hg 2 f2 rfl
      have g3 := hg 3 f3 rfl
      have g4 := hg 4 f4 rfl
      have g5 := hg 5 f5 rfl
      have g6 := hg 6 f6 rfl
      simp [Value.cells, o0, k0] at g0
      simp [Value.cells, o1, k1] at g1
      simp [Value.cells, o2, k2] at g2
      simp [Value.cells, o3, k3] at g3
      simp [Value.cells, o4, k4] at g4
      simp [Value.cells, o5, k5] at g5
      simp [Value.cells, o6, k6] at g6
      obtain ⟨a0, e0, rfl, w0⟩ := DataW.trod_int i0 g0
      obtain ⟨a1, e1, rfl, w1⟩ := DataW.trod_int i1 g1
      obtain ⟨a2, e2, rfl, w2⟩ := DataW.trod_int i2 g2
      obtain ⟨a3, e3, rfl, w3⟩ := DataW.trod_int i3 g3
      obtain ⟨a4, e4, rfl, w4⟩ := DataW.trod_int i4 g4
      obtain ⟨a5, e5, rfl, w5⟩ := DataW.trod_int i5 g5
      obtain ⟨c, e6, rfl⟩ := DataW.trod_bool hb g6
      simp at e0 e1 e2 e3 e4 e5 e6
      subst e0 e1 e2 e3 e4 e5 e6
      simp at hx
      exact ⟨a0, a1, a2, a3, a4, a5, c, rfl, hx.2, w0, w1, w2, w3, w4, w5⟩
end
theorem laidOut : laidOutB Try.prog = true := by kernel_rfl
end Go.Proofs.Ytdmofkmkleekbaa.Open
