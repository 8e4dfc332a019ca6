/-
  Arguments that are arrays, or structs, of whole numbers and bools, by value: opened to their numbers; each reads behind the call as it did, since nothing that was there has changed.
-/
import Derived.ProofKit
import Derived.OpenShut
import Derived.ShutString
import Derived.ChangeOld
import Derived.Below
import Derived.SizedLaws
import Derived.Carry
import Derived.Lib.SmallJoins
import Derived.Test.YthgnniiiekkodaaProg
import Derived.KernelRfl
namespace Go.Proofs.Ythgnniiiekkodaa.Open
open Go.ChangeShapes Go.WideShapes Go.RowKit
section
variable {H : Type} {enc : TypeId × Value → H} {P : Program} {w : World} {base : Nat} {spare : Nat → Bool} {held : Bool}

theorem okWide_array {r : Reach} {b0 n : Nat} {t e : TypeId} {v : Value} (ht : P.underlying t = some (.array n e)) (h : Value.okWide P w r b0 t v) : ∃ cs, v = .agg cs ∧ cs.size = P.cellsOf t := by
  simp only [Value.okWide, ht] at h
  obtain ⟨cs, h1, h2, _⟩ := h
  exact ⟨cs, h1, h2⟩

/-- An array of two whole numbers. -/
theorem open_arr2 {r : Reach} {b0 : Nat} {t e : TypeId} {k : IntKind} {v : Value} {d : DataW H} {p : List MemPlace} (ht : P.underlying t = some (.array 2 e)) (he : P.underlying e = some (.int k)) (hce : P.cellsOf e = 1) (hct : P.cellsOf t = 2)
    (hv : Value.okWide P w r b0 t v) (h : DataW.Trod enc P w base spare held t v d p) :
    ∃ a b : Int, v = .agg #[.int k a, .int k b] ∧ p = [] ∧ (Lit.int k a).wf = true ∧ (Lit.int k b).wf = true := by
  obtain ⟨cs, rfl, hsz⟩ := okWide_array ht hv
  obtain ⟨l⟩ := cs
  match l, hsz.trans hct with
  | [c0, c1], _ =>
    obtain ⟨fuel, hf⟩ := h
    obtain ⟨xs, m, _, hx, _, hl, hg⟩ := DataW.trod_array ht hf
    match xs, hl with
    | [y0, y1], _ =>
      have g0 := hg 0 (by omega)
      have g1 := hg 1 (by omega)
      simp [hce, Value.cells] at g0 g1
      obtain ⟨a, e0, rfl, wa⟩ := DataW.trod_int he g0
      obtain ⟨b, e1, rfl, wb⟩ := DataW.trod_int he g1
      simp at e0 e1
      subst e0 e1
      simp at hx
      exact ⟨a, b, rfl, hx.2, wa, wb⟩

/-- An array of three whole numbers. -/
theorem open_arr3 {r : Reach} {b0 : Nat} {t e : TypeId} {k : IntKind} {v : Value} {d : DataW H} {p : List MemPlace} (ht : P.underlying t = some (.array 3 e)) (he : P.underlying e = some (.int k)) (hce : P.cellsOf e = 1) (hct : P.cellsOf t = 3)
    (hv : Value.okWide P w r b0 t v) (h : DataW.Trod enc P w base spare held t v d p) :
    ∃ a b c : Int, v = .agg #[.int k a, .int k b, .int k c] ∧ p = [] ∧ (Lit.int k a).wf = true ∧ (Lit.int k b).wf = true ∧ (Lit.int k c).wf = true := by
  obtain ⟨cs, rfl, hsz⟩ := okWide_array ht hv
  obtain ⟨l⟩ := cs
  match l, hsz.trans hct with
  | [c0, c1, c2], _ =>
    obtain ⟨fuel, hf⟩ := h
    obtain ⟨xs, m, _, hx, _, hl, hg⟩ := DataW.trod_array ht hf
    match xs, hl with
    | [y0, y1, y2], _ =>
      have g0 := hg 0 (by omega)
      have g1 := hg 1 (by omega)
      have g2 := hg 2 (by omega)
      simp [hce, Value.cells] at g0 g1 g2
      obtain ⟨a, e0, rfl, wa⟩ := DataW.trod_int he g0
      obtain ⟨b, e1, rfl, wb⟩ := DataW.trod_int he g1
      obtain ⟨c, e2, rfl, wc⟩ := DataW.trod_int he g2
      simp at e0 e1 e2
      subst e0 e1 e2
      simp at hx
      exact ⟨a, b, c, rfl, hx.2, wa, wb, wc⟩
end
theorem laidOut : laidOutB Try.prog = true := by kernel_rfl
end Go.Proofs.Ythgnniiiekkodaa.Open
