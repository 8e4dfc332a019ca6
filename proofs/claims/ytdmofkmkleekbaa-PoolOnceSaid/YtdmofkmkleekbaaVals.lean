/-
  An argument that is a row of values: opened to a list.
-/
import Derived.Test.YtdmofkmkleekbaaOpen
import Derived.Test.YtdmofkmkleekbaaBase
import Derived.Deep.SlicePairs
namespace Go.Proofs.Ytdmofkmkleekbaa.Open
open Go.Joins Go.ChangeShapes Go.WideShapes Go.RowKit Go.Deep
section
variable {H : Type} {enc : TypeId × Value → H} {P : Program} {w : World} {base : Nat} {spare : Nat → Bool} {held : Bool}
theorem flat_of_cells : ∀ (l : List (Int × Int)) (w : World) (a : Addr), (∀ i x, l[i]? = some x → w.cell? (a.add (i * 2)) = some (.int .u32 x.1) ∧ w.cell? (a.add (i * 2 + 1)) = some (.int .i64 x.2)) →
    ∀ j u, (Pool.flat l)[j]? = some u → w.cell? (a.add j) = some u := by
  intro l w a h j u hj
  have hlt : j < (Pool.flat l).length := (List.getElem?_eq_some_iff.1 hj).1
  rw [Pool.flat_len] at hlt
  obtain ⟨x, hx⟩ : ∃ x, l[j / 2]? = some x := ⟨_, List.getElem?_eq_getElem (by omega)⟩
  obtain ⟨g0, g1⟩ := h _ _ hx
  obtain ⟨k0, k1⟩ := Pool.flat_at l _ _ hx
  rcases Nat.mod_two_eq_zero_or_one j with e | e
  · have ej : j / 2 * 2 = j := by omega
    rw [ej] at g0 k0
    rw [hj] at k0
    rw [g0, k0]
  · have ej : j / 2 * 2 + 1 = j := by omega
    rw [ej] at g1 k1
    rw [hj] at k1
    rw [g1, k1]
/-- A value, by value. -/
theorem open_val {r : Reach} {b0 : Nat} {t : TypeId} {f0 f1 : Field} {v : Value} {d : DataW H} {p : List MemPlace} (hs : P.underlying t = some (.struct #[f0, f1])) (hone : oneCellFields P #[f0, f1] = true) (hC : P.cellsOf t = 2)
    (h0 : P.underlying f0.type = some (.int .u32)) (h1 : P.underlying f1.type = some (.int .i64)) (hv : Value.okWide P w r b0 t v) (h : DataW.Trod enc P w base spare held t v d p) :
    ∃ a b : Int, v = .agg #[.int .u32 a, .int .i64 b] ∧ p = [] ∧ (Lit.int .u32 a).wf = true ∧ (Lit.int .i64 b).wf = true := by
  obtain ⟨v0, v1, y0, y1, n, rfl, rfl, rfl, g0, g1⟩ := Joins.open_agg2 hs hone hC hv h
  obtain ⟨a, e0, rfl, wa⟩ := DataW.trod_int h0 g0
  obtain ⟨b, e1, rfl, wb⟩ := DataW.trod_int h1 g1
  simp at e0 e1
  subst e0 e1
  exact ⟨a, b, rfl, rfl, wa, wb⟩
theorem open_vals {r : Reach} {b0 : Nat} {t e : TypeId} {f0 f1 : Field} {v : Value} {d : DataW H} {p : List MemPlace} (ht : P.underlying t = some (.slice e)) (he : P.underlying e = some (.struct #[f0, f1])) (hC : P.cellsOf e = 2) (o0 : f0.offset = 0) (o1 : f1.offset = 1) (k0 : P.cellsOf f0.type = 1) (k1 : P.cellsOf f1.type = 1)
    (h0 : P.underlying f0.type = some (.int .u32)) (h1 : P.underlying f1.type = some (.int .i64)) (hv : Value.okWide P w r b0 t v) (h : DataW.Trod enc P w base spare held t v d p) :
    ∃ (A : Option Addr) (c : Nat) (l : List (Int × Int)), v = .slice A l.length c ∧ Pool.Rd w A c l := by
  obtain ⟨ba, n, c, rfl⟩ := okWide_slice ht hv
  obtain ⟨fuel, hf⟩ := h
  rcases open_slice_pairs ht he hC o0 o1 k0 k1 hf with ⟨hcs, _⟩ | ⟨a, len, cap, m, n', V0, V1, D0, D1, P0, P1, hcs, _, hl, hm, hmm, _, hi⟩
  · simp [Value.cells] at hcs
    obtain ⟨rfl, rfl, rfl⟩ := hcs
    exact ⟨none, 0, [], rfl, ⟨Nat.le_refl _, by decide, fun _ => ⟨rfl, rfl⟩, fun _ h => (by cases h)⟩⟩
  · simp [Value.cells] at hcs
    obtain ⟨rfl, rfl, rfl⟩ := hcs
    have hle : n ≤ m := by rw [hmm]; split <;> omega
    have hx : ∀ i, ∃ x : Int × Int, i < n → w.cell? (a.add (i * 2)) = some (.int .u32 x.1) ∧ w.cell? (a.add (i * 2 + 1)) = some (.int .i64 x.2) := by
      intro i
      by_cases hin : i < n
      · obtain ⟨hc0, hc1, t0, t1⟩ := hi i (by omega)
        obtain ⟨x0, e0, _, _⟩ := DataW.trod_int h0 t0
        obtain ⟨x1, e1, _, _⟩ := DataW.trod_int h1 t1
        simp at e0 e1
        rw [e0] at hc0
        rw [e1] at hc1
        exact ⟨(x0, x1), fun _ => ⟨hc0, hc1⟩⟩
      · exact ⟨(0, 0), fun h => absurd h hin⟩
    have hx' := hx
    let f : Nat → Int × Int := fun i => (hx i).choose
    have hf : ∀ i, i < n → w.cell? (a.add (i * 2)) = some (.int .u32 (f i).1) ∧ w.cell? (a.add (i * 2 + 1)) = some (.int .i64 (f i).2) := fun i => (hx i).choose_spec
    refine ⟨some a, c, (List.range n).map f, by simp, ⟨by simpa using hl, hm, fun h => (by cases h), ?_⟩⟩
    rintro ad ha
    obtain rfl := Option.some.inj ha
    refine flat_of_cells _ w a ?_
    intro i x hix
    rw [List.getElem?_map] at hix
    have hin : i < n := by
      by_cases h : i < n
      · exact h
      · rw [List.getElem?_eq_none (by simp; omega)] at hix; cases hix
    rw [List.getElem?_range hin] at hix
    obtain rfl := Option.some.inj hix
    exact hf i hin
end
end Go.Proofs.Ytdmofkmkleekbaa.Open
