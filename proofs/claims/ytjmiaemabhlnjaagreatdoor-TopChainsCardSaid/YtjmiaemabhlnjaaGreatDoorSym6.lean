/-
  A run of a Go program over data that is known: the operations that make blocks, or turn them.
-/
import Derived.Test.YtjmiaemabhlnjaaGreatDoorSym5
import Derived.Laws.CopyRow
import Derived.Great.BuildSlice
set_option linter.unusedVariables false
set_option linter.unusedSimpArgs false
namespace Go.Proofs.YtjmiaemabhlnjaaGreatDoor.Sym
open Go Go.RowKit
noncomputable section

section
variable {P : Program} {W : World} {σ : Env} {w : World}

/-- What an operation that acts leaves. -/
def Aok (P : Program) (W : World) (σ : Env) (w : World) (s : Sem Next) (x : SV) (h' : Hp) (n' : Nat) : Prop :=
  ∃ σ' w', σ.le σ' ∧ σ'.bl.length = n' ∧ HRel W σ' h' w' ∧ ((∃ V, conc σ' x = some V ∧ s.run P w = .ok (.value V) w') ∨ (x = .undef ∧ s.run P w = .ok .skip w'))

theorem run_v {s : Sem Value} {V : Value} {w w' : World} (h : s.run P w = .ok V w') : (do pure (Next.value (← s)) : Sem Next).run P w = .ok (.value V) w' := by simp [h]
theorem run_u {s : Sem Unit} {w w' : World} (h : s.run P w = .ok () w') : (do s; pure Next.skip : Sem Next).run P w = .ok .skip w' := by simp [h]

/-! ### New rows -/

/-- A row of just these cells. -/
theorem HRel.row {h : Hp} (H : HRel W σ h w) (l : List SV) (vs : List Value) (el : TypeId) (hl : concL σ l = some vs) :
    HRel W ⟨σ.bl ++ [(w.heap.size, 0)], σ.op⟩ (h.set σ.bl.length (.row l none)) (w.alloc (.cells vs.toArray el)) := by
  refine H.alloc _ _ 0 fun τ hle hb => ?_
  refine ⟨w.heap.size, 0, vs.toArray, el, vs, hb, ?_, concL_le hle hl, fun j v hv => by simpa using hv, by simp [concL_length hl]⟩
  show (w.heap.push _)[w.heap.size]? = _
  simp

/-- A row of these cells, and perhaps more. -/
theorem HRel.openRow {h : Hp} (H : HRel W σ h w) (l : List SV) (vs rest : List Value) (el : TypeId) (K es : Nat) (hl : concL σ l = some vs) (hes : 0 < es) (hK : vs.length + rest.length = K * es) (hm : K ≤ maxLen) :
    HRel W ⟨σ.bl ++ [(w.heap.size, K)], σ.op⟩ (h.set σ.bl.length (.row l (some es))) (w.alloc (.cells (vs ++ rest).toArray el)) := by
  refine H.alloc _ _ K fun τ hle hb => ?_
  refine ⟨w.heap.size, K, (vs ++ rest).toArray, el, vs, hb, ?_, concL_le hle hl, fun j v hv => ?_, hes, by simp [← hK], hm, by rw [← concL_length hl]; simp⟩
  · show (w.heap.push _)[w.heap.size]? = _
    simp
  · have hj := (List.getElem?_eq_some_iff.1 hv).1
    simp only [List.getElem?_toArray]
    rw [List.getElem?_append_left hj, hv]

theorem snoc_le (σ : Env) (x : Nat × Nat) : σ.le ⟨σ.bl ++ [x], σ.op⟩ := ⟨⟨[x], rfl⟩, rfl⟩
theorem snoc_get (σ : Env) (x : Nat × Nat) : (σ.bl ++ [x])[σ.bl.length]? = some x := by simp

/-- A block of cells, written from some place on. -/
theorem HRel.write {h : Hp} (H : HRel W σ h w) {id : Nat} {cells : List SV} {op : Option Nat} (ho : h.get id = some (.row cells op)) {off : Nat} {l : List SV} {us : List Value}
    (hl : concL σ l = some us) (ha : l.all SV.one = true) (hoff : off + l.length ≤ cells.length) :
    ∃ b K w', σ.bl[id]? = some (b, K) ∧ (∀ i, i ≤ off → (storeCells ⟨b, off - i, none⟩ us i).run P w = .ok () w') ∧ HRel W σ (h.set id (.row (setRange cells off l) op)) w' := by
  obtain ⟨b, K, c, el, vs, h1, h2, h3, h4, h5⟩ := H.obj id _ ho
  have hvl := concL_length h3
  have hul := concL_length hl
  have hcs : cells.length ≤ c.size := by
    cases op with
    | none => simp only at h5; omega
    | some es => exact h5.2.2.2
  have hone : ∀ v ∈ us, v.oneCell' = true := by
    intro v hv
    obtain ⟨i, hi⟩ := List.getElem?_of_mem hv
    have hi' := (List.getElem?_eq_some_iff.1 hi).1
    have hx : l[i]? = some (l[i]'(by omega)) := List.getElem?_eq_getElem (by omega)
    obtain ⟨v', e1, e2⟩ := concL_get hl hx
    rw [hi] at e1
    cases e1
    exact SV.one_cell (List.all_eq_true.1 ha _ (List.getElem_mem _)) e2
  refine ⟨b, K, w.setRow b (c.toList.take off ++ us ++ c.toList.drop (off + us.length)).toArray, h1, fun i hi => ?_, ?_⟩
  · have := run_storeCells_at P b (off - i) el us i c w h2 (by omega) hone
    rw [show off - i + i = off by omega] at this
    exact this
  · have hW := H.own id _ b K ho h1
    refine H.turn ho h1 ⟨rfl, rfl, rfl, by simp, fun k hk => setRow_other w b k _ (by omega)⟩ (fun k hk => setRow_other w b k _ hk) ?_
    refine ⟨b, K, _, el, setV vs off us, h1, setRow_heap w b c _ el (0, 0) h2, concL_setRange off h3 hl, fun j v hv => ?_, ?_⟩
    · rw [setV_get _ _ _ (by omega)] at hv
      have : (setV c.toList off us)[j]? = some v := by
        rw [setV_get _ _ _ (by have : c.toList.length = c.size := Array.length_toList; omega)]
        split at hv
        · rename_i hj; rw [if_pos hj]; exact hv
        · rename_i hj; rw [if_neg hj]; simpa using h4 j v hv
      simpa [setV] using this
    · have hsz : (c.toList.take off ++ us ++ c.toList.drop (off + us.length)).toArray.size = c.size := by
        simp only [List.size_toArray, List.length_append, List.length_take, List.length_drop, Array.length_toList]
        omega
      have hln : (setRange cells off l).length = cells.length := setV_length cells off l hoff
      cases op with
      | none => simp only at h5 ⊢; rw [hsz, hln]; exact h5
      | some es => simp only at h5 ⊢; rw [hsz, hln]; exact h5

/-! ### Stores -/

def evStore (B : Tab) (h : Hp) (t : TypeId) (x v : SV) : Option Hp :=
  match x, B.T t with
  | .ptr id off, some ti =>
    let l := v.cells
    if l.all SV.one && Nat.beq l.length ti.size then match h.get id with
      | some (.row cells op) => if Nat.ble (off + l.length) cells.length then some (h.set id (.row (setRange cells off l) op)) else none
      | _ => none
    else none
  | _, _ => none

theorem evStore_ok {B : Tab} {h h' : Hp} {t : TypeId} {x v : SV} {X V : Value} (hB : TabOk P W σ.op B) (H : HRel W σ h w) (hx : conc σ x = some X) (hv : conc σ v = some V) (he : evStore B h t x v = some h') :
    ∃ w', (Instr.storeAt t X V).run P w = .ok () w' ∧ HRel W σ h' w' := by
  unfold evStore at he
  split at he
  · rename_i id off ti ht
    obtain ⟨i, z, hi, hs, _⟩ := hB.info _ _ ht
    simp only at he
    split at he
    · rename_i hc
      simp only [Bool.and_eq_true] at hc
      have hlen := Nat.eq_of_beq_eq_true hc.2
      split at he
      · rename_i cells op ho
        split at he
        · rename_i hle
          cases he
          have hl := SV.cells_conc hv hc.1
          obtain ⟨b, K, w', h1, h2, h3⟩ := H.write (P := P) ho hl hc.1 (Nat.le_of_ble_eq_true hle)
          simp only [conc, h1, Option.map_some, Option.some.injEq] at hx
          subst hx
          refine ⟨w', ?_, h3⟩
          have hsz : V.cells.size = i.size := by
            have := concL_length hl
            simp only [Array.length_toList] at this
            omega
          simp only [Instr.storeAt, Instr.sureAddr, storeVar, Sem.run_bind, Sem.run_pure, Result.andThen_ok, run_sizeOf' hi, hsz, ne_eq, not_true, if_false]
          have := h2 0 (Nat.zero_le _)
          simpa using this
        · cases he
      · cases he
    · cases he
  · cases he

/-! ### Cells of a slice -/

def sliceCells (h : Hp) (es : Nat) : SV → Option (Nat × List SV)
  | .nils => some (0, [])
  | .slice id off es' len _ => if es' = es then match cellsAt h id with
      | some cells => match takeN (len * es) (cells.drop (off * es)) with
        | some l => some (len, l)
        | none => none
      | _ => none
    else none
  | _ => none

theorem sliceCells_ok {h : Hp} (H : HRel W σ h w) {es : Nat} {x : SV} {X : Value} {n : Nat} {l : List SV} (hx : conc σ x = some X) (he : sliceCells h es x = some (n, l)) :
    ∃ base cap vs, X = .slice base n cap ∧ concL σ l = some vs ∧ vs.length = n * es ∧ (∀ w', (∀ k, k < w.heap.size → w'.heap[k]? = w.heap[k]?) → ∀ m, m ≤ n → (Builtin.firstCells es m X).run P w' = .ok (vs.take (m * es)).toArray w') ∧
      (base = none → n = 0 ∧ cap = 0) ∧ (∀ a, base = some a → ∀ (j : Nat) (v : Value), vs[j]? = some v → w.cell? (a.add j) = some v) := by
  unfold sliceCells at he
  split at he
  · cases he
    simp only [conc, Option.some.injEq] at hx
    subst hx
    exact ⟨none, 0, [], rfl, rfl, by simp, fun w' _ m hm => by simp [run_firstCells_none], fun _ => ⟨rfl, rfl⟩, fun a h => (by cases h)⟩
  · rename_i id off es' len cap
    split at he
    · rename_i hes
      subst hes
      split at he
      · rename_i cells ho
        split at he
        · rename_i l' hl'
          cases he
          obtain ⟨e1, e2⟩ := takeN_spec hl'
          have hrd : Reads σ w (id, off * es', l) := by rw [e1]; exact H.readsC ho (off * es') (n * es')
          obtain ⟨b, K, vs, h1, h2, h3⟩ := hrd
          simp only at h1 h2 h3
          simp only [conc, h1, Option.map_some, Option.some.injEq] at hx
          subst hx
          have hlen : vs.length = n * es' := by
            rw [concL_length h2, e1, List.length_take]
            omega
          refine ⟨_, _, vs, rfl, h2, hlen, fun w' hw' m hm => ?_, fun h => (by cases h), fun a ha j v hv => ?_⟩
          · refine run_firstCells_some w' es' m _ _ _ _ (by rw [List.length_take, hlen, Nat.min_eq_left (Nat.mul_le_mul_right _ hm)]) fun j v hj => ?_
            rw [List.getElem?_take] at hj
            split at hj
            · rw [addr_add]
              have := h3 j v hj
              have hlt := World.block_lt_of_cell? w _ this
              rw [← this]
              exact World.cell?_of_block (hw' _ hlt)
            · cases hj
          · cases ha
            rw [addr_add]
            exact h3 j v hv
        · cases he
      · cases he
    · cases he
  · cases he

/-! ### A row that another one takes over -/

theorem HRel.over {h : Hp} (H : HRel W σ h w) {id : Nat} {cells : List SV} {es b K : Nat} (ho : h.get id = some (.row cells (some es))) (hb : σ.bl[id]? = some (b, K)) {w' : World} {u : AObj}
    (hg : Below W.heap.size w w') (hk : ∀ k, k ≠ b → w'.heap[k]? = w.heap[k]?) (hu : ORel ⟨σ.bl ++ [(b, K)], σ.op⟩ w' σ.bl.length u) : HRel W ⟨σ.bl ++ [(b, K)], σ.op⟩ ((h.del id).set σ.bl.length u) w' := by
  have hle := snoc_le σ (b, K)
  have hid : id < σ.bl.length := (List.getElem?_eq_some_iff.1 hb).1
  have hnew := snoc_get σ (b, K)
  have key : ∀ i o, (h.del id).get i = some o → i ≠ id ∧ h.get i = some o ∧ ∃ b' K', σ.bl[i]? = some (b', K') ∧ b' < w.heap.size ∧ i < σ.bl.length := by
    intro i o hi
    rw [PT.get_del] at hi
    split at hi
    · cases hi
    · rename_i hne
      obtain ⟨b', K', h1, h2⟩ := (H.obj i o hi).block
      exact ⟨hne, hi, b', K', h1, h2, (List.getElem?_eq_some_iff.1 h1).1⟩
  refine ⟨fun i o hi => ?_, fun i j o v b1 K1 b2 K2 hi hj hij h1 h2 => ?_, fun i o b1 K1 hi h1 => ?_, H.below.trans hg⟩
  · rw [PT.get_set] at hi
    split at hi
    · rename_i he; cases hi; subst he; exact hu
    · obtain ⟨hne, hi', b', K', e1, e2, e3⟩ := key i o hi
      refine (H.obj i o hi').le hle fun b1 K1 h1 => hk b1 ?_
      exact H.apart i id o _ b1 K1 b K hi' ho hne h1 hb
  · rw [PT.get_set] at hi hj
    split at hi
    · rename_i he; cases hi; subst he
      rw [if_neg (Ne.symm hij)] at hj
      obtain ⟨hne, hj', b', K', e1, e2, e3⟩ := key j v hj
      rw [hnew] at h1
      cases h1
      rw [hle.get e1] at h2
      cases h2
      exact H.apart id j _ _ _ _ _ _ ho hj' (Ne.symm hne) hb e1
    · obtain ⟨hne, hi', b', K', e1, e2, e3⟩ := key i o hi
      rw [hle.get e1] at h1
      cases h1
      split at hj
      · rename_i he; cases hj; subst he
        rw [hnew] at h2
        cases h2
        exact H.apart i id _ _ _ _ _ _ hi' ho hne e1 hb
      · obtain ⟨hne2, hj', b3, K3, f1, f2, f3⟩ := key j v hj
        rw [hle.get f1] at h2
        cases h2
        exact H.apart i j _ _ _ _ _ _ hi' hj' hij e1 f1
  · rw [PT.get_set] at hi
    split at hi
    · rename_i he; cases hi; subst he
      rw [hnew] at h1
      cases h1
      exact H.own id _ _ _ ho hb
    · obtain ⟨hne, hi', b', K', e1, e2, e3⟩ := key i o hi
      rw [hle.get e1] at h1
      cases h1
      exact H.own i o _ _ hi' e1

/-- A block that nobody speaks of any more. -/
theorem HRel.drop {h : Hp} (H : HRel W σ h w) (id : Nat) : HRel W σ (h.del id) w := by
  have key : ∀ i o, (h.del id).get i = some o → h.get i = some o := by
    intro i o hi
    rw [PT.get_del] at hi
    split at hi
    · cases hi
    · exact hi
  exact ⟨fun i o hi => H.obj i o (key i o hi), fun i j o v b1 K1 b2 K2 hi hj => H.apart i j o v b1 K1 b2 K2 (key i o hi) (key j v hj), fun i o b K hi => H.own i o b K (key i o hi), H.below⟩

end
end
end Go.Proofs.YtjmiaemabhlnjaaGreatDoor.Sym
