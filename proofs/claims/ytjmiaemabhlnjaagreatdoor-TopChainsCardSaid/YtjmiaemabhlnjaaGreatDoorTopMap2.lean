import Derived.Test.YtjmiaemabhlnjaaGreatDoorTopMap
import Derived.OwnWalk
import Derived.Maps.RangeWalk
set_option linter.all false
/-! The laws at the operations. -/
namespace Go.YtjmiaemabhlnjaaGreatDoorMap
open Go Go.ChangeMaps
open Go.Maps (Keyed)

theorem IterAt.left_eq {w : World} {b r : Nat} {L left : List Pair} (h : IterAt w b r L left) : w.rangeLeft b r = left.length := by
  obtain ⟨es, clock, since, seen, c0, hb, _, _, _, hr, _, _, _, hl⟩ := h
  simp only [World.rangeLeft, hb, hr]
  rw [← hl.length_eq]
  simp

theorem IterAt.perm {w : World} {b r : Nat} {L left left' : List Pair} (h : IterAt w b r L left) (hp : left.Perm left') : IterAt w b r L left' := by
  obtain ⟨es, clock, since, seen, c0, hb, h1, h2, h3, hr, h4, h5, h6, hl⟩ := h
  exact ⟨es, clock, since, seen, c0, hb, h1, h2, h3, hr, h4, h5, h6, hl.trans hp⟩

theorem pick_map {α : Type} [DecidableEq α] {f : α → Pair} {left : List α} {p : Pair} {l' : List Pair} (h : (left.map f).Perm (p :: l')) : ∃ x rest, f x = p ∧ left.Perm (x :: rest) ∧ (rest.map f).Perm l' := by
  have hm : p ∈ left.map f := h.mem_iff.2 (by simp)
  obtain ⟨x, hx, rfl⟩ := List.mem_map.1 hm
  have h1 := List.perm_cons_erase hx
  exact ⟨x, left.erase x, rfl, h1, ((h1.map f).symm.trans h).cons_inv⟩

variable {P : Program} (w : World) {ops : Array Oper} {rest : List Oper} {o : Oper} {a : Act} {Q : Exit → Act → World → Prop}

theorem wpList_range_map (hg : o.guard = none) (m : Operand) (t : TypeId) (hop : o.op = Op.range t m) (k e : TypeId) (ht : P.underlying t = some (.map k e)) (b : Nat) (L : List Pair)
    (hm : a.eval m = .map (some b)) (hown : MapIs w b L)
    (hK : ∀ w', IterAt w' b w.heap.size L L → w.grownBy w' none → w'.heap.size = w.heap.size + 1 → wpList P ops Q rest (a.put o.dst (.pointer (some ⟨w.heap.size, 0, none⟩))) w') :
    wpList P ops Q (o :: rest) a w := by
  refine wpList_plain hg fun K' hK' => ?_
  obtain ⟨w', hrun, r1, r2, r3⟩ := hown.range (P := P) ht
  unfold Oper.wp
  simp [execOp, hop, hm, hrun, Result.andThen]
  exact hK' _ _ (hK w' r1 r2 r3)

theorem wpList_insert_map (hg : o.guard = none) (m x v : Operand) (t : TypeId) (hop : o.op = Op.mapUpdate t m x v) (k e : TypeId) (K : Keyed P k) (ht : P.underlying t = some (.map k e)) (b : Nat) (L : List Pair)
    (hm : a.eval m = .map (some b)) (hown : MapIs w b L) (key val : Value) (kl : Lit) (hx : a.eval x = key) (hv : a.eval v = val) (hkey : keyOf P k key = some kl) (hall : ∀ p ∈ L, ∃ l, keyOf P k p.1 = some l) (hnew : ∀ p ∈ L, p.1 ≠ key)
    (hK : ∀ w', MapIs w' b ((key, val) :: L) → w.grownBy w' (some b) → w'.heap.size = w.heap.size → wpList P ops Q rest (a.put o.dst undef) w') :
    wpList P ops Q (o :: rest) a w := by
  refine wpList_plain hg fun K' hK' => ?_
  obtain ⟨w', hrun, r1, r2, r3⟩ := hown.insert (P := P) K ht hkey hall hnew (val := val)
  unfold Oper.wp
  simp [execOp, hop, hm, hx, hv, hrun, Result.andThen]
  exact hK' _ _ (hK w' r1 r2 r3)

theorem wpList_next_map {α : Type} [DecidableEq α] (f : α → Pair) (hg : o.guard = none) (it : Operand) (hop : o.op = Op.next it false) (b r : Nat) (L : List Pair) (left : List α)
    (hit : a.eval it = .pointer (some ⟨r, 0, none⟩)) (h : IterAt w b r L (left.map f))
    (hDone : left = [] → wpList P ops Q rest (a.put o.dst (.tuple #[.bool false])) w)
    (hMore : ∀ (x : α) (left' : List α) (w' : World), left.Perm (x :: left') → IterAt w' b r L (left'.map f) → w.grownBy w' (some r) → w'.heap.size = w.heap.size →
      (Instr.entry (.pointer (some ⟨r, 0, none⟩))).run P w' = .ok (.tuple #[(f x).1, (f x).2]) w' → wpList P ops Q rest (a.put o.dst (.tuple #[.bool true, (f x).1, (f x).2])) w') :
    wpList P ops Q (o :: rest) a w := by
  refine wpList_plain hg fun K' hK' => ?_
  unfold Oper.wp
  rcases h.next (P := P) o.type with ⟨h0, hrun⟩ | ⟨k, v, l', w', hp, hrun, h', hen, hs, ho, hou, hta, hbl⟩
  · simp [execOp, hop, hit, hrun, Result.andThen]
    exact hK' _ _ (hDone (List.map_eq_nil_iff.1 h0))
  · simp [execOp, hop, hit, hrun, Result.andThen]
    obtain ⟨x, left', hx, h1, h2⟩ := pick_map hp
    have e1 : (f x).1 = k := by rw [hx]
    have e2 : (f x).2 = v := by rw [hx]
    have := hMore x left' w' h1 (h'.perm h2.symm) ⟨ho, hta, hou, by omega, fun i _ hi => hbl i (fun e => hi (by rw [e]))⟩ hs (by rw [e1, e2]; exact hen)
    rw [e1, e2] at this
    exact hK' _ _ this
#print axioms wpList_next_map
end Go.YtjmiaemabhlnjaaGreatDoorMap
