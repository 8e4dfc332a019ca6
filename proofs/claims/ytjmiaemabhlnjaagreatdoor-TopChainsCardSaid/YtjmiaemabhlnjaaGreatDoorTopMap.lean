import Derived.Maps.RangeWalk
set_option linter.all false
/-! Maps as rows of pairs in whatever order: laid, filled, ranged over. -/
namespace Go.YtjmiaemabhlnjaaGreatDoorMap
open Go Go.ChangeMaps
open Go.Maps (Keyed)

abbrev Pair := Value × Value
def pr (e : MapEntry) : Pair := (e.key, e.val)

/-- Block b is a map whose pairs are those of L, in some order. -/
def MapIs (w : World) (b : Nat) (L : List Pair) : Prop :=
  ∃ es clock, w.heap[b]? = some (.map es clock) ∧ (es.toList.map pr).Perm L ∧ (es.toList.map (·.born)).Nodup ∧ ∀ e ∈ es.toList, e.born < clock

/-- .. and block r ranges over it; the pairs of 'left' are still to come. -/
def IterAt (w : World) (b r : Nat) (L left : List Pair) : Prop :=
  ∃ es clock since seen c0, w.heap[b]? = some (.map es clock) ∧ (es.toList.map pr).Perm L ∧ (es.toList.map (·.born)).Nodup ∧ (∀ e ∈ es.toList, e.born < clock) ∧
    w.heap[r]? = some (.mapIter (some b) since seen c0) ∧ (∀ e ∈ es.toList, e.born < since) ∧ since ≤ c0 ∧ since ≤ clock ∧ ((leftOf es seen).toList.map pr).Perm left

theorem MapIs.lt {w : World} {b : Nat} {L : List Pair} (h : MapIs w b L) : b < w.heap.size := by
  obtain ⟨es, clock, hb, _⟩ := h
  exact (Array.getElem?_eq_some_iff.1 hb).1

theorem IterAt.lt {w : World} {b r : Nat} {L l : List Pair} (h : IterAt w b r L l) : r < w.heap.size := by
  obtain ⟨es, clock, since, seen, c0, _, _, _, _, hr, _⟩ := h
  exact (Array.getElem?_eq_some_iff.1 hr).1

theorem IterAt.map {w : World} {b r : Nat} {L l : List Pair} (h : IterAt w b r L l) : MapIs w b L := by
  obtain ⟨es, clock, since, seen, c0, hb, hp, hn, hc, _⟩ := h
  exact ⟨es, clock, hb, hp, hn, hc⟩

theorem IterAt.ne {w : World} {b r : Nat} {L l : List Pair} (h : IterAt w b r L l) : r ≠ b := by
  obtain ⟨es, clock, since, seen, c0, hb, _, _, _, hr, _⟩ := h
  intro e; rw [e, hb] at hr; cases hr

theorem MapIs.same {w w' : World} {b : Nat} {L : List Pair} (h : MapIs w b L) (hb' : w'.heap[b]? = w.heap[b]?) : MapIs w' b L := by
  obtain ⟨es, clock, hb, r⟩ := h
  exact ⟨es, clock, hb'.trans hb, r⟩

theorem IterAt.same {w w' : World} {b r : Nat} {L l : List Pair} (h : IterAt w b r L l) (hb' : w'.heap[b]? = w.heap[b]?) (hr' : w'.heap[r]? = w.heap[r]?) : IterAt w' b r L l := by
  obtain ⟨es, clock, since, seen, c0, hb, h1, h2, h3, hr, h4⟩ := h
  exact ⟨es, clock, since, seen, c0, hb'.trans hb, h1, h2, h3, hr'.trans hr, h4⟩

theorem MapIs.kept {w w' : World} {b : Nat} {row : Option Nat} {L : List Pair} (h : MapIs w b L) (hg : w.grownBy w' row) (hne : some b ≠ row) : MapIs w' b L :=
  h.same (hg.block b h.lt hne)

theorem IterAt.kept {w w' : World} {b r : Nat} {row : Option Nat} {L l : List Pair} (h : IterAt w b r L l) (hg : w.grownBy w' row) (hne : some b ≠ row) (hne' : some r ≠ row) : IterAt w' b r L l :=
  h.same (hg.block b h.map.lt hne) (hg.block r h.lt hne')

theorem MapIs.perm {w : World} {b : Nat} {L L' : List Pair} (h : MapIs w b L) (hp : L.Perm L') : MapIs w b L' := by
  obtain ⟨es, clock, hb, h1, h2⟩ := h
  exact ⟨es, clock, hb, h1.trans hp, h2⟩

theorem MapIs.made (w : World) : MapIs (w.alloc (.map #[] 0)) w.heap.size [] :=
  ⟨#[], 0, heap_alloc_new w _, by simp, by simp, by simp⟩

theorem run_make (P : Program) (w : World) (t : TypeId) : (Instr.makeMap t none).run P w = .ok (.map (some w.heap.size)) (w.alloc (.map #[] 0)) := by
  simp [Instr.makeMap]

variable {P : Program}

/-- A pair with a new key laid in. -/
theorem MapIs.insert {w : World} {b : Nat} {L : List Pair} {t k e : TypeId} (h : MapIs w b L) (K : Keyed P k) (ht : P.underlying t = some (.map k e)) {key val : Value} {kl : Lit}
    (hkey : keyOf P k key = some kl) (hall : ∀ p ∈ L, ∃ l, keyOf P k p.1 = some l) (hnew : ∀ p ∈ L, p.1 ≠ key) :
    ∃ w', (Instr.mapUpdate t (.map (some b)) key val).run P w = .ok () w' ∧ MapIs w' b ((key, val) :: L) ∧ w.grownBy w' (some b) ∧ w'.heap.size = w.heap.size := by
  obtain ⟨es, clock, hb, hp, hn, hc⟩ := h
  have hmem : ∀ x ∈ es.toList, pr x ∈ L := fun x hx => hp.mem_iff.1 (List.mem_map_of_mem hx)
  have hfind : (Instr.findKey k key es.toList).run P w = .ok none w := by
    rcases K.find w hkey es.toList (fun x hx => hall _ (hmem x hx)) with h1 | ⟨j, x, _, h2, h3⟩
    · exact h1.1
    · exact absurd h3 (hnew _ (hmem x (List.mem_of_getElem? h2)))
  have hg : (getObj b).run P w = .ok (.map es clock) w := by simp [getObj, Sem.run, hb]
  have hlt := (Array.getElem?_eq_some_iff.1 hb).1
  refine ⟨setBlock w b (.map (es.push ⟨key, val, clock⟩) (clock + 1)), ?_, ⟨_, _, heap_setBlock_same hb _, ?_, ?_, ?_⟩, ⟨rfl, rfl, rfl, by simp [setBlock], fun i _ hi => heap_setBlock_other hb _ (fun e => hi (by rw [e]))⟩, by simp [setBlock]⟩
  · simp only [Instr.mapUpdate, Sem.run_bind, run_underlying ht, Result.andThen, hg, K.check w false hkey, hfind]
    simp [setObj, Sem.run, hb, setBlock]
  · simp only [Array.toList_push, List.map_append, List.map_cons, List.map_nil]
    refine (List.perm_append_comm).trans ?_
    exact List.Perm.cons _ hp
  · simp only [Array.toList_push, List.map_append, List.map_cons, List.map_nil]
    rw [List.nodup_append]
    refine ⟨hn, by simp, fun x hx y hy => ?_⟩
    obtain ⟨z, hz, rfl⟩ := List.mem_map.1 hx
    have := hc z hz
    simp at hy
    omega
  · intro x hx
    simp only [Array.toList_push, List.mem_append, List.mem_singleton] at hx
    rcases hx with hx | rfl
    · have := hc x hx
      omega
    · simp

/-- 'range m'. -/
theorem MapIs.range {w : World} {b : Nat} {L : List Pair} {t k e : TypeId} (h : MapIs w b L) (ht : P.underlying t = some (.map k e)) :
    ∃ w', (Instr.range t (.map (some b))).run P w = .ok (.pointer (some ⟨w.heap.size, 0, none⟩)) w' ∧ IterAt w' b w.heap.size L L ∧ w.grownBy w' none ∧ w'.heap.size = w.heap.size + 1 := by
  have hlt := h.lt
  obtain ⟨es, clock, hb, hp, hn, hc⟩ := h
  refine ⟨_, run_range_map w t k e b es clock ht hb, ⟨es, clock, clock, #[], clock, ((MapKept.heap_alloc w _).2 b hlt).trans hb, hp, hn, hc, (MapKept.heap_alloc w _).1, hc, Nat.le_refl _, Nat.le_refl _, ?_⟩, World.grownBy_alloc w _ none, by simp⟩
  have : leftOf es #[] = es := by
    unfold leftOf
    rw [Array.filter_eq_self.2]
    intro x _; simp
  rw [this]
  exact hp

theorem left_push {es : List MapEntry} {seen : Array Nat} {e : MapEntry} (he : e ∈ es) (hs : seen.contains e.born = false) (hn : (es.map (·.born)).Nodup) :
    (es.filter fun x => !seen.contains x.born).Perm (e :: es.filter fun x => !(seen.push e.born).contains x.born) := by
  induction es with
  | nil => simp at he
  | cons a l ih =>
    simp only [List.map_cons, List.nodup_cons] at hn
    rcases List.mem_cons.1 he with rfl | he'
    · have h1 : (l.filter fun x => !(seen.push e.born).contains x.born) = l.filter fun x => !seen.contains x.born := by
        apply List.filter_congr
        intro x hx
        have : x.born ≠ e.born := fun h => hn.1 (by rw [← h]; exact List.mem_map_of_mem (f := (·.born)) hx)
        have h2 : (seen.push e.born).contains x.born = seen.contains x.born := by
          simp [Array.contains_push, this]
        rw [h2]
      have h3 : (seen.push e.born).contains e.born = true := by simp [Array.contains_push]
      simp only [List.filter_cons, hs, h3, Bool.not_false, if_true, Bool.not_true, Bool.false_eq_true, if_false, h1]
      exact List.Perm.refl _
    · have hne : a.born ≠ e.born := fun h => hn.1 (by rw [h]; exact List.mem_map_of_mem (f := (·.born)) he')
      have h2 : (seen.push e.born).contains a.born = seen.contains a.born := by
        simp [Array.contains_push, hne]
      simp only [List.filter_cons, h2]
      split
      · exact ((ih he' hn.2).cons a).trans (List.Perm.swap _ _ _)
      · exact ih he' hn.2

theorem sb_other (w : World) (r : Nat) (o : Obj) {i : Nat} (h : i ≠ r) : (setBlock w r o).heap[i]? = w.heap[i]? := by
  simp only [setBlock, Array.getElem?_setIfInBounds]
  rw [if_neg (Ne.symm h)]

theorem sb_same {w : World} {r : Nat} (o : Obj) (h : r < w.heap.size) : (setBlock w r o).heap[r]? = some o := by
  simp [setBlock, h]

/-- A step of the loop: whichever comes. -/
theorem IterAt.next {w : World} {b r : Nat} {L left : List Pair} (h : IterAt w b r L left) (ty : TypeId) :
    (left = [] ∧ (Instr.next (.pointer (some ⟨r, 0, none⟩)) false ty).run P w = .ok (.tuple #[.bool false]) w) ∨
    ∃ k v left' w', left.Perm ((k, v) :: left') ∧ (Instr.next (.pointer (some ⟨r, 0, none⟩)) false ty).run P w = .ok (.tuple #[.bool true, k, v]) w' ∧ IterAt w' b r L left' ∧
      (Instr.entry (.pointer (some ⟨r, 0, none⟩))).run P w' = .ok (.tuple #[k, v]) w' ∧ w'.heap.size = w.heap.size ∧ w'.os = w.os ∧ w'.output = w.output ∧ w'.tape = w.tape ∧ ∀ i, i ≠ r → w'.heap[i]? = w.heap[i]? := by
  have hne := h.ne
  obtain ⟨es, clock, since, seen, c0, hb, hp, hn, hc, hr, hold, hs0, hsc, hl⟩ := h
  rcases run_next_at (P := P) w ty r b since c0 seen es clock hr hb hold hs0 with ⟨h0, hrun⟩ | ⟨e, he, w1, hw1, hrun⟩
  · refine Or.inl ⟨?_, hrun⟩
    have : (leftOf es seen).toList = [] := by
      apply List.eq_nil_of_length_eq_zero
      simpa using h0
    rw [this] at hl
    exact (List.Perm.nil_eq hl).symm
  · right
    have he' : e ∈ es.toList ∧ seen.contains e.born = false := by
      simpa [leftOf] using he
    have hb1 : w1.heap[b]? = some (.map es clock) := by rcases hw1 with rfl | rfl <;> exact hb
    have hr1 : w1.heap[r]? = some (.mapIter (some b) since seen c0) := by rcases hw1 with rfl | rfl <;> exact hr
    have hb2 : (setBlock w1 r (.mapIter (some b) since (seen.push e.born) clock)).heap[b]? = some (.map es clock) := (sb_other w1 r _ (Ne.symm hne)).trans hb1
    have hr2 := sb_same (w := w1) (r := r) (.mapIter (some b) since (seen.push e.born) clock) (Array.getElem?_eq_some_iff.1 hr1).1
    refine ⟨e.key, e.val, (leftOf es (seen.push e.born)).toList.map pr, _, ?_, hrun, ⟨es, clock, since, _, clock, hb2, hp, hn, hc, hr2, hold, hsc, hsc, List.Perm.refl _⟩, run_entry_at _ r b since seen es clock e hr2 hb2 he'.1 hn, ?_, ?_, ?_, ?_, ?_⟩
    · refine hl.symm.trans ?_
      have := (left_push (seen := seen) he'.1 he'.2 hn).map pr
      simpa [leftOf, pr] using this
    · rcases hw1 with rfl | rfl <;> simp only [setBlock, Array.size_setIfInBounds] <;> rfl
    · rcases hw1 with rfl | rfl <;> rfl
    · rcases hw1 with rfl | rfl <;> rfl
    · rcases hw1 with rfl | rfl <;> rfl
    · intro i hi
      rw [sb_other w1 r _ hi]
      rcases hw1 with rfl | rfl <;> rfl

#print axioms IterAt.next
#print axioms MapIs.insert
end Go.YtjmiaemabhlnjaaGreatDoorMap
