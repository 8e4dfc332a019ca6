import Derived.Test.YtjmiaemabhlnjaaGreatDoorTopMap
import Derived.RegionTactic
set_option linter.all false
/-! A drawn region by an invariant over what is listed. -/
namespace Go.YtjmiaemabhlnjaaGreatDoorMap
open Go

variable {P : Program} {ops : Array Oper} {Q : Exit → Act → World → Prop}

def deps (o : Oper) : List Nat := (o.after.toList.filter (Region.binds .any)).map (·.on)

theorem ready_of {l : Array Bool} {i : Nat} (h : i ∈ Region.ready .any ops l) : ∃ o, ops[i]? = some o ∧ l.getD i true = false ∧ ∀ k ∈ deps o, l.getD k false = true := by
  obtain ⟨h0, o, ho, hall⟩ := mem_ready.1 h
  refine ⟨o, ho, h0, fun k hk => ?_⟩
  simp only [deps, List.mem_map, List.mem_filter, Array.mem_toList_iff] at hk
  obtain ⟨e, ⟨he, hb⟩, rfl⟩ := hk
  exact hall e he hb

theorem of_ready {l : Array Bool} {i : Nat} {o : Oper} (ho : ops[i]? = some o) (h0 : l.getD i true = false) (hd : ∀ k ∈ deps o, l.getD k false = true) : i ∈ Region.ready .any ops l := by
  refine mem_ready.2 ⟨h0, o, ho, fun e he hb => hd _ ?_⟩
  simp only [deps, List.mem_map, List.mem_filter, Array.mem_toList_iff]
  exact ⟨e, ⟨he, hb⟩, rfl⟩

theorem count_set : ∀ (l : List Bool) (i : Nat), l[i]? = some false → (l.set i true).count false + 1 = l.count false
  | [], i, h => by simp at h
  | x :: l, 0, h => by
    simp only [List.getElem?_cons_zero, Option.some.injEq] at h
    subst h
    simp
  | x :: l, i + 1, h => by
    simp only [List.getElem?_cons_succ] at h
    have := count_set l i h
    simp only [List.set_cons_succ, List.count_cons]
    omega

theorem getD_false {l : Array Bool} {i : Nat} (h : l.getD i true = false) : l.toList[i]? = some false := by
  simp only [Array.getElem?_toList]
  rw [Array.getD_eq_getD_getElem?] at h
  cases hl : l[i]? with
  | none => rw [hl] at h; simp at h
  | some b => rw [hl] at h; simp at h; rw [h]

theorem wpAny_inv {I : Array Bool → Act → World → Prop} (hdone : ∀ l a w, I l a w → Region.ready .any ops l = [] → Q .normal a w)
    (hstep : ∀ l a w, I l a w → ∀ i o, ops[i]? = some o → l.getD i true = false → (∀ k ∈ deps o, l.getD k false = true) → wpOp P ops Q i (I (l.setIfInBounds i true)) a w) :
    ∀ (n : Nat) (l : Array Bool) (a : Act) (w : World), l.toList.count false ≤ n → I l a w → wpAny P .any ops Q n l a w
  | 0, l, a, w, hn, hI => by
    have : Region.ready .any ops l = [] := by
      apply List.eq_nil_iff_forall_not_mem.2
      intro i hi
      obtain ⟨o, ho, h0, _⟩ := ready_of hi
      have h1 := count_set _ _ (getD_false h0)
      omega
    exact ⟨this, hdone l a w hI this⟩
  | n + 1, l, a, w, hn, hI => by
    refine ⟨hdone l a w hI, fun i hi => ?_⟩
    obtain ⟨o, ho, h0, hd⟩ := ready_of hi
    refine wpOp_mono (fun a' w' h' => wpAny_inv hdone hstep n _ a' w' ?_ h') (hstep l a w hI i o ho h0 hd)
    have h1 := count_set _ _ (getD_false h0)
    rw [Array.toList_setIfInBounds]
    omega

theorem all_listed {l : Array Bool} (hord : ∀ i o, ops[i]? = some o → ∀ k ∈ deps o, k < i) (hl : l.size = ops.size) (hr : Region.ready .any ops l = []) : ∀ i, i < ops.size → l.getD i false = true := by
  intro i
  induction i using Nat.strongRecOn with
  | ind i ih =>
    intro hi
    by_cases h0 : l.getD i true = false
    · exfalso
      obtain ⟨o, ho⟩ : ∃ o, ops[i]? = some o := ⟨ops[i], Array.getElem?_eq_getElem hi⟩
      have := of_ready (l := l) ho h0 fun k hk => ih k (hord i o ho k hk) (Nat.lt_trans (hord i o ho k hk) hi)
      rw [hr] at this
      cases this
    · have hil : i < l.size := by omega
      simp only [Array.getD_eq_getD_getElem?, Array.getElem?_eq_getElem hil, Option.getD_some] at h0 ⊢
      simpa using h0

/-! ### What has been laid in -/

variable {α : Type}

def laidIn (l : Array Bool) (ins : List (Nat × α)) : List α := (ins.filter fun p => l.getD p.1 false).map (·.2)

theorem laidIn_other {l : Array Bool} {i : Nat} {ins : List (Nat × α)} (h : ∀ p ∈ ins, p.1 ≠ i) : laidIn (l.setIfInBounds i true) ins = laidIn l ins := by
  unfold laidIn
  congr 1
  apply List.filter_congr
  intro p hp
  exact getD_set_ne false (Ne.symm (h p hp))

theorem laidIn_new {l : Array Bool} {i : Nat} {x : α} (hi : l.getD i true = false) : ∀ {ins : List (Nat × α)}, (ins.map (·.1)).Nodup → (i, x) ∈ ins → (x :: laidIn l ins).Perm (laidIn (l.setIfInBounds i true) ins)
  | [], _, h => by cases h
  | p :: ins, hn, h => by
    simp only [List.map_cons, List.nodup_cons] at hn
    have hlt : i < l.size := by
      rcases Nat.lt_or_ge i l.size with h' | h'
      · exact h'
      · rw [Array.getD_eq_getD_getElem?, Array.getElem?_eq_none h'] at hi
        simp at hi
    have hset : (l.setIfInBounds i true).getD i false = true := by simp [hlt]
    have hi' : l.getD i false = false := by
      rw [Array.getD_eq_getD_getElem?, Array.getElem?_eq_getElem hlt] at hi ⊢
      simpa using hi
    rcases List.mem_cons.1 h with rfl | h'
    · have ho : laidIn (l.setIfInBounds i true) ins = laidIn l ins := laidIn_other fun q hq e => hn.1 (by rw [← e]; exact List.mem_map_of_mem (f := (·.1)) hq)
      unfold laidIn at ho ⊢
      simp only [List.filter_cons, hset, hi', if_true, Bool.false_eq_true, if_false, List.map_cons]
      rw [ho]
    · have hne : i ≠ p.1 := fun e => hn.1 (by rw [← e]; exact List.mem_map_of_mem (f := (·.1)) h')
      have ih := laidIn_new hi hn.2 h'
      unfold laidIn at ih ⊢
      simp only [List.filter_cons, getD_set_ne false hne]
      split
      · simp only [List.map_cons]
        exact (List.Perm.swap _ _ _).trans (ih.cons _)
      · exact ih

theorem laidIn_sub {l : Array Bool} {ins : List (Nat × α)} {x : α} (h : x ∈ laidIn l ins) : ∃ i, (i, x) ∈ ins ∧ l.getD i false = true := by
  simp only [laidIn, List.mem_map, List.mem_filter] at h
  obtain ⟨⟨i, y⟩, ⟨h1, h2⟩, rfl⟩ := h
  exact ⟨i, h1, h2⟩

theorem laidIn_all {l : Array Bool} {ins : List (Nat × α)} (h : ∀ p ∈ ins, l.getD p.1 false = true) : laidIn l ins = ins.map (·.2) := by
  unfold laidIn
  rw [List.filter_eq_self.2 h]

theorem laidIn_none {l : Array Bool} {ins : List (Nat × α)} (h : ∀ p ∈ ins, l.getD p.1 false = false) : laidIn l ins = [] := by
  unfold laidIn
  rw [List.filter_eq_nil_iff.2 (fun p hp => by simp [h p hp])]
  rfl

#print axioms wpAny_inv
#print axioms laidIn_new
end Go.YtjmiaemabhlnjaaGreatDoorMap
