/-
  What is kept of a row: the plain law.
-/
import Derived.Test.YtdmofkmkleekbaaOf
namespace Go.Proofs.Ytdmofkmkleekbaa.Pool
theorem addL_pre (S : List (Int × Int)) (x : Int × Int) : S <+: addL S x := by
  unfold addL
  split
  · exact List.prefix_rfl
  · exact List.prefix_append _ _
theorem ofL_pre (l : List (Int × Int)) (k : Nat) : ∀ m, k ≤ m → m ≤ l.length → (ofL (l.take k)).1 <+: (ofL (l.take m)).1 ∧ (ofL (l.take k)).2 <+: (ofL (l.take m)).2 := by
  intro m
  induction m with
  | zero =>
    intro h _
    have e : k = 0 := by omega
    subst e
    exact ⟨List.prefix_rfl, List.prefix_rfl⟩
  | succ m ih =>
    intro h hm
    by_cases e : k = m + 1
    · subst e; exact ⟨List.prefix_rfl, List.prefix_rfl⟩
    · obtain ⟨h1, h2⟩ := ih (by omega) (by omega)
      obtain ⟨x, hx⟩ : ∃ x, l[m]? = some x := ⟨_, List.getElem?_eq_getElem (by omega)⟩
      rw [ofL_step l hx]
      exact ⟨h1.trans (addL_pre _ _), h2.trans (List.prefix_append _ _)⟩
theorem pre_at {α : Type} {a b : List α} (h : a <+: b) {i : Nat} {x : α} (hx : a[i]? = some x) : b[i]? = some x := by
  obtain ⟨t, rfl⟩ := h
  rw [List.getElem?_append_left (List.getElem?_eq_some_iff.1 hx).1]
  exact hx
theorem addL_idx (S : List (Int × Int)) (x : Int × Int) : (addL S x)[S.idxOf x]? = some x := by
  unfold addL
  split
  · rename_i h
    have hl := List.idxOf_lt_length_of_mem h
    rw [List.getElem?_eq_getElem hl, List.getElem_idxOf]
  · rename_i h
    rw [List.idxOf_eq_length h]
    simp
theorem addL_length (S : List (Int × Int)) (x : Int × Int) : (addL S x).length = max S.length (S.idxOf x + 1) ∧ S.idxOf x ≤ S.length := by
  unfold addL
  split
  · rename_i h
    have hl := List.idxOf_lt_length_of_mem h
    omega
  · rename_i h
    rw [List.idxOf_eq_length h]
    simp
theorem addL_again (S : List (Int × Int)) (x : Int × Int) : addL (addL S x) x = addL S x ∧ (addL S x).idxOf x = S.idxOf x := by
  by_cases h : x ∈ S
  · have e : addL S x = S := if_pos h
    rw [e, e]
    exact ⟨rfl, rfl⟩
  · have e : addL S x = S ++ [x] := if_neg h
    rw [e]
    refine ⟨if_pos (by simp), ?_⟩
    rw [List.idxOf_append, if_neg h, List.idxOf_eq_length h]
    simp
theorem addL_nodup {S : List (Int × Int)} (h : S.Nodup) (x : Int × Int) : (addL S x).Nodup := by
  unfold addL
  split
  · exact h
  · rename_i hx
    rw [List.nodup_append]
    refine ⟨h, by simp, ?_⟩
    intro a ha b hb
    simp at hb
    subst hb
    rintro rfl
    exact hx ha
theorem ofL_nodup (l : List (Int × Int)) : ∀ k, k ≤ l.length → (ofL (l.take k)).1.Nodup := by
  intro k
  induction k with
  | zero => intro _; simp [ofL]
  | succ k ih =>
    intro hk
    obtain ⟨x, hx⟩ : ∃ x, l[k]? = some x := ⟨_, List.getElem?_eq_getElem (by omega)⟩
    rw [ofL_step l hx]
    exact addL_nodup (ih (by omega)) x
theorem ofL_self {l : List (Int × Int)} (h : l.Nodup) : ∀ k, k ≤ l.length → (ofL (l.take k)).1 = l.take k := by
  intro k
  induction k with
  | zero => intro _; simp [ofL]
  | succ k ih =>
    intro hk
    obtain ⟨x, hx⟩ : ∃ x, l[k]? = some x := ⟨_, List.getElem?_eq_getElem (by omega)⟩
    rw [ofL_step l hx]
    show addL (ofL (l.take k)).1 x = _
    rw [ih (by omega)]
    have hkl : k < l.length := by omega
    have e : l[k] = x := (List.getElem?_eq_some_iff.1 hx).2
    rw [List.take_succ_eq_append_getElem hkl, e]
    refine if_neg ?_
    intro hm
    obtain ⟨j, hj, hjx⟩ := List.getElem_of_mem hm
    rw [List.length_take] at hj
    rw [List.getElem_take] at hjx
    have := List.pairwise_iff_getElem.1 h j k (by omega) hkl (by omega)
    exact this (hjx.trans e.symm)
theorem once_at {l : List (Int × Int)} {i : Nat} {x : Int × Int} (hx : l[i]? = some x) : (ofL l).2[i]? = some (((ofL (l.take i)).1.idxOf x : Nat) : Int) ∧ (ofL l).1[(ofL (l.take i)).1.idxOf x]? = some x := by
  have hi : i < l.length := (List.getElem?_eq_some_iff.1 hx).1
  obtain ⟨h1, h2⟩ := ofL_pre l (i + 1) l.length (by omega) (Nat.le_refl _)
  rw [List.take_length] at h1 h2
  rw [ofL_step l hx] at h1 h2
  refine ⟨pre_at h2 ?_, pre_at h1 (addL_idx _ _)⟩
  have e := (ofL_len l i (by omega)).2
  show ((ofL (l.take i)).2 ++ [_])[i]? = _
  rw [List.getElem?_append_right (by omega), e]
  simp
theorem once_most {l : List (Int × Int)} {i : Nat} {x : Int × Int} (hx : l[i]? = some x) : (ofL (l.take (i + 1))).1.length = max (ofL (l.take i)).1.length ((ofL (l.take i)).1.idxOf x + 1) ∧ (ofL (l.take i)).1.idxOf x ≤ (ofL (l.take i)).1.length := by
  rw [ofL_step l hx]
  exact addL_length _ _
theorem nodup_ne {l : List (Int × Int)} (h : l.Nodup) {i k : Nat} {x y : Int × Int} (hx : l[i]? = some x) (hy : l[k]? = some y) (hk : k < i) : ¬ (x.1 = y.1 ∧ x.2 = y.2) := by
  rintro ⟨h1, h2⟩
  have e : x = y := Prod.ext h1 h2
  obtain ⟨hi2, e1⟩ := List.getElem?_eq_some_iff.1 hx
  obtain ⟨hk2, e2⟩ := List.getElem?_eq_some_iff.1 hy
  exact List.pairwise_iff_getElem.1 h k i hk2 hi2 hk (by rw [e1, e2, e])
end Go.Proofs.Ytdmofkmkleekbaa.Pool
