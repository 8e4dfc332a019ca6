set_option linter.all false
/-! TopChains, the plain law: sites made a chain in the words are got back, the last one first. -/
namespace Go.Proofs.YtjmiaemabhlnjaaGreatDoor.Chains


theorem snocInd {α : Type} {P : List α → Prop} (h0 : P []) (h1 : ∀ S s, P S → P (S ++ [s])) (S : List α) : P S := by
  have h : ∀ T : List α, P T.reverse := by
    intro T
    induction T with
    | nil => exact h0
    | cons a T ih => rw [List.reverse_cons]; exact h1 _ _ ih
  have := h S.reverse
  rwa [List.reverse_reverse] at this

/-- One site more: the word keeps the head in its low half. -/
def step (p : List Int × Nat) (s : Nat) : List Int × Nat := (p.1.set s (p.1.getD s 0 * 65536 + p.2), s + 1)
/-- The words with their chain, and its head. -/
def packL (w : List Int) (S : List Nat) : List Int × Nat := S.foldl step (w, 0)

theorem packL_snoc (w : List Int) (S : List Nat) (s : Nat) : packL w (S ++ [s]) = step (packL w S) s := by
  unfold packL
  rw [List.foldl_append]
  rfl
theorem packL_len (w : List Int) (S : List Nat) : (packL w S).1.length = w.length := by
  induction S using snocInd with
  | h0 => rfl
  | h1 S s ih => rw [packL_snoc]; simp [step, ih]
/-- The head is behind the last site. -/
theorem packL_head (w : List Int) (S : List Nat) (s : Nat) (h : ∀ x ∈ S, x < s) : (packL w S).2 ≤ s := by
  induction S using snocInd with
  | h0 => simp [packL]
  | h1 S t _ =>
    rw [packL_snoc]
    have := h t (by simp)
    simp [step]
    omega
/-- A word that is no site is as it was. -/
theorem packL_other (w : List Int) (S : List Nat) (i : Nat) (h : i ∉ S) : (packL w S).1[i]? = w[i]? := by
  induction S using snocInd with
  | h0 => rfl
  | h1 S s ih =>
    rw [packL_snoc]
    have h1 : i ∉ S := fun hm => h (List.mem_append_left _ hm)
    have h2 : s ≠ i := fun e => h (by subst e; simp)
    show ((packL w S).1.set s _)[i]? = _
    rw [List.getElem?_set_ne h2]
    exact ih h1
/-- The last site's word, and what it was. -/
theorem packL_last (w : List Int) (S : List Nat) (s : Nat) (x : Int) (h : ∀ y ∈ S, y < s) (hx : w[s]? = some x) :
    (packL w (S ++ [s])).1[s]? = some (x * 65536 + (packL w S).2) ∧ (packL w (S ++ [s])).2 = s + 1 ∧ (packL w (S ++ [s])).1.set s x = (packL w S).1 := by
  have hn : s ∉ S := fun hm => Nat.lt_irrefl _ (h s hm)
  have ho := packL_other w S s hn
  rw [hx] at ho
  have hl : s < (packL w S).1.length := (List.getElem?_eq_some_iff.1 ho).1
  have hg : (packL w S).1.getD s 0 = x := by rw [List.getD_eq_getElem?_getD, ho]; rfl
  rw [packL_snoc]
  refine ⟨?_, rfl, ?_⟩
  · show ((packL w S).1.set s _)[s]? = _
    rw [List.getElem?_set_self hl, hg]
  · show (((packL w S).1.set s _).set s x) = _
    rw [List.set_set]
    refine List.ext_getElem? fun i => ?_
    by_cases e : s = i
    · subst e
      rw [List.getElem?_set_self hl, ho]
    · rw [List.getElem?_set_ne e]
/-- The halves of a site's word. -/
theorem halves (x : Int) (h : Nat) (hh : h < 65536) : (x * 65536 + h) % 65536 = h ∧ (x * 65536 + h) / 65536 = x := by omega

/-- Sites that rise, below n. -/
structure Rise (S : List Nat) (n : Nat) : Prop where
  up : S.Pairwise (· < ·)
  lt : ∀ x ∈ S, x < n
def wasOf (S : List Nat) (k : Nat) : Int := if k = 0 then -1 else (S.getD (k - 1) 0 : Nat)
theorem wasOf_succ (S : List Nat) (k s : Nat) (h : S[k]? = some s) : wasOf S (k + 1) = s := by
  unfold wasOf
  rw [if_neg (by omega), Nat.add_sub_cancel, List.getD_eq_getElem?_getD, h]
  rfl
theorem rise_was {S : List Nat} {n : Nat} (hS : Rise S n) (k s : Nat) (h : S[k]? = some s) : wasOf S k < s ∧ -1 ≤ wasOf S k := by
  unfold wasOf
  by_cases hk : k = 0
  · rw [if_pos hk]; omega
  · rw [if_neg hk]
    have hl : k < S.length := (List.getElem?_eq_some_iff.1 h).1
    have he : S[k] = s := (List.getElem?_eq_some_iff.1 h).2
    have hp := List.pairwise_iff_getElem.1 hS.up (k - 1) k (by omega) hl (by omega)
    have : S.getD (k - 1) 0 = S[k - 1] := by rw [List.getD_eq_getElem?_getD, List.getElem?_eq_getElem (by omega)]; rfl
    rw [this]
    omega
theorem rise_before {S : List Nat} {n : Nat} (hS : Rise S n) (k s : Nat) (h : S[k]? = some s) : ∀ x ∈ S.take k, x < s := by
  intro x hx
  have hl : k < S.length := (List.getElem?_eq_some_iff.1 h).1
  have he : S[k] = s := (List.getElem?_eq_some_iff.1 h).2
  obtain ⟨i, hi, hxi⟩ := List.mem_iff_getElem.1 hx
  rw [List.getElem_take] at hxi
  have hik : i < k := by simp at hi; omega
  have hp := List.pairwise_iff_getElem.1 hS.up i k (by omega) hl hik
  omega
theorem take_snoc {α : Type} (S : List α) (k : Nat) (s : α) (h : S[k]? = some s) : S.take (k + 1) = S.take k ++ [s] := by
  have hl : k < S.length := (List.getElem?_eq_some_iff.1 h).1
  have he : S[k] = s := (List.getElem?_eq_some_iff.1 h).2
  rw [List.take_succ_eq_append_getElem hl, he]
/-- One more site. -/
theorem pack_step (w : List Int) {S : List Nat} {n : Nat} (hS : Rise S n) (k s : Nat) (h : S[k]? = some s) (x : Int) (hx : w[s]? = some x) :
    (packL w (S.take k)).1[s]? = some x ∧ packL w (S.take (k + 1)) = ((packL w (S.take k)).1.set s (x * 65536 + (packL w (S.take k)).2), s + 1) ∧ (packL w (S.take k)).2 ≤ s := by
  have hb := rise_before hS k s h
  have hn : s ∉ S.take k := fun hm => Nat.lt_irrefl _ (hb s hm)
  have ho := packL_other w (S.take k) s hn
  rw [hx] at ho
  refine ⟨ho, ?_, packL_head w _ s hb⟩
  rw [take_snoc S k s h, packL_snoc]
  simp [step, ho]
/-- One site back. -/
theorem unpack_step (w : List Int) {S : List Nat} {n : Nat} (hS : Rise S n) (k s : Nat) (h : S[k]? = some s) (x : Int) (hx : w[s]? = some x) :
    (packL w (S.take (k + 1))).1[s]? = some (x * 65536 + (packL w (S.take k)).2) ∧ (packL w (S.take (k + 1))).2 = s + 1 ∧ (packL w (S.take (k + 1))).1.set s x = (packL w (S.take k)).1 ∧ (packL w (S.take k)).2 ≤ s := by
  have hb := rise_before hS k s h
  rw [take_snoc S k s h]
  obtain ⟨h1, h2, h3⟩ := packL_last w (S.take k) s x hb hx
  exact ⟨h1, h2, h3, packL_head w _ s hb⟩
theorem drop_rev {α : Type} (S : List α) (k : Nat) (s : α) (h : S[k]? = some s) : (S.drop k).reverse = (S.drop (k + 1)).reverse ++ [s] := by
  have hl : k < S.length := (List.getElem?_eq_some_iff.1 h).1
  have he : S[k] = s := (List.getElem?_eq_some_iff.1 h).2
  rw [List.drop_eq_getElem_cons hl, List.reverse_cons, he]
theorem rise_len {S : List Nat} {n : Nat} (hS : Rise S n) : S.length ≤ n := by
  have h : ∀ (S : List Nat) (m : Nat), S.Pairwise (· < ·) → (∀ x ∈ S, m ≤ x ∧ x < n) → m ≤ n → S.length + m ≤ n := by
    intro S
    induction S with
    | nil => intro m _ _ h; simpa using h
    | cons a S ih =>
      intro m hp hl _
      obtain ⟨h1, h2⟩ := List.pairwise_cons.1 hp
      have ha := hl a (by simp)
      have := ih (a + 1) h2 (fun x hx => ⟨h1 x hx, (hl x (by simp [hx])).2⟩) (by omega)
      simp
      omega
  have := h S 0 hS.up (fun x hx => ⟨Nat.zero_le _, hS.lt x hx⟩) (Nat.zero_le _)
  omega
end Go.Proofs.YtjmiaemabhlnjaaGreatDoor.Chains
