/-
  A run of a Go program over data that is known: that the evaluator is right: in whatever world, whatever the orders that are drawn.
-/
import Derived.Test.YtjmiaemabhlnjaaGreatDoorSym10
set_option linter.unusedVariables false
set_option linter.unusedSimpArgs false
namespace Go.Proofs.YtjmiaemabhlnjaaGreatDoor.Sym
open Go Go.RowKit
noncomputable section

section
variable {P : Program} {W : World} {op : List Value} {N : Fns} {B : Tab}

theorem Reads.le {σ τ : Env} (h : σ.le τ) {w : World} {r : Rec} (k : Reads σ w r) : Reads τ w r := by
  obtain ⟨b, K, vs, h1, h2, h3⟩ := k
  exact ⟨b, K, vs, h.get h1, concL_le h h2, h3⟩

theorem Reads.back {σ τ : Env} (h : σ.le τ) {w w0 : World} {r : Rec} (k : Reads τ w r) (k0 : Reads σ w0 r) : Reads σ w r := by
  obtain ⟨b, K, vs, h1, h2, h3⟩ := k
  obtain ⟨b0, K0, vs0, g1, g2, g3⟩ := k0
  have e1 := h.get g1
  rw [h1] at e1
  cases e1
  have e2 := concL_le h g2
  rw [h2] at e2
  cases e2
  exact ⟨b, K, vs, g1, g2, h3⟩

theorem evPlan_grows {rec : Rn} {all : List Oper} : ∀ {l : Pl} {st st' : St} {R R' : List (Nat × Rec)} {Hs Hs' : List (Nat × Hp)}, evPlan N B rec all l st R Hs = some (st', R', Hs') → (∀ r ∈ R, r ∈ R') ∧ (∀ h ∈ Hs, h ∈ Hs')
  | .done, st, st', R, R', Hs, Hs', he => by
    cases he
    exact ⟨fun _ h => h, fun _ h => h⟩
  | .quiet i p, st, st', R, R', Hs, Hs', he => by
    simp only [evPlan] at he
    split at he
    · split at he
      · split at he
        · exact evPlan_grows he
        · cases he
      · split at he
        · split at he
          · obtain ⟨h1, h2⟩ := evPlan_grows he
            exact ⟨fun r hr => h1 r (by simp [hr]), h2⟩
          · cases he
        · cases he
      · cases he
    · cases he
  | .act i p, st, st', R, R', Hs, Hs', he => by
    simp only [evPlan] at he
    split at he
    · obtain ⟨h1, h2⟩ := evPlan_grows he
      refine ⟨h1, fun h hh => h2 h ?_⟩
      split
      · simp [hh]
      · exact hh
    · cases he
  | .both i p j q, st, st', R, R', Hs, Hs', he => by
    simp only [evPlan] at he
    split at he
    · split at he
      · rename_i t1 R1 H1 hp1
        split at he
        · rename_i t2 R2 H2 hp2
          split at he
          · cases he
            obtain ⟨h1, h2⟩ := evPlan_grows hp1
            obtain ⟨h3, h4⟩ := evPlan_grows hp2
            refine ⟨fun r hr => h3 r (h1 r hr), fun h hh => h4 h ?_⟩
            have := h2 h (by split <;> simp [hh])
            split
            · simp [this]
            · exact this
          · cases he
        · cases he
      · cases he
    · cases he

/-! ### Plans -/

def PlanOk (ops : Array Oper) : Nat → Array Bool → Pl → Prop
  | 0, listed, .done => Region.ready .any ops listed = []
  | n + 1, listed, .quiet i p => i ∈ Region.ready .any ops listed ∧ Region.free .any ops listed i = true ∧ PlanOk ops n (listed.setIfInBounds i true) p
  | n + 1, listed, .act i p => Region.ready .any ops listed = [i] ∧ PlanOk ops n (listed.setIfInBounds i true) p
  | n + 1, listed, .both i p j q => Region.ready .any ops listed = [i, j] ∧ PlanOk ops n (listed.setIfInBounds i true) p ∧ PlanOk ops n (listed.setIfInBounds j true) q
  | _, _, _ => False

/-- The bits are what is listed. -/
structure Bits (ops : Array Oper) (listed : Array Bool) (mask : Nat) : Prop where
  size : listed.size = ops.size
  bit : ∀ j, listed.getD j false = mask.testBit j

theorem Bits.set {ops : Array Oper} {listed : Array Bool} {mask : Nat} (h : Bits ops listed mask) {i : Nat} (hi : i < ops.size) : Bits ops (listed.setIfInBounds i true) (mask ||| 2 ^ i) := by
  refine ⟨by simp [h.size], fun j => ?_⟩
  rw [Nat.testBit_or, Nat.testBit_two_pow]
  by_cases hij : i = j
  · subst hij
    simp [h.size, hi]
  · rw [getD_set_ne false hij, h.bit j]
    simp [hij]

theorem depM_spec (o : Oper) (k : Nat) : (depM o).testBit k = true ↔ ∃ e ∈ o.after, Region.binds .any e = true ∧ e.on = k := by
  have key : ∀ (l : List Edge) (s : Nat), (l.foldl (fun s e => if Region.binds .any e then s ||| 2 ^ e.on else s) s).testBit k = true ↔ s.testBit k = true ∨ ∃ e ∈ l, Region.binds .any e = true ∧ e.on = k := by
    intro l
    induction l with
    | nil => intro s; simp
    | cons e l ih =>
      intro s
      simp only [List.foldl_cons, ih, List.mem_cons, exists_eq_or_imp]
      split
      · rename_i hb
        rw [Nat.testBit_or, Nat.testBit_two_pow]
        simp [hb, or_assoc]
      · rename_i hb
        simp [hb]
  unfold depM
  rw [key]
  simp

theorem apM_spec {ops : Array Oper} {i : Nat} {oi : Oper} : ∀ {l : List Oper} {j : Nat} (k : Nat), (apM ops i oi l j).testBit k = true → j ≤ k ∧ ∃ o, l[k - j]? = some o ∧ ((depM o).testBit i = true ∨ oi.apart ops o = true)
  | [], j, k, h => by simp [apM] at h
  | o :: l, j, k, h => by
    have tail : (apM ops i oi l (j + 1)).testBit k = true → j ≤ k ∧ ∃ o', (o :: l)[k - j]? = some o' ∧ ((depM o').testBit i = true ∨ oi.apart ops o' = true) := by
      intro h
      obtain ⟨h1, o', h2, h3⟩ := apM_spec k h
      refine ⟨by omega, o', ?_, h3⟩
      rw [show k - j = (k - (j + 1)) + 1 by omega, List.getElem?_cons_succ]
      exact h2
    simp only [apM] at h
    split at h
    · rename_i hc
      rw [Nat.testBit_or, Nat.testBit_two_pow] at h
      simp only [Bool.or_eq_true, decide_eq_true_eq] at h hc
      rcases h with h | h
      · subst h
        exact ⟨Nat.le_refl _, o, by simp, hc⟩
      · exact tail h
    · exact tail h

theorem infoOf_get {ops : Array Oper} : ∀ {l : List Oper} {i : Nat} (k : Nat), (infoOf ops l i)[k]? = (l[k]?).map fun o => ⟨depM o, apM ops (i + k) o ops.toList 0, isQuiet o.op⟩
  | [], i, k => by simp [infoOf]
  | o :: l, i, 0 => by simp [infoOf]
  | o :: l, i, k + 1 => by
    simp only [infoOf, List.getElem?_cons_succ, infoOf_get k]
    rw [show i + 1 + k = i + (k + 1) by omega]

theorem ready_iff {ops : Array Oper} {listed : Array Bool} {mask : Nat} (h : Bits ops listed mask) {i : Nat} {o : Oper} (ho : ops[i]? = some o) :
    i ∈ Region.ready .any ops listed ↔ mask.testBit i = false ∧ depM o &&& mask = depM o := by
  have hlt := (Array.getElem?_eq_some_iff.1 ho).1
  have hb : listed.getD i true = listed.getD i false := by
    have : i < listed.size := by rw [h.size]; exact hlt
    simp [this]
  rw [mem_ready, hb, h.bit i]
  refine and_congr_right fun _ => ⟨fun ⟨o', ho', hall⟩ => ?_, fun hm => ⟨o, ho, fun e he hbi => ?_⟩⟩
  · rw [ho] at ho'
    cases ho'
    apply Nat.eq_of_testBit_eq
    intro k
    rw [Nat.testBit_and]
    cases hd : (depM o).testBit k with
    | false => rfl
    | true =>
      obtain ⟨e, he, hbi, rfl⟩ := (depM_spec o k).1 hd
      rw [Bool.true_and, ← h.bit]
      exact hall e he hbi
  · rw [h.bit]
    have hd := (depM_spec o e.on).2 ⟨e, he, hbi, rfl⟩
    rw [← hm, Nat.testBit_and] at hd
    simp only [Bool.and_eq_true] at hd
    exact hd.2

theorem readyM_spec {ops : Array Oper} {listed : Array Bool} {mask : Nat} (h : Bits ops listed mask) : ∀ {l : List Oper} {i : Nat}, (∀ k, l[k]? = ops[i + k]?) →
    readyM mask (infoOf ops l i) i = (List.range' i l.length).filter fun i => !listed.getD i true && ((ops[i]?).map (·.after.all fun e => !Region.binds .any e || listed.getD e.on false)).getD false
  | [], i, _ => by simp [infoOf, readyM]
  | o :: l, i, hl => by
    have h0 := (hl 0).symm
    simp only [List.getElem?_cons_zero, Nat.add_zero] at h0
    have ih := readyM_spec h (l := l) (i := i + 1) (fun k => by have := hl (k + 1); simpa [Nat.add_assoc, Nat.add_comm 1 k] using this)
    have hr := ready_iff h h0
    have hlt := (Array.getElem?_eq_some_iff.1 h0).1
    have hmem : i ∈ Region.ready .any ops listed ↔ (!listed.getD i true && ((ops[i]?).map (·.after.all fun e => !Region.binds .any e || listed.getD e.on false)).getD false) = true := by
      unfold Region.ready
      rw [List.mem_filter, List.mem_range]
      exact and_iff_right hlt
    simp only [infoOf, readyM, List.length_cons, List.range'_succ, List.filter_cons]
    split
    · rename_i hm
      rw [ih, if_neg]
      intro hc
      have := hr.1 (hmem.2 hc)
      rw [hm] at this
      cases this.1
    · rename_i hm
      split
      · rename_i hd
        have hd := Nat.eq_of_beq_eq_true hd
        rw [ih, if_pos (hmem.1 (hr.2 ⟨hm, hd⟩))]
      · rename_i hd
        rw [ih, if_neg]
        intro hc
        have := hr.1 (hmem.2 hc)
        exact absurd this.2 (Nat.ne_of_beq_eq_false hd)

theorem readyM_eq {ops : Array Oper} {listed : Array Bool} {mask : Nat} (h : Bits ops listed mask) : readyM mask (infoOf ops ops.toList 0) 0 = Region.ready .any ops listed := by
  rw [readyM_spec h (fun k => by simp)]
  unfold Region.ready
  rw [List.range_eq_range', Array.length_toList]

theorem quietM_spec {full mask : Nat} : ∀ {l : List OI} {i k : Nat}, quietM full mask l i = some k → i ≤ k ∧ ∃ x, l[k - i]? = some x ∧ mask.testBit k = false ∧ x.dep &&& mask = x.dep ∧ x.ap ||| (mask ||| 2 ^ k) = full
  | [], i, k, h => by simp [quietM] at h
  | x :: l, i, k, h => by
    have tail : quietM full mask l (i + 1) = some k → i ≤ k ∧ ∃ x', (x :: l)[k - i]? = some x' ∧ mask.testBit k = false ∧ x'.dep &&& mask = x'.dep ∧ x'.ap ||| (mask ||| 2 ^ k) = full := by
      intro h
      obtain ⟨h1, x', h2, h3⟩ := quietM_spec h
      refine ⟨by omega, x', ?_, h3⟩
      rw [show k - i = (k - (i + 1)) + 1 by omega, List.getElem?_cons_succ]
      exact h2
    simp only [quietM] at h
    split at h
    · exact tail h
    · split at h
      · exact tail h
      · rename_i hm
        split at h
        · exact tail h
        · rename_i hd
          split at h
          · rename_i hf
            cases h
            exact ⟨Nat.le_refl _, x, by simp, hm, Nat.eq_of_beq_eq_true hd, Nat.eq_of_beq_eq_true hf⟩
          · exact tail h

theorem free_of {ops : Array Oper} {listed : Array Bool} {mask i : Nat} {oi : Oper} (h : Bits ops listed mask) (hi : ops[i]? = some oi) (hf : apM ops i oi ops.toList 0 ||| (mask ||| 2 ^ i) = 2 ^ ops.size - 1) : Region.free .any ops listed i = true := by
  simp only [Region.free, hi, List.all_eq_true, List.mem_range]
  intro j hj
  have hb : listed.getD j true = listed.getD j false := by
    have : j < listed.size := by rw [h.size]; exact hj
    simp [this]
  have hbit : (2 ^ ops.size - 1).testBit j = true := by rw [Nat.testBit_two_pow_sub_one]; simp [hj]
  rw [← hf, Nat.testBit_or, Nat.testBit_or, Nat.testBit_two_pow] at hbit
  simp only [Bool.or_eq_true, decide_eq_true_eq] at hbit
  rw [hb, h.bit j]
  rcases hbit with hbit | hbit | hbit
  · obtain ⟨_, o, ho, hc⟩ := apM_spec j hbit
    rw [Nat.sub_zero, Array.getElem?_toList] at ho
    rw [ho]
    rcases hc with hc | hc
    · obtain ⟨e, he, hbi, heq⟩ := (depM_spec o i).1 hc
      have : o.after.any (fun e => Region.binds .any e && e.on == i) = true := by
        rw [Array.any_eq_true']
        exact ⟨e, he, by simp [hbi, heq]⟩
      simp [this]
    · simp [hc]
  · simp [hbit]
  · simp [hbit]

theorem planM_ok {ops : Array Oper} : ∀ {n : Nat} {listed : Array Bool} {mask : Nat} {p : Pl}, Bits ops listed mask → planM (infoOf ops ops.toList 0) (2 ^ ops.size - 1) n mask = some p → PlanOk ops n listed p
  | 0, listed, mask, p, h, he => by
    simp only [planM] at he
    split at he
    · rename_i hr
      cases he
      rw [readyM_eq h] at hr
      exact hr
    · cases he
  | n + 1, listed, mask, p, h, he => by
    have lt_of : ∀ i, i ∈ Region.ready .any ops listed → i < ops.size := by
      intro i hi
      obtain ⟨_, o, ho, _⟩ := mem_ready.1 hi
      exact (Array.getElem?_eq_some_iff.1 ho).1
    simp only [planM] at he
    split at he
    · rename_i i hq
      split at he
      · rename_i p' hp
        cases he
        obtain ⟨_, x, hx, hm, hd, hf⟩ := quietM_spec hq
        rw [Nat.sub_zero, infoOf_get] at hx
        simp only [Option.map_eq_some_iff, Array.getElem?_toList] at hx
        obtain ⟨o, ho, rfl⟩ := hx
        rw [Nat.zero_add] at hf
        have hmem := (ready_iff h ho).2 ⟨hm, hd⟩
        exact ⟨hmem, free_of h ho hf, planM_ok (h.set (lt_of i hmem)) hp⟩
      · cases he
    · split at he
      · rename_i i hr
        rw [readyM_eq h] at hr
        split at he
        · rename_i p' hp
          cases he
          exact ⟨hr, planM_ok (h.set (lt_of i (by rw [hr]; simp))) hp⟩
        · cases he
      · rename_i i j hr
        rw [readyM_eq h] at hr
        split at he
        · rename_i p' q' hp hq
          cases he
          exact ⟨hr, planM_ok (h.set (lt_of i (by rw [hr]; simp))) hp, planM_ok (h.set (lt_of j (by rw [hr]; simp))) hq⟩
        · cases he
      · cases he

/-! ### Which operations may come in either order -/

inductive Dep (ops : Array Oper) : Nat → Nat → Prop where
  | one {j : Nat} {o : Oper} {e : Edge} : ops[j]? = some o → e ∈ o.after → Region.binds .any e = true → Dep ops j e.on
  | more {j k : Nat} {o : Oper} {e : Edge} : ops[j]? = some o → e ∈ o.after → Region.binds .any e = true → Dep ops e.on k → Dep ops j k

theorem maskOf_spec {ops : Array Oper} {t : List Nat} {j : Nat} {o : Oper} (ho : ops[j]? = some o) (ht : ∀ m k, (t.getD m 0).testBit k = true → Dep ops m k) {k : Nat} (h : (maskOf t o).testBit k = true) : Dep ops j k := by
  have key : ∀ (l : List Edge) (s : Nat), (∀ e ∈ l, e ∈ o.after) → (l.foldl (fun s e => if Region.binds .any e then s ||| (2 ^ e.on ||| t.getD e.on 0) else s) s).testBit k = true → s.testBit k = true ∨ Dep ops j k := by
    intro l
    induction l with
    | nil => intro s _ h; exact .inl h
    | cons e l ih =>
      intro s hl h
      simp only [List.foldl_cons] at h
      rcases ih _ (fun e he => hl e (by simp [he])) h with h1 | h1
      · split at h1
        · rename_i hb
          rw [Nat.testBit_or, Nat.testBit_or, Nat.testBit_two_pow] at h1
          simp only [Bool.or_eq_true, decide_eq_true_eq] at h1
          rcases h1 with h1 | h1 | h1
          · exact .inl h1
          · exact .inr (h1 ▸ Dep.one ho (hl e (by simp)) hb)
          · exact .inr (Dep.more ho (hl e (by simp)) hb (ht _ _ h1))
        · exact .inl h1
      · exact .inr h1
  rcases key o.after.toList 0 (fun e he => by simpa using he) h with h1 | h1
  · simp at h1
  · exact h1

theorem masks_spec {ops : Array Oper} : ∀ {l : List Oper} {t : List Nat}, (∀ i, l[i]? = ops[t.length + i]?) → (∀ m k, (t.getD m 0).testBit k = true → Dep ops m k) → ∀ m k, ((masks l t).getD m 0).testBit k = true → Dep ops m k
  | [], t, _, ht => ht
  | o :: l, t, hl, ht => by
    have h0 := hl 0
    simp only [List.getElem?_cons_zero, Nat.add_zero] at h0
    refine masks_spec (l := l) (t := t ++ [maskOf t o]) (fun i => ?_) (fun m k h => ?_)
    · have := hl (i + 1)
      simp only [List.getElem?_cons_succ] at this
      rw [this, List.length_append, List.length_singleton]
      congr 1
      omega
    · simp only [List.getD_eq_getElem?_getD, List.getElem?_append] at h
      split at h
      · exact ht m k (by simpa [List.getD_eq_getElem?_getD] using h)
      · rename_i hm
        by_cases hm2 : m = t.length
        · subst hm2
          simp only [Nat.sub_self, List.getElem?_cons_zero, Option.getD_some] at h
          exact maskOf_spec h0.symm ht h
        · have : m - t.length = (m - t.length - 1) + 1 := by omega
          rw [this] at h
          simp at h

/-- Of what is listed all is listed that it waits for. -/
def Closed (ops : Array Oper) (listed : Array Bool) : Prop := ∀ j o, listed.getD j false = true → ops[j]? = some o → ∀ e ∈ o.after, Region.binds .any e = true → listed.getD e.on false = true

theorem Dep.listed {ops : Array Oper} {listed : Array Bool} (hc : Closed ops listed) {j k : Nat} (h : Dep ops j k) : (∀ o, ops[j]? = some o → ∀ e ∈ o.after, Region.binds .any e = true → listed.getD e.on false = true) → listed.getD k false = true := by
  induction h with
  | one ho he hb => intro hj; exact hj _ ho _ he hb
  | more ho he hb _ ih => intro hj; exact ih fun o' ho' => hc _ o' (hj _ ho _ he hb) ho'

theorem Closed.set {ops : Array Oper} {listed : Array Bool} (hc : Closed ops listed) {i : Nat} (hi : i ∈ Region.ready .any ops listed) : Closed ops (listed.setIfInBounds i true) := by
  intro j o hj ho e he hb
  by_cases hij : j = i
  · subst hij
    obtain ⟨_, o', ho', hall⟩ := mem_ready.1 hi
    rw [ho] at ho'
    cases ho'
    exact getD_set_true (hall e he hb)
  · rw [getD_set_ne false (Ne.symm hij)] at hj
    exact getD_set_true (hc j o hj ho e he hb)

theorem indep_ready {ops : Array Oper} {listed : Array Bool} (hc : Closed ops listed) {i j : Nat} (hi : i ∈ Region.ready .any ops listed) (hj : j ∈ Region.ready .any ops listed) : indep (masks ops.toList []) j i = true := by
  have key : ∀ i j, i ∈ Region.ready .any ops listed → j ∈ Region.ready .any ops listed → ((masks ops.toList []).getD j 0).testBit i = false := by
    intro i j hi hj
    cases hb : ((masks ops.toList []).getD j 0).testBit i with
    | false => rfl
    | true =>
      exfalso
      have hd := masks_spec (ops := ops) (l := ops.toList) (t := []) (fun i => by simp) (fun m k h => by simp at h) j i hb
      have hl := hd.listed hc fun o ho e he hb => by
        obtain ⟨_, o', ho', hall⟩ := mem_ready.1 hj
        rw [ho] at ho'
        cases ho'
        exact hall e he hb
      have h0 := (mem_ready.1 hi).1
      rcases Nat.lt_or_ge i listed.size with h' | h'
      · simp [h'] at h0 hl; rw [h0] at hl; cases hl
      · simp [Array.getElem?_eq_none h'] at hl
  unfold indep
  rw [key i j hi hj, key j i hj hi]
  rfl

/-- Whatever order is picked from here on; and what is read by an operation stays where one that neither waits for it, nor it for that, is carried out. -/
def wpAnyT (P : Program) (ops : Array Oper) (Q : Exit → Act → World → Prop) (G : World → Prop) (σ0 : Env) (RR : List (Nat × Rec)) : Nat → Array Bool → Act → World → Prop
  | 0, listed, a, w => Region.ready .any ops listed = [] ∧ Q .normal a w
  | fuel + 1, listed, a, w =>
    (Region.ready .any ops listed = [] → Q .normal a w) ∧
    ∀ i ∈ Region.ready .any ops listed, wpOp P ops Q i (fun a' w' => G w' ∧ (∀ k r, (k, r) ∈ RR → indep (masks ops.toList []) i k = true → Reads σ0 w r → Reads σ0 w' r) ∧ wpAnyT P ops Q G σ0 RR fuel (listed.setIfInBounds i true) a' w') a w

theorem wpAny_of_T {ops : Array Oper} {Q : Exit → Act → World → Prop} {G : World → Prop} {σ0 : Env} {RR : List (Nat × Rec)} : ∀ (fuel : Nat) (listed : Array Bool) (a : Act) (w : World), wpAnyT P ops Q G σ0 RR fuel listed a w → wpAny P .any ops Q fuel listed a w
  | 0, _, _, _, h => h
  | fuel + 1, _, _, _, h => ⟨h.1, fun i hi => wpOp_mono (fun a' w' h' => wpAny_of_T fuel _ a' w' h'.2.2) (h.2 i hi)⟩

theorem wpAnyT_first {ops : Array Oper} {Q : Exit → Act → World → Prop} {G : World → Prop} {σ0 : Env} {RR : List (Nat × Rec)} {L : List Rec} {i : Nat} {oi : Oper} {v : Value} (hL : ∀ r ∈ L, (i, r) ∈ RR) (hi : ops[i]? = some oi) (hsel : ∀ (j : Nat) (o : Oper) cs b, ops[j]? = some o → o.op ≠ .select cs b)
    (hQ : ∀ c a w, Q (.panic c) (a.put oi.dst v) w → Q (.panic c) a w) :
    ∀ (fuel : Nat) (listed : Array Bool) (a : Act) (w : World), Closed ops listed →
      (∀ j oj, ops[j]? = some oj → j ≠ i → listed.getD j true = false → (∀ e ∈ oj.after, Region.binds .any e = true → e.on ≠ i) → oi.apart ops oj = true) →
      i ∈ Region.ready .any ops listed → YieldsIf P ops (fun w => G w ∧ ∀ r ∈ L, Reads σ0 w r) oi v a → G w → (∀ r ∈ L, Reads σ0 w r) →
      wpAnyT P ops Q G σ0 RR fuel (listed.setIfInBounds i true) (a.put oi.dst v) w → wpAnyT P ops Q G σ0 RR (fuel + 1) listed a w := by
  intro fuel
  induction fuel with
  | zero =>
    intro listed a w hc _ hr hy hG hI H
    refine ⟨fun h => (by rw [h] at hr; cases hr), fun j hj => ?_⟩
    by_cases hji : j = i
    · subst hji; exact hy.wpOp hi ⟨hG, hI⟩ ⟨hG, fun _ _ _ _ h => h, H⟩
    · have := ready_mono hj hji
      rw [H.1] at this
      cases this
  | succ fuel ih =>
    intro listed a w hc hfree hr hy hG hI H
    refine ⟨fun h => (by rw [h] at hr; cases hr), fun j hj => ?_⟩
    by_cases hji : j = i
    · subst hji; exact hy.wpOp hi ⟨hG, hI⟩ ⟨hG, fun _ _ _ _ h => h, H⟩
    · have h1 := H.2 j (ready_mono hj hji)
      obtain ⟨hjun, oj, hoj, hall⟩ := mem_ready.1 hj
      have hnot : ∀ e ∈ oj.after, Region.binds .any e = true → e.on ≠ i := fun e he hb heq => by
        have h1 := hall e he hb
        have h0 := (mem_ready.1 hr).1
        rw [heq] at h1
        rcases Nat.lt_or_ge i listed.size with h' | h'
        · simp [h'] at h0 h1; rw [h0] at h1; cases h1
        · simp [Array.getElem?_eq_none h'] at h1
      have h2 := wpOp_putIf hoj (hfree j oj hoj hji hjun hnot) (fun cs b => hsel i oi cs b hi) (fun cs b => hsel j oj cs b hoj) hQ hy h1
      have hfree' : ∀ k ok, ops[k]? = some ok → k ≠ i → (listed.setIfInBounds j true).getD k true = false →
          (∀ e ∈ ok.after, Region.binds .any e = true → e.on ≠ i) → oi.apart ops ok = true := fun k ok hk hki hun hno => by
        refine hfree k ok hk hki ?_ hno
        by_cases hjk : j = k
        · subst hjk; exact hjun
        · rw [getD_set_ne true hjk] at hun; exact hun
      have hind := indep_ready hc hr hj
      refine wpOp_mono (fun a' w' h3 => ⟨h3.2.1, h3.2.2.1, ih (listed.setIfInBounds j true) a' w' (hc.set hj) hfree' (ready_mono hr (Ne.symm hji)) h3.1 h3.2.1 (fun r hr' => h3.2.2.1 i r (hL r hr') hind (hI r hr')) ?_⟩) h2
      rw [Array.setIfInBounds_comm _ _ hji]
      exact h3.2.2.2

theorem act_ok {rec : Rn} (hrec : RecOk P W op rec) (hB : TabOk P W op B) (hN : FnsOk P W op N) {ops : Array Oper} {Q : Exit → Act → World → Prop} {σ0 : Env} {RR : List (Nat × Rec)} {HH : List (Nat × Hp)}
    (hR : ∀ k r, (k, r) ∈ RR → ∀ j h, (j, h) ∈ HH → indep (masks ops.toList []) j k = true → recOk h r = true) {i : Nat} {σ : Env} {st st' : St} {b : Bool} {a : Act} {w : World} (G : Gam W op σ st a w) (hle : σ0.le σ) (he : evAct N B rec ops.toList i st = some (st', b))
    (hH : b = true → (i, st'.h) ∈ HH) {K : Act → World → Prop} (hK : ∀ σ' a' w', σ.le σ' → Gam W op σ' st' a' w' → K a' w') :
    wpOp P ops Q i (fun a' w' => Below W.heap.size W w' ∧ (∀ k r, (k, r) ∈ RR → indep (masks ops.toList []) i k = true → Reads σ0 w r → Reads σ0 w' r) ∧ K a' w') a w := by
  unfold evAct at he
  split at he
  · rename_i o ho
    rw [Array.getElem?_toList] at ho
    unfold wpOp
    simp only [ho]
    split at he
    · rename_i hw
      rw [if_neg (by rw [wantS_ok G hw]; simp)]
      split at he
      · rename_i st1 h1
        cases he
        obtain ⟨G', _⟩ := putS_ok G (conc_undef σ) h1
        exact ⟨G.h.below, fun _ _ _ _ h => h, hK σ _ _ (.refl σ) G'⟩
      · cases he
    · rename_i hw
      rw [if_pos (wantS_ok G hw)]
      split at he
      · rename_i st1 h1
        cases he
        refine .inl (evOp_ok hrec hB hN G h1 fun σ' a' w' hle' G' => ?_)
        exact ⟨G'.h.below, fun k r hkr hin hrd => (recOk_reads G'.h (hR k r hkr _ _ (hH rfl) hin)).back (hle.trans hle') hrd, hK σ' _ _ hle' G'⟩
      · cases he
    · cases he
  · cases he

theorem evPlan_ok {rec : Rn} (hrec : RecOk P W op rec) (hB : TabOk P W op B) (hN : FnsOk P W op N) {ops : Array Oper} {Q : Exit → Act → World → Prop} (hsel : Region.noSelect ops = true) (hQ : ∀ c a w, ¬ Q (.panic c) a w) {σ0 : Env} {RR : List (Nat × Rec)} {HH : List (Nat × Hp)} {w00 : World}
    (hR0 : ∀ k r, (k, r) ∈ RR → Reads σ0 w00 r) (hR : ∀ k r, (k, r) ∈ RR → ∀ j h, (j, h) ∈ HH → indep (masks ops.toList []) j k = true → recOk h r = true) : ∀ (n : Nat) {listed : Array Bool} {l : Pl} {σ : Env} {st st' : St} {R R' : List (Nat × Rec)} {Hs Hs' : List (Nat × Hp)} {a : Act} {w : World},
    PlanOk ops n listed l → evPlan N B rec ops.toList l st R Hs = some (st', R', Hs') → (∀ r ∈ R', r ∈ RR) → (∀ h ∈ Hs', h ∈ HH) → Closed ops listed → σ0.le σ → Gam W op σ st a w →
    (∀ σ' a' w', σ.le σ' → Gam W op σ' st' a' w' → Q .normal a' w') → wpAnyT P ops Q (Below W.heap.size W) σ0 RR n listed a w := by
  intro n
  induction n with
  | zero =>
    intro listed l σ st st' R R' Hs Hs' a w hp he hRR hHH hcl hle G hq
    cases l with
    | done =>
      cases he
      exact ⟨hp, hq σ a w (.refl σ) G⟩
    | quiet i p => exact hp.elim
    | act i p => exact hp.elim
    | both i p j q => exact hp.elim
  | succ n ih =>
    intro listed l σ st st' R R' Hs Hs' a w hp he hRR hHH hcl hle G hq
    have hB' : TabOk P W σ.op B := by rw [G.op]; exact hB
    cases l with
    | done => exact hp.elim
    | quiet i p =>
      obtain ⟨hmem, hfree, hpl⟩ := hp
      simp only [evPlan] at he
      split at he
      · rename_i o ho
        rw [Array.getElem?_toList] at ho
        split at he
        · rename_i hw
          split at he
          · rename_i st1 h1
            obtain ⟨G', _⟩ := putS_ok G (conc_undef σ) h1
            exact wpAnyT_first (L := []) (fun _ h => absurd h (by simp)) ho (Region.noSelect_spec hsel) (fun c a w h => absurd h (hQ _ _ _)) n listed a w hcl (Region.free_spec ho hfree) hmem (.inr ⟨wantS_ok G hw, rfl⟩) G.h.below (fun _ h => absurd h (by simp)) (ih hpl he hRR hHH (hcl.set hmem) hle G' hq)
          · cases he
        · rename_i hw
          split at he
          · rename_i x L hq1
            split at he
            · rename_i st1 h1
              obtain ⟨g1, V, g2, g3⟩ := evQ_ok hB' G.h G.t hq1
              obtain ⟨G', _⟩ := putS_ok G g2 h1
              obtain ⟨k1, k2⟩ := evPlan_grows he
              have hL : ∀ r ∈ L, (i, r) ∈ RR := fun r hr => hRR _ (k1 _ (by simp [hr]))
              refine wpAnyT_first (L := L) hL ho (Region.noSelect_spec hsel) (fun c a w h => absurd h (hQ _ _ _)) n listed a w hcl (Region.free_spec ho hfree) hmem (.inl ⟨wantS_ok G hw, fun w2 hw2 => ?_⟩) G.h.below
                (fun r hr => (g1 r hr).back hle (hR0 i r (hL r hr))) (ih hpl he hRR hHH (hcl.set hmem) hle G' hq)
              exact g3 w2 hw2.1 fun r hr => (hw2.2 r hr).le hle
            · cases he
          · cases he
        · cases he
      · cases he
    | act i p =>
      obtain ⟨hready, hpl⟩ := hp
      have hmem : i ∈ Region.ready .any ops listed := by rw [hready]; simp
      simp only [evPlan] at he
      split at he
      · rename_i st1 bb h1
        obtain ⟨k1, k2⟩ := evPlan_grows he
        refine ⟨fun h => (by rw [h] at hmem; cases hmem), fun j hj => ?_⟩
        rw [hready] at hj
        simp only [List.mem_singleton] at hj
        subst hj
        exact act_ok hrec hB hN hR G hle h1 (fun hb => hHH _ (k2 _ (by simp [hb]))) fun σ' a' w' hle' G' => ih hpl he hRR hHH (hcl.set hmem) (hle.trans hle') G' fun σ'' a'' w'' h1 G'' => hq σ'' a'' w'' (hle'.trans h1) G''
      · cases he
    | both i1 p i2 q =>
      obtain ⟨hready, hp1, hp2⟩ := hp
      have hmem1 : i1 ∈ Region.ready .any ops listed := by rw [hready]; simp
      have hmem2 : i2 ∈ Region.ready .any ops listed := by rw [hready]; simp
      simp only [evPlan] at he
      split at he
      · rename_i s1 b1 s2 b2 h1 h2
        split at he
        · rename_i t1 R1 H1 he1
          split at he
          · rename_i t2 R2 H2 he2
            split at he
            · rename_i heq
              have heq := eqSt_eq heq
              subst heq
              cases he
              obtain ⟨k1, k2⟩ := evPlan_grows he1
              obtain ⟨k3, k4⟩ := evPlan_grows he2
              have e1 : ∀ r ∈ R1, r ∈ RR := fun r hr => hRR _ (k3 _ hr)
              have e2 : ∀ h ∈ H1, h ∈ HH := fun h hh => hHH _ (k4 _ (by split <;> simp [hh]))
              refine ⟨fun h => (by rw [h] at hmem1; cases hmem1), fun j hj => ?_⟩
              rw [hready] at hj
              simp only [List.mem_cons, List.not_mem_nil, or_false] at hj
              rcases hj with rfl | rfl
              · exact act_ok hrec hB hN hR G hle h1 (fun hb => e2 _ (k2 _ (by simp [hb]))) fun σ' a' w' hle' G' => ih hp1 he1 e1 e2 (hcl.set hmem1) (hle.trans hle') G' fun σ'' a'' w'' h1 G'' => hq σ'' a'' w'' (hle'.trans h1) G''
              · exact act_ok hrec hB hN hR G hle h2 (fun hb => hHH _ (k4 _ (by simp [hb]))) fun σ' a' w' hle' G' => ih hp2 he2 hRR hHH (hcl.set hmem2) (hle.trans hle') G' fun σ'' a'' w'' h1 G'' => hq σ'' a'' w'' (hle'.trans h1) G''
            · cases he
          · cases he
        · cases he
      · cases he

theorem evDraw_ok {rec : Rn} (hrec : RecOk P W op rec) (hB : TabOk P W op B) (hN : FnsOk P W op N) (hm : P.follows .mixedOrders = true) {ops : Array Oper} {id : Nat} {σ : Env} {st st' : St} {a : Act} {w : World} (G : Gam W op σ st a w)
    (he : evDraw (cDraw N B ops) rec st = some st') : (Code.region id ops true).wp P (fun e a' w' => e = .normal ∧ ∃ σ', σ.le σ' ∧ Gam W op σ' st' a' w') a w := by
  simp only [evDraw, cDraw] at he
  split at he
  · rename_i pc hpc
    split at hpc
    rotate_left
    · cases hpc
    rename_i p hp
    cases hpc
    unfold planOf at hp
    split at hp
    · rename_i hsel
      split at he
      · rename_i st1 R Hs hpl
        have hpl := runP_ok hpl
        split at he
        · rename_i hall
          cases he
          have hall : ∀ k r, (k, r) ∈ R → recOk st.h r = true ∧ ∀ j h, (j, h) ∈ Hs → indep (masks ops.toList []) j k = true → recOk h r = true := by
            intro k r hr
            have := List.all_eq_true.1 hall (k, r) hr
            simp only [Bool.and_eq_true, List.all_eq_true] at this
            refine ⟨this.1.2, fun j h hj hi => ?_⟩
            have h2 := this.2 (j, h) hj
            simpa [hi] using h2
          refine wp_region_any hm (wpAny_of_T (G := Below W.heap.size W) (σ0 := σ) (RR := R) _ _ _ _ ?_)
          have Gd : Gam W op σ st a { w with drawn := w.drawn + 1 } := ⟨G.op, G.nx, G.t, G.sz, G.df, G.h.drew⟩
          refine evPlan_ok hrec hB hN hsel (fun c a w h => by cases h.1) (σ0 := σ) (w00 := w) (fun k r hr => recOk_reads G.h (hall k r hr).1) (fun k r hr => (hall k r hr).2) ops.size (planM_ok ⟨by simp, fun j => by simp [Array.getElem?_replicate]; split <;> rfl⟩ hp) hpl (fun _ h => h) (fun _ h => h) ?_ (.refl σ) Gd fun σ' a' w' hle G' => ⟨rfl, σ', hle, G'⟩
          intro j o hj ho e he hb
          exfalso
          simp only [Array.getD_eq_getD_getElem?, Array.getElem?_replicate] at hj
          split at hj <;> simp at hj
        · cases he
      · cases he
    · cases hp
  · cases he

theorem loopS_ok {f : St → Option (Ex × St)} {c : Code} (hf : ∀ st ex st', f st = some (ex, st') → ∀ σ a w, Gam W op σ st a w → c.wp P (fun e a' w' => e = ex.to ∧ ∃ σ', σ.le σ' ∧ Gam W op σ' st' a' w') a w) :
    ∀ (k : Nat) {st st' : St} {ex : Ex} {σ : Env} {a : Act} {w : World}, loopS f k st = some (ex, st') → Gam W op σ st a w → Code.rounds P c (fun e a' w' => e = ex.to ∧ ∃ σ', σ.le σ' ∧ Gam W op σ' st' a' w') k a w := by
  intro k
  induction k with
  | zero => intro st st' ex σ a w he G; cases he
  | succ k ih =>
    intro st st' ex σ a w he G
    simp only [loopS] at he
    rw [rounds_succ]
    split at he
    · rename_i ex1 st1 h1
      refine wp_mono (hf _ _ _ h1 σ a w G) fun e a' w' ⟨hE, σ', hle, G'⟩ => ?_
      subst hE
      split at he
      · have := ih he G'
        simp only [Ex.to, Exit.then]
        clear ih he h1 G
        revert this
        generalize k = k
        intro this
        have mono : ∀ (k : Nat) (a : Act) (w : World), Code.rounds P c (fun e a' w' => e = ex.to ∧ ∃ σ'', σ'.le σ'' ∧ Gam W op σ'' st' a' w') k a w → Code.rounds P c (fun e a' w' => e = ex.to ∧ ∃ σ'', σ.le σ'' ∧ Gam W op σ'' st' a' w') k a w := by
          intro k
          induction k with
          | zero => intro a w h; exact h
          | succ k ihk =>
            intro a w h
            rw [rounds_succ] at h ⊢
            refine wp_mono h fun e a w hq => ?_
            cases e <;> first
              | exact ihk _ _ hq
              | (obtain ⟨h1, σ'', h2, h3⟩ := hq; exact ⟨h1, σ'', hle.trans h2, h3⟩)
        exact mono k _ _ this
      · rename_i hne
        cases he
        have : ex ≠ .normal := fun h => hne h
        cases ex <;> first
          | exact absurd rfl this
          | exact ⟨rfl, σ', hle, G'⟩
    · cases he

/-- A scope in which so many jumps are made. -/
def ScopeR (P : Program) (body : Code) (Q : Exit → Act → World → Prop) : Nat → Code → Act → World → Prop
  | 0, _, _, _ => False
  | n + 1, c, a, w => c.wp P (fun e a' w' => match e with
      | .goto l => ∃ rest, findLabel body l = some rest ∧ ScopeR P body Q n rest a' w'
      | e => Q e a' w') a w

theorem wp_scope_R {body : Code} {Q : Exit → Act → World → Prop} (n : Nat) {a : Act} {w : World} (h : ScopeR P body Q n body a w) : (Code.scope body).wp P Q a w := by
  intro b k cs
  have key : ∀ n c a w, ScopeR P body Q n c a w → ∃ e a' w', Q e a' w' ∧ Arrives P (lone (b.at a (.code c :: .inScope body :: k)) cs w) b k cs e a' w' := by
    intro n
    induction n with
    | zero => intro c a w h; exact h.elim
    | succ n ih =>
      intro c a w h
      obtain ⟨e, a₁, w₁, hq, harr⟩ := h b (.inScope body :: k) cs
      cases e with
      | normal => exact ⟨.normal, a₁, w₁, hq, Steps.trans harr (.one step_inScope)⟩
      | exit id => exact ⟨.exit id, a₁, w₁, hq, fun k' hk => harr k' (by simp [exitTo, hk])⟩
      | goto l =>
        obtain ⟨rest, hf, hr⟩ := hq
        obtain ⟨e₂, a₂, w₂, hq₂, harr₂⟩ := ih _ _ _ hr
        exact ⟨e₂, a₂, w₂, hq₂, .of_steps (harr _ (by simp [gotoIn, hf])) harr₂⟩
      | ret => exact ⟨_, a₁, w₁, hq, harr⟩
      | panic ch => exact ⟨_, a₁, w₁, hq, harr⟩
      | outgrown => exact ⟨_, a₁, w₁, hq, harr⟩
  obtain ⟨e, a', w', hq, harr⟩ := key n body a w h
  exact ⟨e, a', w', hq, .of_steps (.one step_scope) harr⟩

theorem ScopeR.mono {body : Code} {Q Q' : Exit → Act → World → Prop} (hQ : ∀ e a w, Q e a w → Q' e a w) : ∀ (n : Nat) {c : Code} {a : Act} {w : World}, ScopeR P body Q n c a w → ScopeR P body Q' n c a w
  | 0, _, _, _, h => h
  | n + 1, c, a, w, h => wp_mono h fun e a w hq => by
    cases e with
    | goto l => obtain ⟨rest, h1, h2⟩ := hq; exact ⟨rest, h1, h2.mono hQ n⟩
    | _ => exact hQ _ _ _ hq

theorem scopeS_ok {rec : Rn} (hrec : RecOk P W op rec) {body : Code} : ∀ (k : Nat) {c : Code} {st st' : St} {ex : Ex} {σ : Env} {a : Act} {w : World}, scopeS rec body k c st = some (ex, st') → Gam W op σ st a w →
    ScopeR P body (fun e a' w' => e = ex.to ∧ ∃ σ', σ.le σ' ∧ Gam W op σ' st' a' w') k c a w := by
  intro k
  induction k with
  | zero => intro c st st' ex σ a w he G; cases he
  | succ k ih =>
    intro c st st' ex σ a w he G
    simp only [scopeS] at he
    unfold ScopeR
    split at he
    · rename_i ex1 st1 h1
      refine wp_mono (hrec _ _ _ _ h1 σ a w G) fun e a' w' ⟨hE, σ', hle, G'⟩ => ?_
      subst hE
      split at he
      · rename_i l
        split at he
        · rename_i rest hrest
          exact ⟨rest, hrest, (ih he G').mono (fun e a w ⟨h1, σ'', h2, h3⟩ => ⟨h1, σ'', hle.trans h2, h3⟩) k⟩
        · cases he
      · rename_i hne
        cases he
        cases ex with
        | goto l => exact absurd rfl (hne l)
        | normal => exact ⟨rfl, σ', hle, G'⟩
        | exit id => exact ⟨rfl, σ', hle, G'⟩
        | ret => exact ⟨rfl, σ', hle, G'⟩
    · cases he

theorem stepC_ok {rec : Rn} (hrec : RecOk P W op rec) (hB : TabOk P W op B) (hN : FnsOk P W op N) (hm : P.follows .mixedOrders = true) : RecOk P W op (stepC N B rec) := by
  intro c st ex st' he σ a w G
  simp only [stepC] at he
  unfold cC at he
  split at he
  · cases he; exact wp_skip ⟨rfl, σ, .refl σ, G⟩
  · cases he; exact wp_label ⟨rfl, σ, .refl σ, G⟩
  · cases he; exact wp_exit ⟨rfl, σ, .refl σ, G⟩
  · cases he; exact wp_goto ⟨rfl, σ, .refl σ, G⟩
  · cases he; exact wp_ret ⟨rfl, σ, .refl σ, G⟩
  · simp only [sSeq] at he
    split at he
    · rename_i ex1 st1 h1
      refine wp_seq (wp_mono (hrec _ _ _ _ h1 σ a w G) fun e a' w' ⟨hE, σ', hle, G'⟩ => ?_)
      subst hE
      split at he
      · exact wp_mono (hrec _ _ _ _ he σ' a' w' G') fun e a w ⟨h1, σ'', h2, h3⟩ => ⟨h1, σ'', hle.trans h2, h3⟩
      · rename_i hne
        cases he
        cases ex with
        | normal => exact absurd rfl hne
        | exit id => exact ⟨rfl, σ', hle, G'⟩
        | goto l => exact ⟨rfl, σ', hle, G'⟩
        | ret => exact ⟨rfl, σ', hle, G'⟩
    · cases he
  · simp only [sCond] at he
    split at he
    · rename_i t ht
      have hc := evOperand_conc G.t ht
      simp only [conc, Option.some.injEq] at hc
      exact wp_cond hc.symm (hrec _ _ _ _ he σ a w G)
    · cases he
  · simp only [sBlock] at he
    split at he
    · rename_i id b _ ex1 st1 h1
      refine wp_block (wp_mono (hrec _ _ _ _ h1 σ a w G) fun e a' w' ⟨hE, σ', hle, G'⟩ => ?_)
      subst hE
      split at he
      · rename_i i
        split at he
        · rename_i hi
          cases he
          simp only [Ex.to, Exit.inBlock, hi, if_true, true_and]
          exact ⟨σ', hle, G'⟩
        · rename_i hi
          cases he
          simp only [Ex.to, Exit.inBlock, hi, if_false, true_and]
          exact ⟨σ', hle, G'⟩
      · rename_i hne
        cases he
        cases ex with
        | exit id => exact absurd rfl (hne id)
        | normal => exact ⟨rfl, σ', hle, G'⟩
        | goto l => exact ⟨rfl, σ', hle, G'⟩
        | ret => exact ⟨rfl, σ', hle, G'⟩
    · cases he
  · rename_i b
    exact wp_loop_rounds 100000 (loopS_ok (c := b) (fun st ex st' h σ a w G => hrec _ _ _ _ h σ a w G) 100000 he G)
  · rename_i b
    exact wp_scope_R 100000 (scopeS_ok hrec 100000 he G)
  · rename_i id ops
    simp only [sNorm] at he
    split at he
    · rename_i st1 h1
      cases he
      exact evDraw_ok hrec hB hN hm G h1
    · cases he
  · rename_i id ops
    simp only [sNorm] at he
    split at he
    · rename_i st1 h1
      cases he
      exact wp_region_list (evList_ok hrec hB hN G (runL_ok h1) fun σ' a' w' hle G' => ⟨rfl, σ', hle, G'⟩)
    · cases he
  · cases he

theorem evC_ok (hB : TabOk P W op B) (hN : FnsOk P W op N) (hm : P.follows .mixedOrders = true) : ∀ n, RecOk P W op (evC N B n)
  | 0 => fun c st ex st' he => by cases he
  | n + 1 => stepC_ok (evC_ok hB hN hm n) hB hN hm

/-- **A call of a function without arguments, from any world: it returns what the evaluator says, and leaves all that was there as it was.** -/
theorem run_closed (hB : TabOk P W op B) (hN : FnsOk P W op N) (hm : P.follows .mixedOrders = true) (n : Nat) (f : Nat) {v : SV} {h' : Hp} {n' : Nat} {V : Value} (hX : N.X f [] = none) (hO : N.O f [] = none)
    (he : evCall N B (evC N B n) f [] .nil 0 = some (v, h', n')) (hV : ∀ σ, conc σ v = some V) : Calls P f #[] W fun e w' => e = .returned V ∧ Below W.heap.size W w' := by
  have H : HRel W ⟨[], op⟩ .nil W := by
    refine ⟨fun id o h => ?_, fun i j o u b K b' K' h => ?_, fun id o b K h => ?_, Below.refl _ _⟩ <;> (rw [PT.get_nil] at h; cases h)
  have := evCall_ok (evC_ok hB hN hm n) hB hN (σ := ⟨[], op⟩) (vs := []) rfl rfl H rfl he
  rcases this with ⟨V', h1, rfl, rfl, h2⟩ | ⟨h1, h2⟩
  · exfalso
    simp only [evCall, hX, hO, evBody] at he
    split at he
    · rename_i fn hfn
      obtain ⟨g1, g2⟩ := hN.fn _ _ hfn
      split at he
      · rename_i c hc
        have : (callFunc f #[]).run P W = .ok (.enter f #[]) W := by
          simp only [callFunc, Sem.run_bind, run_program, Result.andThen_ok, g1, g2, Bool.false_eq_true, if_false, hc, Option.isNone_some]
          rfl
        rw [this] at h2
        cases h2
      · cases he
    · cases he
  · refine h2.mono fun e w' ⟨V', σ', hev, _, _, hV', H'⟩ => ?_
    rw [hV σ'] at hV'
    cases hV'
    exact ⟨hev, H'.below⟩

end
#print axioms run_closed
end
end Go.Proofs.YtjmiaemabhlnjaaGreatDoor.Sym
