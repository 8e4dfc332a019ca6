/-
  A run of a Go program over data that is known, in whatever world it begins: the words. A value whose addresses are numbers of blocks of the run's own; a memory of such blocks; how they lie in a world.
-/
import Derived.WalkKit
import Derived.KernelRfl
import Derived.RowKit3
import Derived.Below
import Derived.OrdersHeld
import Derived.LoopN
import Derived.Scope
import Derived.Laws.Append
import Derived.Laws.AppendOwn
import Derived.Laws.Cells
set_option linter.unusedVariables false
set_option linter.unusedSimpArgs false
namespace Go.Proofs.YtjmiaemabhlnjaaGreatDoor.Sym
open Go Go.RowKit
noncomputable section

/-! ### A tree with numbers for keys -/

inductive PT (α : Type) where
  | nil
  | node (l : PT α) (v : Option α) (r : PT α)

def PT.get {α : Type} (t : PT α) : Nat → Option α :=
  PT.rec (motive := fun _ => Nat → Option α) (fun _ => none)
    (fun _ v _ gl gr n => Nat.rec (motive := fun _ => Option α) v (fun m _ => Nat.rec (motive := fun _ => Option α) (gl (Nat.div m 2)) (fun _ _ => gr (Nat.div m 2)) (Nat.mod m 2)) n) t

def PT.setF {α : Type} (x : Option α) (f : Nat) : PT α → Nat → PT α :=
  Nat.rec (motive := fun _ => PT α → Nat → PT α) (fun t _ => t)
    (fun _ ih t n => PT.rec (motive := fun _ => PT α)
      (Nat.rec (motive := fun _ => PT α) (.node .nil x .nil) (fun m _ => Nat.rec (motive := fun _ => PT α) (.node (ih .nil (Nat.div m 2)) none .nil) (fun _ _ => .node .nil none (ih .nil (Nat.div m 2))) (Nat.mod m 2)) n)
      (fun l v r _ _ => Nat.rec (motive := fun _ => PT α) (.node l x r) (fun m _ => Nat.rec (motive := fun _ => PT α) (.node (ih l (Nat.div m 2)) v r) (fun _ _ => .node l v (ih r (Nat.div m 2))) (Nat.mod m 2)) n) t) f

def PT.set {α : Type} (t : PT α) (n : Nat) (x : α) : PT α := PT.setF (some x) (Nat.succ n) t n
def PT.del {α : Type} (t : PT α) (n : Nat) : PT α := PT.setF none (Nat.succ n) t n

theorem PT.get_nil {α : Type} (n : Nat) : (PT.nil : PT α).get n = none := rfl
theorem PT.get_zero {α : Type} (l r : PT α) (v : Option α) : (PT.node l v r).get 0 = v := rfl
theorem PT.get_even {α : Type} (l r : PT α) (v : Option α) {m : Nat} (h : m % 2 = 0) : (PT.node l v r).get (m + 1) = l.get (m / 2) := by
  show Nat.rec (motive := fun _ => Option α) (l.get (m / 2)) (fun _ _ => r.get (m / 2)) (m % 2) = _
  rw [h]
  rfl
theorem PT.get_odd {α : Type} (l r : PT α) (v : Option α) {m : Nat} (h : m % 2 ≠ 0) : (PT.node l v r).get (m + 1) = r.get (m / 2) := by
  show Nat.rec (motive := fun _ => Option α) (l.get (m / 2)) (fun _ _ => r.get (m / 2)) (m % 2) = _
  have : m % 2 = 1 := by omega
  rw [this]
  rfl
theorem PT.set_nil_zero {α : Type} (x : Option α) (f : Nat) : PT.setF x (f + 1) .nil 0 = .node .nil x .nil := rfl
theorem PT.set_nil_even {α : Type} (x : Option α) (f : Nat) {m : Nat} (h : m % 2 = 0) : PT.setF x (f + 1) .nil (m + 1) = .node (PT.setF x f .nil (m / 2)) none .nil := by
  show Nat.rec (motive := fun _ => PT α) (.node (PT.setF x f .nil (m / 2)) none .nil) (fun _ _ => .node .nil none (PT.setF x f .nil (m / 2))) (m % 2) = _
  rw [h]
  rfl
theorem PT.set_nil_odd {α : Type} (x : Option α) (f : Nat) {m : Nat} (h : m % 2 ≠ 0) : PT.setF x (f + 1) .nil (m + 1) = .node .nil none (PT.setF x f .nil (m / 2)) := by
  show Nat.rec (motive := fun _ => PT α) (.node (PT.setF x f .nil (m / 2)) none .nil) (fun _ _ => .node .nil none (PT.setF x f .nil (m / 2))) (m % 2) = _
  have : m % 2 = 1 := by omega
  rw [this]
  rfl
theorem PT.set_node_zero {α : Type} (x : Option α) (f : Nat) (l r : PT α) (v : Option α) : PT.setF x (f + 1) (.node l v r) 0 = .node l x r := rfl
theorem PT.set_node_even {α : Type} (x : Option α) (f : Nat) (l r : PT α) (v : Option α) {m : Nat} (h : m % 2 = 0) : PT.setF x (f + 1) (.node l v r) (m + 1) = .node (PT.setF x f l (m / 2)) v r := by
  show Nat.rec (motive := fun _ => PT α) (.node (PT.setF x f l (m / 2)) v r) (fun _ _ => .node l v (PT.setF x f r (m / 2))) (m % 2) = _
  rw [h]
  rfl
theorem PT.set_node_odd {α : Type} (x : Option α) (f : Nat) (l r : PT α) (v : Option α) {m : Nat} (h : m % 2 ≠ 0) : PT.setF x (f + 1) (.node l v r) (m + 1) = .node l v (PT.setF x f r (m / 2)) := by
  show Nat.rec (motive := fun _ => PT α) (.node (PT.setF x f l (m / 2)) v r) (fun _ _ => .node l v (PT.setF x f r (m / 2))) (m % 2) = _
  have : m % 2 = 1 := by omega
  rw [this]
  rfl

theorem PT.half_inj {n m : Nat} (h2 : n % 2 = m % 2) (h : n / 2 = m / 2) : n = m := by
  have := Nat.div_add_mod n 2
  have := Nat.div_add_mod m 2
  omega
theorem PT.if_half {α : Type} {n m : Nat} (g : m % 2 = n % 2) (a b : α) : (if m / 2 = n / 2 then a else b) = if m = n then a else b := by
  by_cases h : m = n
  · simp [h]
  · rw [if_neg h, if_neg (fun e => h (PT.half_inj g e))]

theorem PT.get_setF {α : Type} (x : Option α) : ∀ (f : Nat) (t : PT α) (n m : Nat), n < f → (PT.setF x f t n).get m = if m = n then x else t.get m := by
  intro f
  induction f with
  | zero => intro t n m h; omega
  | succ f ih =>
    intro t n m hn
    cases t with
    | nil =>
      cases n with
      | zero =>
        rw [PT.set_nil_zero, PT.get_nil]
        cases m with
        | zero => rfl
        | succ m =>
          by_cases h1 : m % 2 = 0
          · rw [PT.get_even _ _ _ h1, PT.get_nil, if_neg (by omega)]
          · rw [PT.get_odd _ _ _ h1, PT.get_nil, if_neg (by omega)]
      | succ n =>
        have hn2 : n / 2 < f := by omega
        rw [PT.get_nil]
        by_cases h0 : n % 2 = 0
        · rw [PT.set_nil_even x f h0]
          cases m with
          | zero => rw [PT.get_zero, if_neg (by omega)]
          | succ m =>
            by_cases h1 : m % 2 = 0
            · rw [PT.get_even _ _ _ h1, ih _ _ _ hn2, PT.get_nil, PT.if_half (h1.trans h0.symm)]
              simp only [Nat.add_right_cancel_iff]
            · rw [PT.get_odd _ _ _ h1, PT.get_nil, if_neg (by omega)]
        · rw [PT.set_nil_odd x f h0]
          cases m with
          | zero => rw [PT.get_zero, if_neg (by omega)]
          | succ m =>
            by_cases h1 : m % 2 = 0
            · rw [PT.get_even _ _ _ h1, PT.get_nil, if_neg (by omega)]
            · rw [PT.get_odd _ _ _ h1, ih _ _ _ hn2, PT.get_nil, PT.if_half (by omega)]
              simp only [Nat.add_right_cancel_iff]
    | node l v r =>
      cases n with
      | zero =>
        rw [PT.set_node_zero]
        cases m with
        | zero => rfl
        | succ m =>
          by_cases h1 : m % 2 = 0
          · rw [PT.get_even _ _ _ h1, PT.get_even _ _ _ h1, if_neg (by omega)]
          · rw [PT.get_odd _ _ _ h1, PT.get_odd _ _ _ h1, if_neg (by omega)]
      | succ n =>
        have hn2 : n / 2 < f := by omega
        by_cases h0 : n % 2 = 0
        · rw [PT.set_node_even x f l r v h0]
          cases m with
          | zero => rw [PT.get_zero, PT.get_zero, if_neg (by omega)]
          | succ m =>
            by_cases h1 : m % 2 = 0
            · rw [PT.get_even _ _ _ h1, PT.get_even _ _ _ h1, ih _ _ _ hn2, PT.if_half (h1.trans h0.symm)]
              simp only [Nat.add_right_cancel_iff]
            · rw [PT.get_odd _ _ _ h1, PT.get_odd _ _ _ h1, if_neg (by omega)]
        · rw [PT.set_node_odd x f l r v h0]
          cases m with
          | zero => rw [PT.get_zero, PT.get_zero, if_neg (by omega)]
          | succ m =>
            by_cases h1 : m % 2 = 0
            · rw [PT.get_even _ _ _ h1, PT.get_even _ _ _ h1, if_neg (by omega)]
            · rw [PT.get_odd _ _ _ h1, PT.get_odd _ _ _ h1, ih _ _ _ hn2, PT.if_half (by omega)]
              simp only [Nat.add_right_cancel_iff]

theorem PT.get_set {α : Type} (t : PT α) (n m : Nat) (x : α) : (t.set n x).get m = if m = n then some x else t.get m :=
  PT.get_setF _ _ _ _ _ (Nat.lt_succ_self n)
theorem PT.get_del {α : Type} (t : PT α) (n m : Nat) : (t.del n).get m = if m = n then none else t.get m :=
  PT.get_setF _ _ _ _ _ (Nat.lt_succ_self n)

/-! ### Values -/

inductive SV where
  | bool (b : Bool)
  | int (k : IntKind) (n : Int)
  | str (l : List UInt8)
  | nilp
  | ptr (id off : Nat)
  | glob (g off : Nat)
  | nils
  /-- block, first element, cells an element, length; its capacity, or all that the block has. -/
  | slice (id off es len : Nat) (cap : Option Nat)
  | nilm
  | map (id : Nat)
  | func (f : FuncId) (first captured : List SV)
  | nilf
  | iface (t : TypeId) (v : SV)
  | nili
  | agg (l : List SV)
  | tup (l : List SV)
  | opq (k : Nat)
  deriving Inhabited

def SV.undef : SV := .tup []

/-- Where each block lies, and how many elements it has; and values of which nothing is asked. -/
structure Env where
  bl : List (Nat × Nat)
  op : List Value

mutual
def conc (σ : Env) : SV → Option Value
  | .bool b => some (.bool b)
  | .int k n => some (.int k n)
  | .str l => some (.string ⟨⟨l⟩⟩)
  | .nilp => some (.pointer none)
  | .ptr id off => (σ.bl[id]?).map fun x => .pointer (some ⟨x.1, off, none⟩)
  | .glob g off => some (.pointer (some ⟨g, off, none⟩))
  | .nils => some (.slice none 0 0)
  | .slice id off es len cap => (σ.bl[id]?).map fun x => .slice (some ⟨x.1, off * es, none⟩) len (cap.getD (x.2 - off))
  | .nilm => some (.map none)
  | .map id => (σ.bl[id]?).map fun x => .map (some x.1)
  | .func f a b => (concL σ a).bind fun a => (concL σ b).map fun b => .func (.func f) a.toArray b.toArray
  | .nilf => some .nilFunc
  | .iface t v => (conc σ v).map fun v => .iface t v
  | .nili => some .nilIface
  | .agg l => (concL σ l).map fun l => .agg l.toArray
  | .tup l => (concL σ l).map fun l => .tuple l.toArray
  | .opq k => (σ.op[k]?).bind fun v => if v.oneCell' then some v else none
def concL (σ : Env) : List SV → Option (List Value)
  | [] => some []
  | x :: l => (conc σ x).bind fun v => (concL σ l).map fun vs => v :: vs
end

theorem conc_undef (σ : Env) : conc σ .undef = some undef := rfl

theorem concL_cons {σ : Env} {x : SV} {l : List SV} {vs : List Value} (h : concL σ (x :: l) = some vs) :
    ∃ v us, conc σ x = some v ∧ concL σ l = some us ∧ vs = v :: us := by
  simp only [concL, Option.bind_eq_some_iff, Option.map_eq_some_iff] at h
  obtain ⟨v, hv, us, hu, rfl⟩ := h
  exact ⟨v, us, hv, hu, rfl⟩

theorem concL_mk {σ : Env} {x : SV} {l : List SV} {v : Value} {vs : List Value} (h : conc σ x = some v) (k : concL σ l = some vs) : concL σ (x :: l) = some (v :: vs) := by
  simp [concL, h, k]

theorem concL_length {σ : Env} : ∀ {l : List SV} {vs : List Value}, concL σ l = some vs → vs.length = l.length
  | [], vs, h => by cases h; rfl
  | x :: l, vs, h => by
    obtain ⟨v, us, _, hu, rfl⟩ := concL_cons h
    simp [concL_length hu]

theorem concL_get {σ : Env} : ∀ {l : List SV} {vs : List Value} {i : Nat} {x : SV}, concL σ l = some vs → l[i]? = some x → ∃ v, vs[i]? = some v ∧ conc σ x = some v
  | [], vs, i, x, h, hx => by simp at hx
  | y :: l, vs, 0, x, h, hx => by
    obtain ⟨v, us, hv, hu, rfl⟩ := concL_cons h
    simp at hx
    subst hx
    exact ⟨v, rfl, hv⟩
  | y :: l, vs, i + 1, x, h, hx => by
    obtain ⟨v, us, hv, hu, rfl⟩ := concL_cons h
    exact concL_get (i := i) hu (by simpa using hx)

theorem concL_append {σ : Env} : ∀ {a b : List SV} {va vb : List Value}, concL σ a = some va → concL σ b = some vb → concL σ (a ++ b) = some (va ++ vb)
  | [], b, va, vb, ha, hb => by cases ha; exact hb
  | x :: a, b, va, vb, ha, hb => by
    obtain ⟨v, us, hv, hu, rfl⟩ := concL_cons ha
    exact concL_mk hv (concL_append hu hb)

theorem concL_drop {σ : Env} : ∀ {l : List SV} {vs : List Value} (n : Nat), concL σ l = some vs → concL σ (l.drop n) = some (vs.drop n)
  | l, vs, 0, h => by simpa using h
  | [], vs, n + 1, h => by cases h; rfl
  | x :: l, vs, n + 1, h => by
    obtain ⟨v, us, hv, hu, rfl⟩ := concL_cons h
    exact concL_drop n hu

theorem concL_take {σ : Env} : ∀ {l : List SV} {vs : List Value} (n : Nat), concL σ l = some vs → concL σ (l.take n) = some (vs.take n)
  | l, vs, 0, h => rfl
  | [], vs, n + 1, h => by cases h; rfl
  | x :: l, vs, n + 1, h => by
    obtain ⟨v, us, hv, hu, rfl⟩ := concL_cons h
    exact concL_mk hv (concL_take n hu)

theorem concL_set {σ : Env} {y : SV} {v : Value} (hy : conc σ y = some v) : ∀ {l : List SV} {vs : List Value} (n : Nat), concL σ l = some vs → concL σ (l.set n y) = some (vs.set n v)
  | [], vs, n, h => by cases h; rfl
  | x :: l, vs, 0, h => by
    obtain ⟨u, us, hv, hu, rfl⟩ := concL_cons h
    exact concL_mk hy hu
  | x :: l, vs, n + 1, h => by
    obtain ⟨u, us, hv, hu, rfl⟩ := concL_cons h
    exact concL_mk hv (concL_set hy n hu)

/-! ### More blocks -/

structure Env.le (σ τ : Env) : Prop where
  bl : ∃ t, τ.bl = σ.bl ++ t
  op : τ.op = σ.op

theorem Env.le.refl (σ : Env) : σ.le σ := ⟨⟨[], by simp⟩, rfl⟩
theorem Env.le.trans {σ τ υ : Env} (h : σ.le τ) (k : τ.le υ) : σ.le υ := by
  obtain ⟨⟨a, ha⟩, h1⟩ := h
  obtain ⟨⟨b, hb⟩, h2⟩ := k
  exact ⟨⟨a ++ b, by rw [hb, ha, List.append_assoc]⟩, h2.trans h1⟩
theorem Env.le.get {σ τ : Env} (h : σ.le τ) {id : Nat} {x : Nat × Nat} (hx : σ.bl[id]? = some x) : τ.bl[id]? = some x := by
  obtain ⟨⟨t, ht⟩, _⟩ := h
  rw [ht, List.getElem?_append_left (List.getElem?_eq_some_iff.1 hx).1, hx]
theorem Env.le.length {σ τ : Env} (h : σ.le τ) : σ.bl.length ≤ τ.bl.length := by
  obtain ⟨⟨t, ht⟩, _⟩ := h
  rw [ht, List.length_append]
  omega

mutual
theorem conc_le {σ τ : Env} (h : σ.le τ) : ∀ {x : SV} {v : Value}, conc σ x = some v → conc τ x = some v
  | .bool b, v, e => by simpa [conc] using e
  | .int k n, v, e => by simpa [conc] using e
  | .str l, v, e => by simpa [conc] using e
  | .nilp, v, e => by simpa [conc] using e
  | .ptr id off, v, e => by
    simp only [conc, Option.map_eq_some_iff] at e ⊢
    obtain ⟨x, hx, rfl⟩ := e
    exact ⟨x, h.get hx, rfl⟩
  | .glob g off, v, e => by simpa [conc] using e
  | .nils, v, e => by simpa [conc] using e
  | .slice id off es len cap, v, e => by
    simp only [conc, Option.map_eq_some_iff] at e ⊢
    obtain ⟨x, hx, rfl⟩ := e
    exact ⟨x, h.get hx, rfl⟩
  | .nilm, v, e => by simpa [conc] using e
  | .map id, v, e => by
    simp only [conc, Option.map_eq_some_iff] at e ⊢
    obtain ⟨x, hx, rfl⟩ := e
    exact ⟨x, h.get hx, rfl⟩
  | .func f a b, v, e => by
    simp only [conc, Option.bind_eq_some_iff, Option.map_eq_some_iff] at e ⊢
    obtain ⟨va, ha, vb, hb, rfl⟩ := e
    exact ⟨va, concL_le h ha, vb, concL_le h hb, rfl⟩
  | .nilf, v, e => by simpa [conc] using e
  | .iface t x, v, e => by
    simp only [conc, Option.map_eq_some_iff] at e ⊢
    obtain ⟨u, hu, rfl⟩ := e
    exact ⟨u, conc_le h hu, rfl⟩
  | .nili, v, e => by simpa [conc] using e
  | .agg l, v, e => by
    simp only [conc, Option.map_eq_some_iff] at e ⊢
    obtain ⟨u, hu, rfl⟩ := e
    exact ⟨u, concL_le h hu, rfl⟩
  | .tup l, v, e => by
    simp only [conc, Option.map_eq_some_iff] at e ⊢
    obtain ⟨u, hu, rfl⟩ := e
    exact ⟨u, concL_le h hu, rfl⟩
  | .opq k, v, e => by
    simp only [conc] at e ⊢
    rw [h.op]
    exact e
theorem concL_le {σ τ : Env} (h : σ.le τ) : ∀ {l : List SV} {vs : List Value}, concL σ l = some vs → concL τ l = some vs
  | [], vs, e => by simpa [concL] using e
  | x :: l, vs, e => by
    simp only [concL, Option.bind_eq_some_iff, Option.map_eq_some_iff] at e ⊢
    obtain ⟨v, hv, us, hu, rfl⟩ := e
    exact ⟨v, conc_le h hv, us, concL_le h hu, rfl⟩
end

/-! ### What a program's own constants are -/

def ofV1 : Value → Option SV
  | .bool b => some (.bool b)
  | .int k n => some (.int k n)
  | .string s => some (.str s.data.toList)
  | .pointer none => some .nilp
  | .slice none 0 0 => some .nils
  | .map none => some .nilm
  | .nilFunc => some .nilf
  | .nilIface => some .nili
  | _ => none

def ofVL : List Value → Option (List SV)
  | [] => some []
  | v :: l => match ofV1 v, ofVL l with
    | some x, some xs => some (x :: xs)
    | _, _ => none

def ofV : Value → Option SV
  | .agg cs => (ofVL cs.toList).map .agg
  | .tuple cs => (ofVL cs.toList).map .tup
  | v => ofV1 v

theorem ofV1_conc {σ : Env} {v : Value} {x : SV} (h : ofV1 v = some x) : conc σ x = some v := by
  unfold ofV1 at h
  split at h <;> first | (cases h; rfl) | cases h

theorem ofVL_conc {σ : Env} : ∀ {l : List Value} {xs : List SV}, ofVL l = some xs → concL σ xs = some l
  | [], xs, h => by cases h; rfl
  | v :: l, xs, h => by
    simp only [ofVL] at h
    split at h
    · rename_i x ys hx hy
      cases h
      exact concL_mk (ofV1_conc hx) (ofVL_conc hy)
    · cases h

theorem ofV_conc {σ : Env} {v : Value} {x : SV} (h : ofV v = some x) : conc σ x = some v := by
  unfold ofV at h
  split at h
  · simp only [Option.map_eq_some_iff] at h
    obtain ⟨l, hl, rfl⟩ := h
    simp [conc, ofVL_conc hl]
  · simp only [Option.map_eq_some_iff] at h
    obtain ⟨l, hl, rfl⟩ := h
    simp [conc, ofVL_conc hl]
  · exact ofV1_conc h

/-- The value of one cell. -/
def SV.one : SV → Bool
  | .agg _ | .tup _ => false
  | _ => true

theorem SV.one_cell {σ : Env} {x : SV} {v : Value} (h : x.one = true) (hv : conc σ x = some v) : v.oneCell' = true := by
  cases x with
  | opq k =>
    simp only [conc, Option.bind_eq_some_iff] at hv
    obtain ⟨u, _, hu⟩ := hv
    split at hu
    · rename_i h1; cases hu; exact h1
    · cases hu
  | _ =>
    simp only [SV.one, Bool.false_eq_true] at h <;> simp only [conc, Option.map_eq_some_iff, Option.bind_eq_some_iff, Option.some.injEq] at hv <;>
    first
      | (subst hv; rfl)
      | (obtain ⟨_, _, rfl⟩ := hv; rfl)
      | (obtain ⟨_, _, _, _, rfl⟩ := hv; rfl)

/-- The cells of a value. -/
def SV.cells : SV → List SV
  | .agg l => l
  | x => [x]

theorem SV.cells_conc {σ : Env} {x : SV} {v : Value} (hv : conc σ x = some v) (ho : x.cells.all SV.one = true) : concL σ x.cells = some v.cells.toList := by
  cases x with
  | agg l =>
    simp only [conc, Option.map_eq_some_iff] at hv
    obtain ⟨vs, h, rfl⟩ := hv
    simpa [SV.cells, Value.cells] using h
  | _ =>
    have h1 := SV.one_cell (σ := σ) (v := v) (by simpa [SV.cells] using ho) hv
    have h2 : v.cells = #[v] := by cases v <;> simp [Value.oneCell', Value.cells] at h1 ⊢
    rw [h2]
    exact concL_mk hv rfl

/-! ### The temporaries -/

def TRel (σ : Env) (t : PT SV) (a : Array Value) : Prop := ∀ i, conc σ ((t.get i).getD .undef) = some (a.getD i undef)

theorem TRel.le {σ τ : Env} {t : PT SV} {a : Array Value} (h : TRel σ t a) (hl : σ.le τ) : TRel τ t a := fun i => conc_le hl (h i)

theorem TRel.put {σ : Env} {t : PT SV} {a : Act} {d : Nat} {x : SV} {v : Value} (h : TRel σ t a.tmps) (hx : conc σ x = some v) (hd : d < a.tmps.size) :
    TRel σ (t.set d x) (a.put (some d) v).tmps := by
  intro i
  rw [PT.get_set]
  simp only [Act.put, Array.getD_eq_getD_getElem?, Array.getElem?_setIfInBounds]
  by_cases hi : i = d
  · subst hi
    simp [hd, hx]
  · rw [if_neg hi, if_neg (Ne.symm hi)]
    simpa using h i

def evOperand (t : PT SV) : Operand → Option SV
  | .tmp i => some ((t.get i).getD .undef)
  | .const v => ofV v
  | .global g => some (.glob g 0)
  | .func f => some (.func f [] [])

theorem evOperand_conc {σ : Env} {t : PT SV} {a : Act} (h : TRel σ t a.tmps) {o : Operand} {x : SV} (ho : evOperand t o = some x) : conc σ x = some (a.eval o) := by
  cases o with
  | tmp i => simp only [evOperand, Option.some.injEq] at ho; subst ho; exact h i
  | const v => exact ofV_conc ho
  | global g => simp only [evOperand, Option.some.injEq] at ho; subst ho; rfl
  | func f => simp only [evOperand, Option.some.injEq] at ho; subst ho; rfl

/-! ### The memory -/

inductive AObj where
  /-- cells; behind them there may be others ('some es': so many cells an element), or not -/
  | row (cells : List SV) (op : Option Nat)
  | map (ents : List (SV × SV))
  /-- cells that are only read -/
  | ro (cells : List SV)

abbrev Hp := PT AObj

def cellsAt (h : Hp) (id : Nat) : Option (List SV) :=
  match h.get id with
  | some (.row cells _) => some cells
  | some (.ro cells) => some cells
  | _ => none

/-- Entries, in the order in which they came. -/
def entsOf (σ : Env) : List (SV × SV) → Nat → Option (List MapEntry)
  | [], _ => some []
  | (k, v) :: l, n => (conc σ k).bind fun k => (conc σ v).bind fun v => (entsOf σ l (n + 1)).map fun es => ⟨k, v, n⟩ :: es

theorem entsOf_le {σ τ : Env} (h : σ.le τ) : ∀ {l : List (SV × SV)} {n : Nat} {es : List MapEntry}, entsOf σ l n = some es → entsOf τ l n = some es
  | [], n, es, e => by simpa [entsOf] using e
  | (k, v) :: l, n, es, e => by
    simp only [entsOf, Option.bind_eq_some_iff, Option.map_eq_some_iff] at e ⊢
    obtain ⟨k', hk, v', hv, es', he, rfl⟩ := e
    exact ⟨k', conc_le h hk, v', conc_le h hv, es', entsOf_le h he, rfl⟩

def ORel (σ : Env) (w : World) (id : Nat) : AObj → Prop
  | .row cells op => ∃ (b K : Nat) (c : Array Value) (el : TypeId) (vs : List Value), σ.bl[id]? = some (b, K) ∧ w.heap[b]? = some (.cells c el (0, 0)) ∧ concL σ cells = some vs ∧
      (∀ (j : Nat) (v : Value), vs[j]? = some v → c[j]? = some v) ∧ match op with
        | none => c.size = cells.length
        | some es => 0 < es ∧ c.size = K * es ∧ K ≤ maxLen ∧ cells.length ≤ c.size
  | .ro cells => ∃ (b K : Nat) (c : Array Value) (el : TypeId) (fr : Nat × Nat) (vs : List Value), σ.bl[id]? = some (b, K) ∧ w.heap[b]? = some (.cells c el fr) ∧ concL σ cells = some vs ∧
      (∀ (j : Nat) (v : Value), vs[j]? = some v → c[j]? = some v)
  | .map ents => ∃ (b K : Nat) (es : List MapEntry), σ.bl[id]? = some (b, K) ∧ w.heap[b]? = some (.map es.toArray ents.length) ∧ entsOf σ ents 0 = some es

structure HRel (W : World) (σ : Env) (h : Hp) (w : World) : Prop where
  obj : ∀ id o, h.get id = some o → ORel σ w id o
  apart : ∀ i j o u b K b' K', h.get i = some o → h.get j = some u → i ≠ j → σ.bl[i]? = some (b, K) → σ.bl[j]? = some (b', K') → b ≠ b'
  own : ∀ id o b K, h.get id = some o → σ.bl[id]? = some (b, K) → W.heap.size ≤ b
  below : Below W.heap.size W w

theorem ORel.block {σ : Env} {w : World} {id : Nat} {o : AObj} (h : ORel σ w id o) : ∃ b K, σ.bl[id]? = some (b, K) ∧ b < w.heap.size := by
  cases o with
  | row cells op =>
    obtain ⟨b, K, c, el, vs, h1, h2, _⟩ := h
    exact ⟨b, K, h1, (Array.getElem?_eq_some_iff.1 h2).1⟩
  | ro cells =>
    obtain ⟨b, K, c, el, fr, vs, h1, h2, _⟩ := h
    exact ⟨b, K, h1, (Array.getElem?_eq_some_iff.1 h2).1⟩
  | map ents =>
    obtain ⟨b, K, es, h1, h2, _⟩ := h
    exact ⟨b, K, h1, (Array.getElem?_eq_some_iff.1 h2).1⟩

theorem ORel.le {σ τ : Env} (hl : σ.le τ) {w w' : World} {id : Nat} {o : AObj} (h : ORel σ w id o) (hw : ∀ b K, σ.bl[id]? = some (b, K) → w'.heap[b]? = w.heap[b]?) : ORel τ w' id o := by
  cases o with
  | row cells op =>
    obtain ⟨b, K, c, el, vs, h1, h2, h3, h4, h5⟩ := h
    exact ⟨b, K, c, el, vs, hl.get h1, by rw [hw b K h1]; exact h2, concL_le hl h3, h4, h5⟩
  | ro cells =>
    obtain ⟨b, K, c, el, fr, vs, h1, h2, h3, h4⟩ := h
    exact ⟨b, K, c, el, fr, vs, hl.get h1, by rw [hw b K h1]; exact h2, concL_le hl h3, h4⟩
  | map ents =>
    obtain ⟨b, K, es, h1, h2, h3⟩ := h
    exact ⟨b, K, es, hl.get h1, by rw [hw b K h1]; exact h2, entsOf_le hl h3⟩

/-- A world in which all that was there is as it was. -/
theorem HRel.kept {W : World} {σ : Env} {h : Hp} {w w' : World} (H : HRel W σ h w) (k : Below w.heap.size w w') : HRel W σ h w' := by
  refine ⟨fun id o ho => (H.obj id o ho).le (.refl σ) fun b K hb => ?_, H.apart, H.own,
    H.below.trans ⟨k.os, k.tape, k.output, k.size, fun i hi => k.block i (Nat.lt_of_lt_of_le hi H.below.size)⟩⟩
  obtain ⟨b', K', h1, h2⟩ := (H.obj id o ho).block
  rw [h1] at hb
  cases hb
  exact k.block b h2

theorem HRel.drew {W : World} {σ : Env} {h : Hp} {w : World} (H : HRel W σ h w) : HRel W σ h w.drew :=
  H.kept (Below.refl _ _).drew

/-- A new block. -/
theorem HRel.alloc {W : World} {σ : Env} {h : Hp} {w : World} (H : HRel W σ h w) (ob : Obj) (u : AObj) (K : Nat)
    (hu : ∀ τ, σ.le τ → τ.bl[σ.bl.length]? = some (w.heap.size, K) → ORel τ (w.alloc ob) σ.bl.length u) :
    HRel W ⟨σ.bl ++ [(w.heap.size, K)], σ.op⟩ (h.set σ.bl.length u) (w.alloc ob) := by
  have hl : σ.le ⟨σ.bl ++ [(w.heap.size, K)], σ.op⟩ := ⟨⟨_, rfl⟩, rfl⟩
  have hnew : (σ.bl ++ [(w.heap.size, K)])[σ.bl.length]? = some (w.heap.size, K) := by simp
  have key : ∀ id o, h.get id = some o → ∃ b K, σ.bl[id]? = some (b, K) ∧ b < w.heap.size ∧ id < σ.bl.length := by
    intro id o ho
    obtain ⟨b, K, h1, h2⟩ := (H.obj id o ho).block
    exact ⟨b, K, h1, h2, (List.getElem?_eq_some_iff.1 h1).1⟩
  refine ⟨fun id o ho => ?_, fun i j o v b K1 b' K1' hi hj hij hb hb' => ?_, fun id o b K1 ho hb => ?_, H.below.alloc H.below.size ob⟩
  · rw [PT.get_set] at ho
    split at ho
    · rename_i he
      cases ho
      subst he
      exact hu _ hl hnew
    · obtain ⟨b, K2, h1, h2, h3⟩ := key id o ho
      refine (H.obj id o ho).le hl fun b' K' hb' => ?_
      rw [h1] at hb'
      cases hb'
      exact Below.heap_alloc w ob b h2
  · rw [PT.get_set] at hi hj
    split at hi
    · rename_i he
      subst he
      rw [if_neg (Ne.symm hij)] at hj
      obtain ⟨b2, K2, h1, h2, h3⟩ := key j v hj
      rw [hl.get h1] at hb'
      rw [hnew] at hb
      cases hb
      cases hb'
      omega
    · obtain ⟨b2, K2, h1, h2, h3⟩ := key i o hi
      rw [hl.get h1] at hb
      cases hb
      split at hj
      · rename_i he
        subst he
        rw [hnew] at hb'
        cases hb'
        omega
      · obtain ⟨b3, K3, h4, h5, h6⟩ := key j v hj
        rw [hl.get h4] at hb'
        cases hb'
        exact H.apart i j o v _ _ _ _ hi hj hij h1 h4
  · rw [PT.get_set] at ho
    split at ho
    · rename_i he
      subst he
      rw [hnew] at hb
      cases hb
      exact H.below.size
    · obtain ⟨b2, K2, h1, h2, h3⟩ := key id o ho
      rw [hl.get h1] at hb
      cases hb
      exact H.own id o _ _ ho h1

/-- A block of its own that is turned. -/
theorem HRel.turn {W : World} {σ : Env} {h : Hp} {w w' : World} (H : HRel W σ h w) {id : Nat} {o u : AObj} {b K : Nat} (ho : h.get id = some o) (hb : σ.bl[id]? = some (b, K))
    (hg : Below W.heap.size w w') (hk : ∀ k, k ≠ b → w'.heap[k]? = w.heap[k]?) (hu : ORel σ w' id u) : HRel W σ (h.set id u) w' := by
  refine ⟨fun i v hi => ?_, fun i j v x b1 K1 b2 K2 hi hj hij h1 h2 => ?_, fun i v b1 K1 hi h1 => ?_, H.below.trans hg⟩
  · rw [PT.get_set] at hi
    split at hi
    · rename_i he; cases hi; subst he; exact hu
    · rename_i he
      exact (H.obj i v hi).le (.refl σ) fun b1 K1 h1 => hk b1 (fun e => H.apart i id v o b1 K1 b K hi ho he h1 hb e)
  · rw [PT.get_set] at hi hj
    split at hi
    · rename_i he; cases hi; subst he
      rw [if_neg (Ne.symm hij)] at hj
      exact H.apart _ _ _ _ _ _ _ _ ho hj hij h1 h2
    · split at hj
      · rename_i he; cases hj; subst he
        exact H.apart _ _ _ _ _ _ _ _ hi ho hij h1 h2
      · exact H.apart _ _ _ _ _ _ _ _ hi hj hij h1 h2
  · rw [PT.get_set] at hi
    split at hi
    · rename_i he; cases hi; subst he
      exact H.own _ _ _ _ ho h1
    · exact H.own _ _ _ _ hi h1

end
end Go.Proofs.YtjmiaemabhlnjaaGreatDoor.Sym
