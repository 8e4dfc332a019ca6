/-
  A run of a Go program over data that is known: values that are built; all operations that change nothing, together.
-/
import Derived.Test.YtjmiaemabhlnjaaGreatDoorSym4
import Derived.Laws.Tables
set_option linter.unusedVariables false
set_option linter.unusedSimpArgs false
namespace Go.Proofs.YtjmiaemabhlnjaaGreatDoor.Sym
open Go Go.RowKit
noncomputable section

section
variable {P : Program} {W : World} {σ : Env} {w0 : World}

/-! ### Parts put together -/

def setRange (cells : List SV) (off : Nat) (l : List SV) : List SV := cells.take off ++ (l ++ cells.drop (off + l.length))

def setV {α : Type} (cells : List α) (off : Nat) (l : List α) : List α := cells.take off ++ (l ++ cells.drop (off + l.length))

theorem setV_length {α : Type} (cells : List α) (off : Nat) (l : List α) (h : off + l.length ≤ cells.length) : (setV cells off l).length = cells.length := by
  simp [setV]
  omega

theorem setV_get {α : Type} (cells : List α) (off : Nat) (l : List α) (h : off + l.length ≤ cells.length) (j : Nat) :
    (setV cells off l)[j]? = if off ≤ j ∧ j < off + l.length then l[j - off]? else cells[j]? := by
  unfold setV
  rw [List.getElem?_append, List.getElem?_append, List.length_take, Nat.min_eq_left (by omega)]
  by_cases h1 : j < off
  · rw [if_pos h1, if_neg (by omega), List.getElem?_take, if_pos h1]
  · rw [if_neg h1]
    by_cases h2 : j - off < l.length
    · rw [if_pos h2, if_pos (by omega)]
    · rw [if_neg h2, if_neg (by omega), List.getElem?_drop]
      congr 1
      omega

theorem concL_setRange {cells l : List SV} {vs us : List Value} (off : Nat) (hc : concL σ cells = some vs) (hl : concL σ l = some us) : concL σ (setRange cells off l) = some (setV vs off us) := by
  unfold setRange setV
  refine concL_append (concL_take _ hc) (concL_append hl ?_)
  rw [concL_length hl]
  exact concL_drop _ hc

theorem foldl_fill : ∀ (l : List Value) (cs : Array Value) (off i : Nat), off + i + l.length ≤ cs.size →
    ((l.zipIdx i).foldl (fun cs (c, j) => cs.setIfInBounds (off + j) c) cs).toList = setV cs.toList (off + i) l
  | [], cs, off, i, h => by simp [setV]
  | v :: l, cs, off, i, h => by
    simp only [List.zipIdx_cons, List.foldl_cons]
    rw [foldl_fill l _ off (i + 1) (by simp only [List.length_cons, Array.size_setIfInBounds] at h ⊢; omega)]
    apply List.ext_getElem?
    intro j
    rw [setV_get _ _ _ (by simp only [List.length_cons, Array.length_toList, Array.size_setIfInBounds] at h ⊢; omega), setV_get _ _ _ (by simp only [List.length_cons, Array.length_toList] at h ⊢; omega)]
    simp only [Array.toList_setIfInBounds, List.length_cons, List.getElem?_set]
    simp only [List.length_cons] at h
    by_cases h1 : j = off + i
    · subst h1
      have hlt : off + i < cs.toList.length := by rw [Array.length_toList]; omega
      rw [if_neg (by omega), if_pos rfl, if_pos hlt, if_pos (by omega)]
      simp
    · by_cases h2 : off + i ≤ j ∧ j < off + i + (l.length + 1)
      · rw [if_pos (by omega), if_pos h2]
        have : j - (off + i) = (j - (off + (i + 1))) + 1 := by omega
        rw [this, List.getElem?_cons_succ]
      · rw [if_neg (by omega), if_neg h2, if_neg (by omega)]

def fillS (place : Nat → Option (Nat × Nat)) : List SV → List (Nat × SV) → Option (List SV)
  | cells, [] => some cells
  | cells, (i, x) :: rest =>
    match place i with
    | some (off, size) =>
      let l := x.cells
      if l.all SV.one && Nat.beq l.length size && Nat.ble (off + l.length) cells.length then fillS place (setRange cells off l) rest else none
    | none => none

theorem fillS_ok {place : Nat → Option (Nat × Nat)} : ∀ {parts : List (Nat × SV)} {vparts : List (Nat × Value)} {cells r : List SV} {cs : Array Value},
    parts.length = vparts.length → (∀ (k : Nat) (p : Nat × SV) (q : Nat × Value), parts[k]? = some p → vparts[k]? = some q → p.1 = q.1 ∧ conc σ p.2 = some q.2) →
    concL σ cells = some cs.toList → fillS place cells parts = some r → ∃ rs : Array Value, concL σ r = some rs.toList ∧ Instr.fill place cs vparts = some rs
  | [], [], cells, r, cs, _, _, hc, h => by
    simp only [fillS, Option.some.injEq] at h
    subst h
    exact ⟨cs, hc, rfl⟩
  | [], _ :: _, _, _, _, hl, _, _, _ => by simp at hl
  | _ :: _, [], _, _, _, hl, _, _, _ => by simp at hl
  | (i, x) :: parts, (j, v) :: vparts, cells, r, cs, hl, hp, hc, h => by
    obtain ⟨h1, h2⟩ := hp 0 _ _ rfl rfl
    simp only at h1 h2
    subst h1
    simp only [fillS] at h
    split at h
    · rename_i off size hpl
      split at h
      · rename_i hcond
        simp only [Bool.and_eq_true] at hcond
        obtain ⟨⟨ha, hb⟩, hd⟩ := hcond
        have hb := Nat.eq_of_beq_eq_true hb
        have hd := Nat.le_of_ble_eq_true hd
        have hx := SV.cells_conc h2 ha
        have hlen := concL_length hx
        have hclen := concL_length hc
        simp only [Array.length_toList] at hlen hclen
        have hfold := foldl_fill v.cells.toList cs off 0 (by simp only [Array.length_toList]; omega)
        rw [Nat.add_zero] at hfold
        obtain ⟨rs, e1, e2⟩ := fillS_ok (parts := parts) (vparts := vparts) (cells := setRange cells off x.cells) (r := r)
          (cs := (v.cells.toList.zipIdx.foldl (fun cs (c, j) => cs.setIfInBounds (off + j) c) cs)) (by simpa using hl)
          (fun k p q hk1 hk2 => hp (k + 1) p q (by simpa using hk1) (by simpa using hk2))
          (by rw [hfold]; exact concL_setRange off hc hx) h
        refine ⟨rs, e1, ?_⟩
        simp only [Instr.fill, hpl]
        rw [if_neg (by simp; omega)]
        rw [← e2]
        congr 1
        rw [← Array.foldl_toList, Array.toList_zipIdx]
      · cases h
    · cases h

def evOperands (t : PT SV) : List Operand → Option (List SV)
  | [] => some []
  | o :: l => match evOperand t o, evOperands t l with
    | some x, some r => some (x :: r)
    | _, _ => none

theorem evOperands_conc {t : PT SV} {a : Act} (h : TRel σ t a.tmps) : ∀ {l : List Operand} {r : List SV}, evOperands t l = some r → concL σ r = some (l.map a.eval)
  | [], r, e => by cases e; rfl
  | o :: l, r, e => by
    simp only [evOperands] at e
    split at e
    · rename_i x r' hx hr
      cases e
      exact concL_mk (evOperand_conc h hx) (evOperands_conc h hr)
    · cases e

def evParts (t : PT SV) : List (Nat × Operand) → Option (List (Nat × SV))
  | [] => some []
  | (i, o) :: l => match evOperand t o, evParts t l with
    | some x, some r => some ((i, x) :: r)
    | _, _ => none

theorem evParts_conc {t : PT SV} {a : Act} (h : TRel σ t a.tmps) : ∀ {l : List (Nat × Operand)} {r : List (Nat × SV)}, evParts t l = some r →
    r.length = (l.map fun (i, x) => (i, a.eval x)).length ∧ ∀ (k : Nat) (p : Nat × SV) (q : Nat × Value), r[k]? = some p → (l.map fun (i, x) => (i, a.eval x))[k]? = some q → p.1 = q.1 ∧ conc σ p.2 = some q.2
  | [], r, e => by cases e; simp
  | (i, o) :: l, r, e => by
    simp only [evParts] at e
    split at e
    · rename_i x r' hx hr
      cases e
      obtain ⟨h1, h2⟩ := evParts_conc h hr
      refine ⟨by simpa using h1, fun k p q hp hq => ?_⟩
      cases k with
      | zero =>
        simp only [List.getElem?_cons_zero, Option.some.injEq, List.map_cons] at hp hq
        subst hp
        subst hq
        exact ⟨rfl, evOperand_conc h hx⟩
      | succ k => exact h2 k p q (by simpa using hp) (by simpa using hq)
    · cases e

def placesOf (B : Tab) : List Field → Option (List (Nat × Nat))
  | [] => some []
  | f :: l => match B.T f.type, placesOf B l with
    | some ti, some r => some ((f.offset, ti.size) :: r)
    | _, _ => none

theorem placesOf_ok {B : Tab} (hB : TabOk P W σ.op B) : ∀ {l : List Field} {r : List (Nat × Nat)}, placesOf B l = some r → l.mapM (fun f => (P.info? f.type).map fun i => (f.offset, i.size)) = some r
  | [], r, e => by cases e; rfl
  | f :: l, r, e => by
    simp only [placesOf] at e
    split at e
    · rename_i ti r' ht hr
      cases e
      obtain ⟨i, z, hi, hs, _⟩ := hB.info _ _ ht
      simp [List.mapM_cons, hi, hs, placesOf_ok hB hr]
    · cases e

def evBuild (B : Tab) (t : TypeId) (parts : List (Nat × SV)) : Option SV :=
  match B.T t with
  | some ti => match ti.d with
    | .struct fields => match placesOf B fields.toList with
      | some places => (fillS (places[·]?) ti.zero parts).map .agg
      | none => none
    | .array _ e => match B.T e with
      | some te => (fillS (fun i => some (i * te.size, te.size)) ti.zero parts).map .agg
      | none => none
    | _ => none
  | none => none

theorem evBuild_ok {B : Tab} {t : TypeId} {parts : List (Nat × SV)} {vparts : Array (Nat × Value)} {y : SV} (hB : TabOk P W σ.op B) (hl : parts.length = vparts.toList.length)
    (hp : ∀ (k : Nat) (p : Nat × SV) (q : Nat × Value), parts[k]? = some p → vparts.toList[k]? = some q → p.1 = q.1 ∧ conc σ p.2 = some q.2) (he : evBuild B t parts = some y) :
    Y P W σ w0 (Instr.build t vparts) y [] := by
  unfold evBuild at he
  split at he
  · rename_i ti ht
    obtain ⟨i, z, hi, hs, _, hz, _, hzero⟩ := hB.info _ _ ht
    have hd := hB.under _ _ ht
    split at he
    · rename_i fields hf
      rw [hf] at hd
      split at he
      · rename_i places hpl
        simp only [Option.map_eq_some_iff] at he
        obtain ⟨r, hr, rfl⟩ := he
        obtain ⟨rs, h1, h2⟩ := fillS_ok hl hp (hzero σ) hr
        refine Y.mk0 (V := .agg rs) (by simp [conc, h1]) fun w => run_build w t vparts rs ?_
        unfold Program.built
        simp only [hi, hd, hz, placesOf_ok hB hpl]
        rw [← h2]
        congr 1
        funext k
        simp
      · cases he
    · rename_i n e hf
      rw [hf] at hd
      split at he
      · rename_i te hte
        obtain ⟨ie, ze, hie, hse, _⟩ := hB.info _ _ hte
        simp only [Option.map_eq_some_iff] at he
        obtain ⟨r, hr, rfl⟩ := he
        obtain ⟨rs, h1, h2⟩ := fillS_ok hl hp (hzero σ) hr
        refine Y.mk0 (V := .agg rs) (by simp [conc, h1]) fun w => run_build w t vparts rs ?_
        unfold Program.built
        simp only [hi, hd, hz, hie, hse]
        exact h2
      · cases he
    · cases he
  · cases he

/-! ### All that change nothing -/

def evOpt (t : PT SV) : Option Operand → Option (Option SV)
  | none => some none
  | some o => match evOperand t o with
    | some x => some (some x)
    | none => none

theorem evOpt_conc {t : PT SV} {a : Act} (h : TRel σ t a.tmps) {o : Option Operand} {r : Option SV} (e : evOpt t o = some r) :
    (∀ x, r = some x → ∃ v, o.map a.eval = some v ∧ conc σ x = some v) ∧ (r = none → o.map a.eval = none) := by
  cases o with
  | none =>
    simp only [evOpt, Option.some.injEq] at e
    subst e
    exact ⟨fun x h => (by cases h), fun _ => rfl⟩
  | some o =>
    simp only [evOpt] at e
    split at e
    · rename_i x hx
      cases e
      exact ⟨fun y hy => by cases hy; exact ⟨_, rfl, evOperand_conc h hx⟩, fun h => by cases h⟩
    · cases e

def isConstO : Operand → Bool
  | .const _ => true
  | _ => false

theorem isConstO_is (o : Operand) : isConstO o = (o matches .const _) := by cases o <;> rfl

def noL (x : Option SV) : Option (SV × List Rec) :=
  match x with
  | some v => some (v, [])
  | none => none

def evLen (B : Tab) (t : TypeId) (x : SV) : Option SV :=
  match B.T t with
  | some ti => match ti.d, x with
    | .string, .str l => some (.int .i64 l.length)
    | .slice _, .nils => some (.int .i64 0)
    | .slice _, .slice _ _ _ len _ => some (.int .i64 len)
    | .array n _, _ => some (.int .i64 n)
    | _, _ => none
  | none => none

theorem evLen_ok {B : Tab} {t ty : TypeId} {x y : SV} {V : Value} (hB : TabOk P W σ.op B) (hx : conc σ x = some V) (he : evLen B t x = some y) : Y P W σ w0 (Builtin.len_ #[t] ty #[V]) y [] := by
  unfold evLen at he
  split at he
  · rename_i ti ht
    have hd := hB.under _ _ ht
    split at he
    · rename_i l hti
      rw [hti] at hd
      cases he
      simp only [conc, Option.some.injEq] at hx
      subst hx
      exact Y.mk0 rfl fun w => by (simp only [Builtin.len_]; simp [run_underlying hd]; rfl)
    · rename_i e hti
      rw [hti] at hd
      cases he
      simp only [conc, Option.some.injEq] at hx
      subst hx
      exact Y.mk0 rfl fun w => by (simp only [Builtin.len_]; simp [run_underlying hd, goInt])
    · rename_i e id off es len cap hti
      rw [hti] at hd
      cases he
      simp only [conc, Option.map_eq_some_iff] at hx
      obtain ⟨x, hx, rfl⟩ := hx
      exact Y.mk0 rfl fun w => by (simp only [Builtin.len_]; simp [run_underlying hd, goInt])
    · rename_i n e hti
      rw [hti] at hd
      cases he
      exact Y.mk0 rfl fun w => by (simp only [Builtin.len_]; simp [run_underlying hd, goInt])
    · cases he
  · cases he

def evBuiltin (B : Tab) (b : Builtin) (ts : List TypeId) (xs : List SV) : Option SV :=
  match b, ts, xs with
  | .len, [t], [x] => evLen B t x
  | .max, _, [.int k x, .int _ y] => some (.int k (if y > x then y else x))
  | .min, _, [.int k x, .int _ y] => some (.int k (if y < x then y else x))
  | .cap, [t], [.slice _ _ _ _ (some c)] => match B.T t with
    | some ti => match ti.d with
      | .slice _ => some (.int .i64 c)
      | _ => none
    | none => none
  | _, _, _ => none

theorem evBuiltin_ok {B : Tab} {b : Builtin} {ts : Array TypeId} {ty : TypeId} {cs : Array Bool} {xs : List SV} {vs : List Value} {y : SV} (hB : TabOk P W σ.op B) (hx : concL σ xs = some vs) (he : evBuiltin B b ts.toList xs = some y) :
    (∀ r ∈ ([] : List Rec), Reads σ w0 r) ∧ ∃ V, conc σ y = some V ∧ ∀ w, Below W.heap.size W w → (∀ r ∈ ([] : List Rec), Reads σ w r) → (builtin b ts ty cs vs.toArray).run P w = .ok (.value V) w := by
  have lift : ∀ {s : Sem Value} {y : SV}, Y P W σ w0 s y [] → (∀ r ∈ ([] : List Rec), Reads σ w0 r) ∧ ∃ V, conc σ y = some V ∧ ∀ w, Below W.heap.size W w → (∀ r ∈ ([] : List Rec), Reads σ w r) → (do pure (Next.value (← s)) : Sem Next).run P w = .ok (.value V) w := by
    intro s y ⟨h1, V, h2, h3⟩
    exact ⟨h1, V, h2, fun w hb hr => by simp [h3 w hb hr]⟩
  unfold evBuiltin at he
  split at he
  · rename_i t x hts
    obtain ⟨v, us, hv, hu, rfl⟩ := concL_cons hx
    cases hu
    have : ts = #[t] := by cases ts; simp_all
    subst this
    exact lift (evLen_ok hB hv he)
  · rename_i k x k' y' 
    cases he
    simp only [concL, conc, Option.bind_some, Option.map_some, Option.some.injEq] at hx
    subst hx
    refine lift (s := Builtin.max_ ts ty _) (Y.mk0 rfl fun w => run_max_int2 w ts ty _ _ _ _)
  · rename_i k x k' y'
    cases he
    simp only [concL, conc, Option.bind_some, Option.map_some, Option.some.injEq] at hx
    subst hx
    refine lift (s := Builtin.min_ ts ty _) (Y.mk0 rfl fun w => run_min_int2 w ts ty _ _ _ _)
  · rename_i t id off es len c hts
    obtain ⟨v, us, hv, hu, rfl⟩ := concL_cons hx
    cases hu
    have : ts = #[t] := by cases ts; simp_all
    subst this
    split at he
    · rename_i ti ht
      have hd := hB.under _ _ ht
      split at he
      · rename_i e hti
        rw [hti] at hd
        cases he
        simp only [conc, Option.map_eq_some_iff] at hv
        obtain ⟨x, hx, rfl⟩ := hv
        exact lift (s := Builtin.cap_ #[t] ty _) (Y.mk0 rfl fun w => by simp [Builtin.cap_, run_underlying hd, goInt])
      · cases he
    · cases he
  · cases he

/-! What hangs on the program alone is found by itself: it is the same each time. -/

def fOff (B : Tab) (s : TypeId) (f : Nat) : Option Nat :=
  match B.T s with
  | some ti => match ti.d with
    | .struct fields => match fields[f]? with
      | some fld => match B.T fld.type with
        | some ft => if ft.size = 0 then none else some fld.offset
        | none => none
      | none => none
    | _ => none
  | none => none

def addOff (n : Option Nat) (x : SV) : Option SV :=
  match n with
  | some n => match x with
    | .ptr id off => some (.ptr id (off + n))
    | .glob g off => some (.glob g (off + n))
    | _ => none
  | none => none

theorem addOff_ok {B : Tab} {s : TypeId} {f : Nat} {x y : SV} (h : addOff (fOff B s f) x = some y) : evFieldAddr B s x f = some y := by
  unfold addOff at h
  split at h
  · rename_i n hn
    unfold fOff at hn
    unfold evFieldAddr
    split at hn
    · rename_i ti hti
      split at hn
      · rename_i fields hf
        split at hn
        · rename_i fld hfld
          split at hn
          · rename_i ft hft
            split at hn
            · cases hn
            · rename_i h0
              cases hn
              simp only [hti, hf, hfld, hft, h0, if_false]
              exact h
          · cases hn
        · cases hn
      · cases hn
    · cases hn
  · cases h

inductive IxK where
  | arr (len es : Nat)
  | sl (es : Nat)

def ixK (B : Tab) (t : TypeId) : Option IxK :=
  match B.T t with
  | some ti => match ti.d with
    | .array len elem => match B.T elem with
      | some et => some (.arr len et.size)
      | none => none
    | .slice elem => match B.T elem with
      | some et => some (.sl et.size)
      | none => none
    | _ => none
  | none => none

def ixSl (es : Nat) (x : SV) (n : Nat) : Option SV :=
  match x with
  | .slice id off es' len _ => if n < len then some (.ptr id (off * es' + n * es)) else none
  | _ => none

def ixAt (k : Option IxK) (x i : SV) : Option SV :=
  match i with
  | .int _ (.ofNat n) => match k with
    | some (.arr len es) => if n < len then addOff (some (n * es)) x else none
    | some (.sl es) => ixSl es x n
    | none => none
  | _ => none

theorem ixAt_ok {B : Tab} {t : TypeId} {x i y : SV} (h : ixAt (ixK B t) x i = some y) : evIndexAddr B t x i = some y := by
  unfold ixAt at h
  split at h
  · rename_i k n
    unfold evIndexAddr
    split at h
    · rename_i len es hk
      unfold ixK at hk
      split at hk
      · rename_i ti hti
        split at hk
        · rename_i len' elem hd
          split at hk
          · rename_i et het
            cases hk
            simp only [hti, hd]
            split at h
            · rename_i hn
              unfold addOff at h
              simp only at h
              split at h
              · cases h
                simp only [het, hn, if_true]
              · cases h
                simp only [het, hn, if_true]
              · cases h
            · cases h
          · cases hk
        · split at hk <;> cases hk
        · cases hk
      · cases hk
    · rename_i es hk
      unfold ixK at hk
      split at hk
      · rename_i ti hti
        split at hk
        · split at hk <;> cases hk
        · rename_i elem hd
          split at hk
          · rename_i et het
            cases hk
            simp only [hti, hd]
            unfold ixSl at h
            split at h
            · split at h
              · rename_i hn
                cases h
                simp only [het, hn, if_true]
              · cases h
            · cases h
          · cases hk
        · cases hk
      · cases hk
    · cases h
  · cases h

def ldK (B : Tab) (t : TypeId) : Option (Nat × Bool) :=
  match B.T t with
  | some ti => some (ti.size, isAggD ti.d)
  | none => none

def ldAt (B : Tab) (h : Hp) (k : Option (Nat × Bool)) (x : SV) : Option (SV × List Rec) :=
  match k with
  | some (size, agg) => match x with
    | .ptr id off => match cellsAt h id with
      | some cells => match rowAt size agg off cells with
        | some (v, l) => some (v, [(id, off, l)])
        | none => none
      | none => none
    | .glob g off => match B.G g with
      | some cells => match rowAt size agg off cells with
        | some (v, _) => some (v, [])
        | none => none
      | none => none
    | _ => none
  | none => none

theorem ldAt_ok {B : Tab} {h : Hp} {t : TypeId} {x : SV} {r : SV × List Rec} (he : ldAt B h (ldK B t) x = some r) : evLoad B h t x = some r := by
  unfold ldAt at he
  split at he
  · rename_i size agg hk
    unfold ldK at hk
    split at hk
    · rename_i ti hti
      cases hk
      unfold evLoad
      split at he
      · simp only [hti]
        exact he
      · simp only [hti]
        exact he
      · cases he
    · cases hk
  · cases he

/-- Two integers. -/
def intBin (op : BinOp) (k k' : IntKind) (a b : Int) : Option SV :=
  match op with
  | .add => if k = k' then some (.int k (k.wrap (a + b))) else none
  | .sub => if k = k' then some (.int k (k.wrap (a - b))) else none
  | .mul => if k = k' then some (.int k (k.wrap (a * b))) else none
  | .quo => if k = k' then (if b = 0 then none else some (.int k (k.wrap (a.tdiv b)))) else none
  | .rem => if k = k' then (if b = 0 then none else some (.int k (a.tmod b))) else none
  | .and => if k = k' then pureS (Op.intBits .and k a b) else none
  | .or => if k = k' then pureS (Op.intBits .or k a b) else none
  | .xor => if k = k' then pureS (Op.intBits .xor k a b) else none
  | .andNot => if k = k' then pureS (Op.intBits .andNot k a b) else none
  | .shl => if b < 0 then none else some (.int k (k.wrap (a * 2 ^ (min b.toNat k.bits))))
  | .shr => if b < 0 then none else some (.int k (a.fdiv (2 ^ (min b.toNat k.bits))))
  | .eql => if k = k' then some (.bool (decide (a = b))) else none
  | .neq => if k = k' then some (.bool (!decide (a = b))) else none
  | .lss => if k = k' then some (.bool (decide (a < b))) else none
  | .leq => if k = k' then some (.bool (decide (a ≤ b))) else none
  | .gtr => if k = k' then some (.bool (decide (b < a))) else none
  | .geq => if k = k' then some (.bool (decide (b ≤ a))) else none

theorem intBin_ok {op : BinOp} {k k' : IntKind} {a b : Int} {t : TypeId} {x : SV} (h : intBin op k k' a b = some x) : pureS (binOp op t (.int k a) (.int k' b)) = some x := by
  unfold intBin at h
  cases op <;> simp only at h
  all_goals split at h
  all_goals first
    | (cases h; done)
    | skip
  all_goals try (rename_i hk; subst hk)
  all_goals simp only [binOp, ne_eq, not_true, if_false, Op.intArith, Op.intDiv, Op.intCmp, Op.shift]
  all_goals try (split at h)
  all_goals first
    | (cases h; done)
    | skip
  all_goals try simp only [*, if_false]
  all_goals first
    | exact h
    | (cases h; rfl)
    | skip

def binK (B : Tab) (t : TypeId) : Option Nat :=
  match B.T t with
  | some ti => match ti.d with
    | .int _ => some 0
    | .string => some 1
    | _ => some 2
  | none => none

def strBin (op : BinOp) (a b : List UInt8) : Option SV :=
  match op with
  | .add => if a.length + b.length ≤ 1000000 then some (.str (a ++ b)) else none
  | .eql => some (.bool (eqB a b))
  | .neq => some (.bool (!eqB a b))
  | .lss => some (.bool (Op.bytesLess a b))
  | _ => none

def binAt0 (op : BinOp) (x y : SV) : Option SV :=
  match x with
  | .int k a => match y with
    | .int k' b => intBin op k k' a b
    | _ => none
  | _ => none

def binAt1 (op : BinOp) (x y : SV) : Option SV :=
  match x with
  | .str a => match y with
    | .str b => strBin op a b
    | _ => none
  | _ => none

def binAt (B : Tab) (k : Option Nat) (op : BinOp) (t : TypeId) (c : Bool) (x y : SV) : Option SV :=
  match k with
  | some 0 => binAt0 op x y
  | some 1 => binAt1 op x y
  | some _ => evBin B op t c x y
  | none => none

theorem binAt_ok {B : Tab} {op : BinOp} {t : TypeId} {c : Bool} {x y z : SV} (h : binAt B (binK B t) op t c x y = some z) : evBin B op t c x y = some z := by
  unfold binAt at h
  split at h
  · unfold binAt0 at h
    split at h
    · split at h
      · exact intBin_ok h
      · cases h
    · cases h
  · unfold binAt1 at h
    split at h
    · split at h
      · exact h
      · cases h
    · cases h
  · exact h
  · cases h

def unAt (op : UnOp) (x : SV) : Option SV :=
  match x with
  | .int k n => match op with
    | .neg => some (.int k (k.wrap (0 - n)))
    | .xor => pureS (Op.unary .xor (.int k n))
    | _ => none
  | .bool b => match op with
    | .not => some (.bool (!b))
    | _ => none
  | _ => none

theorem unAt_ok {op : UnOp} {x y : SV} {V : Value} (hx : conc σ x = some V) (h : unAt op x = some y) : Y P W σ w0 (Op.unary op V) y [] := by
  unfold unAt at h
  split at h
  · simp only [conc, Option.some.injEq] at hx
    subst hx
    split at h
    · cases h
      exact Y.mk0 rfl fun w => rfl
    · exact pureS_ok h
    · cases h
  · simp only [conc, Option.some.injEq] at hx
    subst hx
    split at h
    · cases h
      exact Y.mk0 rfl fun w => rfl
    · cases h
  · cases h

def qMove (t : PT SV) (x : Operand) : Option (SV × List Rec) := noL (evOperand t x)
def qPick (t : PT SV) (c a b : Operand) : Option (SV × List Rec) :=
  match evOperand t c with
  | some (.bool s) => noL (evOperand t (if s then a else b))
  | _ => none
def qLoad (B : Tab) (h : Hp) (t : PT SV) (ty : TypeId) (a : Operand) : Option (SV × List Rec) :=
  match evOperand t a with
  | some x => ldAt B h (ldK B ty) x
  | none => none
def qNil (t : PT SV) (x : Operand) : Option (SV × List Rec) :=
  match evOperand t x with
  | some (.ptr i f) => some (.ptr i f, [])
  | some (.glob g f) => some (.glob g f, [])
  | _ => none
def qBin (B : Tab) (t : PT SV) (op : BinOp) (ty : TypeId) (x y : Operand) : Option (SV × List Rec) :=
  match evOperand t x, evOperand t y with
  | some a, some b => noL (binAt B (binK B ty) op ty (isConstO x || isConstO y) a b)
  | _, _ => none
def qUn (t : PT SV) (op : UnOp) (x : Operand) : Option (SV × List Rec) :=
  match evOperand t x with
  | some a => noL (unAt op a)
  | none => none
def qConv (B : Tab) (h : Hp) (t : PT SV) (s d : TypeId) (x : Operand) : Option (SV × List Rec) :=
  match evOperand t x with
  | some a => evConv B h s d a
  | none => none
def qMkI (B : Tab) (t : PT SV) (ty : TypeId) (x : Operand) : Option (SV × List Rec) :=
  match evOperand t x, B.T ty with
  | some a, some ti => match ti.d with
    | .interface _ => none
    | _ => some (.iface ty a, [])
  | _, _ => none
def qMkF (t : PT SV) (f : FuncId) (first captured : Array Operand) : Option (SV × List Rec) :=
  match evOperands t first.toList, evOperands t captured.toList with
  | some a, some b => some (.func f a b, [])
  | _, _ => none
def qSlice (B : Tab) (h : Hp) (t : PT SV) (ty : TypeId) (x : Operand) (lo hi mx : Option Operand) : Option (SV × List Rec) :=
  match evOperand t x, evOpt t lo, evOpt t hi, evOpt t mx with
  | some a, some l, some g, some m => noL (evSlice B h ty a l g m)
  | _, _, _, _ => none
def qFA (B : Tab) (t : PT SV) (s : TypeId) (x : Operand) (f : Nat) : Option (SV × List Rec) :=
  match evOperand t x with
  | some a => noL (addOff (fOff B s f) a)
  | none => none
def qF (B : Tab) (t : PT SV) (s : TypeId) (x : Operand) (f : Nat) : Option (SV × List Rec) :=
  match evOperand t x with
  | some a => noL (evField B s a f)
  | none => none
def qIA (B : Tab) (t : PT SV) (ty : TypeId) (x i : Operand) : Option (SV × List Rec) :=
  match evOperand t x, evOperand t i with
  | some a, some b => noL (ixAt (ixK B ty) a b)
  | _, _ => none
def qI (B : Tab) (t : PT SV) (ty : TypeId) (x i : Operand) : Option (SV × List Rec) :=
  match evOperand t x, evOperand t i with
  | some a, some b => noL (evIndex B ty a b)
  | _, _ => none
def qEx (t : PT SV) (x : Operand) (i : Nat) : Option (SV × List Rec) :=
  match evOperand t x with
  | some (.tup l) => noL (l[i]?)
  | _ => none
def qBuild (B : Tab) (t : PT SV) (ty : TypeId) (parts : Array (Nat × Operand)) : Option (SV × List Rec) :=
  match evParts t parts.toList with
  | some ps => noL (evBuild B ty ps)
  | none => none
def qCall (B : Tab) (t : PT SV) (b : Builtin) (args : Array Operand) (ts : Array TypeId) : Option (SV × List Rec) :=
  match evOperands t args.toList with
  | some xs => noL (evBuiltin B b ts.toList xs)
  | none => none

def evQ (B : Tab) (h : Hp) (t : PT SV) (o : Oper) : Option (SV × List Rec) :=
  match o.op with
  | .move x | .assign x => qMove t x
  | .pick c a b => qPick t c a b
  | .load ty a => qLoad B h t ty a
  | .nilCheck x => qNil t x
  | .binOp op ty x y _ => qBin B t op ty x y
  | .unOp op _ x => qUn t op x
  | .convert s d x => qConv B h t s d x
  | .makeInterface ty x => qMkI B t ty x
  | .makeFunc (.func f) first captured => qMkF t f first captured
  | .slice ty x lo hi mx => qSlice B h t ty x lo hi mx
  | .fieldAddr s x f => qFA B t s x f
  | .field s x f => qF B t s x f
  | .indexAddr ty x i => qIA B t ty x i
  | .index ty x i => qI B t ty x i
  | .extract x i => qEx t x i
  | .build ty parts => qBuild B t ty parts
  | .call { callee := .builtin b, args, argTypes } => qCall B t b args argTypes
  | _ => none

def Qok (P : Program) (W : World) (σ : Env) (w0 : World) (s : Sem Next) (x : SV) (L : List Rec) : Prop :=
  (∀ r ∈ L, Reads σ w0 r) ∧ ∃ V, conc σ x = some V ∧ ∀ w, Below W.heap.size W w → (∀ r ∈ L, Reads σ w r) → s.run P w = .ok (.value V) w

theorem Y.q {s : Sem Value} {x : SV} {L : List Rec} (h : Y P W σ w0 s x L) : Qok P W σ w0 (do pure (Next.value (← s))) x L :=
  ⟨h.1, h.2.choose, h.2.choose_spec.1, fun w hb hr => by simp [h.2.choose_spec.2 w hb hr]⟩

theorem noL_some {x : Option SV} {y : SV} {L : List Rec} (h : noL x = some (y, L)) : x = some y ∧ L = [] := by
  unfold noL at h
  split at h
  · cases h; exact ⟨rfl, rfl⟩
  · cases h

theorem evQ_ok {B : Tab} {h : Hp} {t : PT SV} {o : Oper} {a : Act} {x : SV} {L : List Rec} (hB : TabOk P W σ.op B) (H : HRel W σ h w0) (ht : TRel σ t a.tmps) (he : evQ B h t o = some (x, L)) :
    Qok P W σ w0 (execOp a.eval o) x L := by
  unfold evQ at he
  unfold execOp
  split at he <;> rename_i ho <;> simp only [ho] <;> (try simp only [qMove, qPick, qLoad, qNil, qBin, qUn, qConv, qMkI, qMkF, qSlice, qFA, qF, qIA, qI, qEx, qBuild, qCall] at he)
  · obtain ⟨hk, rfl⟩ := noL_some he
    exact ⟨fun r hr => absurd hr (by simp), _, evOperand_conc ht hk, fun w _ _ => rfl⟩
  · obtain ⟨hk, rfl⟩ := noL_some he
    exact ⟨fun r hr => absurd hr (by simp), _, evOperand_conc ht hk, fun w _ _ => rfl⟩
  · split at he
    · rename_i s hs
      obtain ⟨hk, rfl⟩ := noL_some he
      have hc := evOperand_conc ht hs
      simp only [conc, Option.some.injEq] at hc
      refine ⟨fun r hr => absurd hr (by simp), _, evOperand_conc ht hk, fun w _ _ => ?_⟩
      rw [← hc]
      cases s <;> simp [asBool]
    · cases he
  · split at he
    · rename_i y hy
      exact (evLoad_ok hB H (evOperand_conc ht hy) (ldAt_ok he)).q
    · cases he
  · split at he
    · rename_i i f hy
      cases he
      have hc := evOperand_conc ht hy
      refine ⟨fun r hr => absurd hr (by simp), _, hc, fun w _ _ => ?_⟩
      simp only [conc, Option.map_eq_some_iff] at hc
      obtain ⟨z, _, hz⟩ := hc
      rw [← hz]
      rfl
    · rename_i i f hy
      cases he
      have hc := evOperand_conc ht hy
      refine ⟨fun r hr => absurd hr (by simp), _, hc, fun w _ _ => ?_⟩
      simp only [conc, Option.some.injEq] at hc
      rw [← hc]
      rfl
    · cases he
  · split at he
    · rename_i u v hu hv
      obtain ⟨hk, rfl⟩ := noL_some he
      refine (evBin_ok hB (evOperand_conc ht hu) (evOperand_conc ht hv) (fun hc => ?_) (binAt_ok hk)).q
      rw [isConstO_is, isConstO_is] at hc
      exact hc
    · cases he
  · split at he
    · rename_i b hy
      obtain ⟨hk, rfl⟩ := noL_some he
      exact (unAt_ok (evOperand_conc ht hy) hk).q
    · cases he
  · split at he
    · rename_i y hy
      exact (evConv_ok hB H (evOperand_conc ht hy) he).q
    · cases he
  · split at he
    · rename_i y ti hy hti
      have hd := hB.under _ _ hti
      split at he
      · cases he
      · rename_i hni
        cases he
        have hc := evOperand_conc ht hy
        refine Y.q ⟨fun r hr => absurd hr (by simp), _, by simp [conc, hc]; rfl, fun w _ _ => ?_⟩
        simp only [Instr.makeInterface, Sem.run_bind, run_underlying hd, Result.andThen_ok, Sem.run_pure]
    · cases he
  · split at he
    · rename_i u v hu hv
      cases he
      have h1 := evOperands_conc ht hu
      have h2 := evOperands_conc ht hv
      refine Y.q (Y.mk0 (V := .func _ _ _) (by simp only [conc, h1, h2, Option.bind_some, Option.map_some]; rfl) fun w => ?_)
      simp only [Instr.makeFunc, Sem.run_pure]
      congr 2 <;> (apply Array.ext'; simp)
    · cases he
  · split at he
    · rename_i u l g m hu hl hg hm
      obtain ⟨hk, rfl⟩ := noL_some he
      obtain ⟨l1, l2⟩ := evOpt_conc ht hl
      obtain ⟨g1, g2⟩ := evOpt_conc ht hg
      obtain ⟨m1, m2⟩ := evOpt_conc ht hm
      exact (evSlice_ok hB H (evOperand_conc ht hu) l1 l2 g1 g2 m1 m2 hk).q
    · cases he
  · split at he
    · rename_i y hy
      obtain ⟨hk, rfl⟩ := noL_some he
      exact (evFieldAddr_ok hB (evOperand_conc ht hy) (addOff_ok hk)).q
    · cases he
  · split at he
    · rename_i y hy
      obtain ⟨hk, rfl⟩ := noL_some he
      exact (evField_ok hB (evOperand_conc ht hy) hk).q
    · cases he
  · split at he
    · rename_i u v hu hv
      obtain ⟨hk, rfl⟩ := noL_some he
      exact (evIndexAddr_ok hB (evOperand_conc ht hu) (evOperand_conc ht hv) (ixAt_ok hk)).q
    · cases he
  · split at he
    · rename_i u v hu hv
      obtain ⟨hk, rfl⟩ := noL_some he
      exact (evIndex_ok hB (evOperand_conc ht hu) (evOperand_conc ht hv) hk).q
    · cases he
  · split at he
    · rename_i l hy
      obtain ⟨hk, rfl⟩ := noL_some he
      have hc := evOperand_conc ht hy
      simp only [conc, Option.map_eq_some_iff] at hc
      obtain ⟨vs, hvs, hc⟩ := hc
      obtain ⟨v, h1, h2⟩ := concL_get hvs hk
      refine Y.q (Y.mk0 h2 fun w => ?_)
      rw [← hc]
      simp [Instr.extract, h1]
    · cases he
  · split at he
    · rename_i ps hps
      obtain ⟨hk, rfl⟩ := noL_some he
      obtain ⟨h1, h2⟩ := evParts_conc ht hps
      exact (evBuild_ok hB (by simpa using h1) (fun k p q hp hq => h2 k p q hp (by simpa using hq)) hk).q
    · cases he
  · split at he
    · rename_i xs hxs
      obtain ⟨hk, rfl⟩ := noL_some he
      have h1 := evOperands_conc ht hxs
      rename_i b args ts _
      have := fun cs => evBuiltin_ok (P := P) (w0 := w0) (cs := cs) (ty := o.type) hB h1 hk
      obtain ⟨g1, V, g2, g3⟩ := this (args.map fun | .const _ => true | _ => false)
      refine ⟨g1, V, g2, fun w hb hr => ?_⟩
      simp only [resolve, Sem.run_bind, Sem.run_pure, Result.andThen_ok, invoke]
      have e : (List.map a.eval args.toList).toArray = Array.map a.eval args := by apply Array.ext'; simp
      rw [e] at g3
      exact g3 w hb hr
    · cases he
  · cases he

end
end
end Go.Proofs.YtjmiaemabhlnjaaGreatDoor.Sym
