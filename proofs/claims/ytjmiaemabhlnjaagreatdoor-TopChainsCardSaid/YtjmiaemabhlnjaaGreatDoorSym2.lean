/-
  A run of a Go program over data that is known: the operations that change nothing: what each yields, and from which cells.
-/
import Derived.Test.YtjmiaemabhlnjaaGreatDoorSym1
import Derived.Laws.StructEq
import Derived.Laws.Strings
import Derived.Laws.Small
import Derived.ChangeKeysEq
set_option linter.unusedVariables false
set_option linter.unusedSimpArgs false
namespace Go.Proofs.YtjmiaemabhlnjaaGreatDoor.Sym
open Go Go.RowKit
noncomputable section

/-- What is asked of a type. -/
structure TI where
  d : TypeDesc
  size : Nat
  bytes : Nat
  zero : List SV
  cmp : Bool

/-- The tables: types, package-level variables that are read, structs that are compared (0: an integer, 1: a bool, 2: a string). -/
structure Tab where
  T : Nat → Option TI
  G : Nat → Option (List SV)
  E : Nat → Option (List Nat)

def kindIs (P : Program) (t : TypeId) : Nat → Prop
  | 0 => ∃ k, P.underlying t = some (.int k)
  | 1 => P.underlying t = some .bool
  | _ => P.underlying t = some .string

structure TabOk (P : Program) (W : World) (op : List Value) (B : Tab) : Prop where
  under : ∀ t ti, B.T t = some ti → P.underlying t = some ti.d
  info : ∀ t ti, B.T t = some ti → ∃ i z, P.info? t = some i ∧ i.size = ti.size ∧ i.bytes = ti.bytes ∧ i.zero = some z ∧ i.comparable = ti.cmp ∧ ∀ σ, concL σ ti.zero = some z.cells.toList
  glob : ∀ g l, B.G g = some l → ∃ vs, (∀ σ : Env, σ.op = op → concL σ l = some vs) ∧ ∀ (j : Nat) (v : Value), vs[j]? = some v → W.cell? ⟨g, j, none⟩ = some v
  eqs : ∀ t l, B.E t = some l → ∃ fs, P.underlying t = some (.struct fs) ∧ P.stoodInHeld t = false ∧ P.eqGuardType P.depth t = false ∧ fs.size = l.length ∧
    ∀ (i : Nat) (f : Field), fs[i]? = some f → f.name ≠ "_" ∧ f.offset = i ∧ ∃ k, l[i]? = some k ∧ kindIs P f.type k

abbrev Rec := Nat × Nat × List SV

/-- From a cell of a block on there lies a row. -/
def Reads (σ : Env) (w : World) (r : Rec) : Prop :=
  ∃ b K vs, σ.bl[r.1]? = some (b, K) ∧ concL σ r.2.2 = some vs ∧ ∀ (j : Nat) (v : Value), vs[j]? = some v → w.cell? ⟨b, r.2.1 + j, none⟩ = some v

/-- In every world in which the old memory is as it was, and some rows lie as they do, this yields that. -/
def Y (P : Program) (W : World) (σ : Env) (w0 : World) (s : Sem Value) (x : SV) (L : List Rec) : Prop :=
  (∀ r ∈ L, Reads σ w0 r) ∧ ∃ V, conc σ x = some V ∧ ∀ w, Below W.heap.size W w → (∀ r ∈ L, Reads σ w r) → s.run P w = .ok V w

section
variable {P : Program} {W : World} {σ : Env} {w0 : World}

theorem Y.mk0 {s : Sem Value} {x : SV} {V : Value} (hx : conc σ x = some V) (hs : ∀ w, s.run P w = .ok V w) : Y P W σ w0 s x [] :=
  ⟨fun _ h => absurd h (by simp), V, hx, fun w _ _ => hs w⟩

def takeN {α : Type} : Nat → List α → Option (List α)
  | 0, _ => some []
  | _ + 1, [] => none
  | n + 1, x :: l => match takeN n l with
    | some r => some (x :: r)
    | none => none

theorem takeN_spec {α : Type} : ∀ {n : Nat} {l r : List α}, takeN n l = some r → r = l.take n ∧ n ≤ l.length
  | 0, l, r, h => by cases h; simp
  | n + 1, [], r, h => by cases h
  | n + 1, x :: l, r, h => by
    simp only [takeN] at h
    split at h
    · rename_i r' hr
      cases h
      obtain ⟨rfl, h2⟩ := takeN_spec hr
      simp [h2]
    · cases h

def isAggD : TypeDesc → Bool
  | .struct _ | .array _ _ => true
  | _ => false

theorem run_isAgg {t : TypeId} {d : TypeDesc} (h : P.underlying t = some d) (w : World) : (isAgg t).run P w = .ok (isAggD d) w := by
  simp only [isAgg, Sem.run_bind, run_underlying h, Result.andThen_ok]
  cases d <;> rfl

theorem run_sizeOf' {t : TypeId} {i : TypeInfo} (h : P.info? t = some i) (w : World) : (sizeOf t).run P w = .ok i.size w := by
  simp [sizeOf, typeInfo, h]

theorem run_typeInfo' {t : TypeId} {i : TypeInfo} (h : P.info? t = some i) (w : World) : (typeInfo t).run P w = .ok i w := by
  simp [typeInfo, h]

theorem run_zeroValue' {t : TypeId} {i : TypeInfo} {z : Value} (h : P.info? t = some i) (hz : i.zero = some z) (w : World) : (zeroValue t).run P w = .ok z w := by
  simp [zeroValue, typeInfo, h, hz]

theorem addr_add (b off n : Nat) : (⟨b, off, none⟩ : Addr).add n = ⟨b, off + n, none⟩ := by
  unfold Addr.add
  split
  · rename_i h; simp [h]
  · rfl

/-! ### Loads -/

def rowAt (size : Nat) (agg : Bool) (off : Nat) (cells : List SV) : Option (SV × List SV) :=
  if agg then match takeN size (cells.drop off) with
    | some l => some (.agg l, l)
    | none => none
  else match cells.drop off with
    | x :: _ => some (x, [x])
    | [] => none

def evLoad (B : Tab) (h : Hp) (t : TypeId) (x : SV) : Option (SV × List Rec) :=
  match x, B.T t with
  | .ptr id off, some ti => match cellsAt h id with
    | some cells => match rowAt ti.size (isAggD ti.d) off cells with
      | some (v, l) => some (v, [(id, off, l)])
      | none => none
    | none => none
  | .glob g off, some ti => match B.G g with
    | some cells => match rowAt ti.size (isAggD ti.d) off cells with
      | some (v, _) => some (v, [])
      | none => none
    | none => none
  | _, _ => none

/-- A row that lies from a cell on is what is loaded there. -/
theorem run_loadAt_row {t : TypeId} {d : TypeDesc} {i : TypeInfo} (hd : P.underlying t = some d) (hi : P.info? t = some i) {cells l : List SV} {x : SV} {b off : Nat} {vs : List Value}
    (hr : rowAt i.size (isAggD d) off cells = some (x, l)) (hl : concL σ l = some vs) : ∃ V, conc σ x = some V ∧
    ∀ w, (∀ (j : Nat) (v : Value), vs[j]? = some v → w.cell? ⟨b, off + j, none⟩ = some v) → (Instr.loadAt t (.pointer (some ⟨b, off, none⟩))).run P w = .ok V w := by
  unfold rowAt at hr
  split at hr
  · rename_i ha
    split at hr
    · rename_i l' hl'
      cases hr
      obtain ⟨h1, h2⟩ := takeN_spec hl'
      refine ⟨.agg vs.toArray, by simp [conc, hl], fun w hw => ?_⟩
      have hlen : vs.length = i.size := by
        rw [concL_length hl, h1, List.length_take]
        omega
      simp only [Instr.loadAt, Instr.sureAddr, loadVar, Sem.run_bind, Sem.run_pure, Result.andThen_ok, run_isAgg hd, ha, if_true, run_sizeOf' hi]
      rw [← hlen, run_loadCells_list w ⟨b, off, none⟩ vs (fun j v hv => by rw [addr_add]; exact hw j v hv)]
      rfl
    · cases hr
  · rename_i ha
    split at hr
    · rename_i y r hy
      cases hr
      obtain ⟨v, us, hv, hu, rfl⟩ := concL_cons hl
      cases hu
      refine ⟨v, hv, fun w hw => ?_⟩
      have h0 := hw 0 v rfl
      simp only [Bool.not_eq_true] at ha
      simp only [Instr.loadAt, Instr.sureAddr, loadVar, Sem.run_bind, Sem.run_pure, Result.andThen_ok, run_isAgg hd, ha, Bool.false_eq_true, if_false, run_load]
      rw [show (⟨b, off, none⟩ : Addr) = ⟨b, off + 0, none⟩ from rfl, h0]
    · cases hr

theorem rowAt_sub {size : Nat} {agg : Bool} {off : Nat} {cells l : List SV} {x : SV} (hr : rowAt size agg off cells = some (x, l)) : ∃ n, l = (cells.drop off).take n := by
  unfold rowAt at hr
  split at hr
  · split at hr
    · rename_i l' hl'
      cases hr
      exact ⟨size, (takeN_spec hl').1⟩
    · cases hr
  · split at hr
    · rename_i y r hy
      cases hr
      exact ⟨1, by simp [hy]⟩
    · cases hr

theorem HRel.readsC {h : Hp} {w : World} (H : HRel W σ h w) {id : Nat} {cells : List SV} (ho : cellsAt h id = some cells) (off n : Nat) : Reads σ w (id, off, (cells.drop off).take n) := by
  have key : ∃ (b K : Nat) (c : Array Value) (el : TypeId) (fr : Nat × Nat) (vs : List Value), σ.bl[id]? = some (b, K) ∧ w.heap[b]? = some (.cells c el fr) ∧ concL σ cells = some vs ∧ (∀ (j : Nat) (v : Value), vs[j]? = some v → c[j]? = some v) := by
    unfold cellsAt at ho
    split at ho
    · rename_i c0 op hg
      cases ho
      obtain ⟨b, K, c, el, vs, h1, h2, h3, h4, h5⟩ := H.obj id _ hg
      exact ⟨b, K, c, el, _, vs, h1, h2, h3, h4⟩
    · rename_i c0 hg
      cases ho
      exact H.obj id _ hg
    · cases ho
  obtain ⟨b, K, c, el, fr, vs, h1, h2, h3, h4⟩ := key
  refine ⟨b, K, _, h1, concL_take n (concL_drop off h3), fun j v hv => ?_⟩
  rw [List.getElem?_take] at hv
  split at hv
  · rw [List.getElem?_drop] at hv
    have := h4 _ v hv
    simp only [World.cell?, h2]
    simpa using this
  · cases hv

theorem HRel.reads {h : Hp} {w : World} (H : HRel W σ h w) {id : Nat} {cells : List SV} {op : Option Nat} (ho : h.get id = some (.row cells op)) (off n : Nat) : Reads σ w (id, off, (cells.drop off).take n) :=
  H.readsC (by simp [cellsAt, ho]) off n

theorem evLoad_ok {B : Tab} {h : Hp} {t : TypeId} {x y : SV} {L : List Rec} {V : Value} (hB : TabOk P W σ.op B) (H : HRel W σ h w0) (hx : conc σ x = some V) (he : evLoad B h t x = some (y, L)) :
    Y P W σ w0 (Instr.loadAt t V) y L := by
  unfold evLoad at he
  split at he
  · rename_i id off ti ht
    obtain ⟨i, z, hi, hs, _⟩ := hB.info _ _ ht
    have hd := hB.under _ _ ht
    split at he
    · rename_i cells ho
      split at he
      · rename_i v l hr
        cases he
        obtain ⟨n, hn⟩ := rowAt_sub hr
        have hrd : Reads σ w0 (id, off, l) := by rw [hn]; exact H.readsC ho off n
        refine ⟨fun r hr => by simp only [List.mem_singleton] at hr; subst hr; exact hrd, ?_⟩
        obtain ⟨b, K, vs, h1, h2, h3⟩ := hrd
        rw [← hs] at hr
        obtain ⟨V', hV', hrun⟩ := run_loadAt_row (b := b) hd hi hr h2
        refine ⟨V', hV', fun w _ hw => ?_⟩
        obtain ⟨b', K', vs', h1', h2', h3'⟩ := hw _ (List.mem_singleton.2 rfl)
        simp only at h1 h2 h3 h1' h2' h3'
        rw [h1] at h1'
        rw [h2] at h2'
        cases h1'
        cases h2'
        simp only [conc, h1, Option.map_some, Option.some.injEq] at hx
        subst hx
        exact hrun w h3'
      · cases he
    · cases he
  · rename_i g off ti ht
    obtain ⟨i, z, hi, hs, _⟩ := hB.info _ _ ht
    have hd := hB.under _ _ ht
    split at he
    · rename_i cells hg
      split at he
      · rename_i v l hr
        cases he
        obtain ⟨n, hn⟩ := rowAt_sub hr
        obtain ⟨vs, hvs, hc⟩ := hB.glob _ _ hg
        have h2 : concL σ l = some ((vs.drop off).take n) := by rw [hn]; exact concL_take n (concL_drop off (hvs σ rfl))
        rw [← hs] at hr
        obtain ⟨V', hV', hrun⟩ := run_loadAt_row (b := g) hd hi hr h2
        refine ⟨fun r hr => absurd hr (by simp), V', hV', fun w hb _ => ?_⟩
        simp only [conc, Option.some.injEq] at hx
        subst hx
        refine hrun w fun j v hv => ?_
        rw [List.getElem?_take] at hv
        split at hv
        · rw [List.getElem?_drop] at hv
          have := hc _ v hv
          rw [hb.cell (World.block_lt_of_cell? W _ this)]
          exact this
        · cases hv
      · cases he
    · cases he
  · cases he

/-! ### Addresses -/

def evFieldAddr (B : Tab) (s : TypeId) (x : SV) (f : Nat) : Option SV :=
  match B.T s with
  | some ti => match ti.d with
    | .struct fields => match fields[f]? with
      | some fld => match B.T fld.type with
        | some ft => if ft.size = 0 then none else match x with
          | .ptr id off => some (.ptr id (off + fld.offset))
          | .glob g off => some (.glob g (off + fld.offset))
          | _ => none
        | none => none
      | none => none
    | _ => none
  | none => none

theorem evFieldAddr_ok {B : Tab} {s : TypeId} {x y : SV} {f : Nat} {V : Value} (hB : TabOk P W σ.op B) (hx : conc σ x = some V) (he : evFieldAddr B s x f = some y) :
    Y P W σ w0 (Instr.fieldAt s V f) y [] := by
  unfold evFieldAddr at he
  split at he
  · rename_i ti ht
    have hd := hB.under _ _ ht
    split at he
    · rename_i fields hf
      rw [hf] at hd
      split at he
      · rename_i fld hfld
        split at he
        · rename_i ft hft
          obtain ⟨i, z, hi, hs, _⟩ := hB.info _ _ hft
          split at he
          · cases he
          · rename_i h0
            have key : ∀ b off : Nat, ∀ w, (Instr.fieldAt s (.pointer (some ⟨b, off, none⟩)) f).run P w = .ok (.pointer (some ⟨b, off + fld.offset, none⟩)) w := by
              intro b off w
              simp only [Instr.fieldAt, Sem.run_bind, run_underlying hd, Result.andThen_ok, hfld, Instr.sureAddr, Sem.run_pure, fieldPlace, run_sizeOf' hi, hs, h0, if_false, addr_add]
            split at he
            · rename_i id off
              cases he
              simp only [conc, Option.map_eq_some_iff] at hx
              obtain ⟨x, hx, rfl⟩ := hx
              exact Y.mk0 (by simp [conc, hx]) (key _ _)
            · rename_i g off
              cases he
              simp only [conc, Option.some.injEq] at hx
              subst hx
              exact Y.mk0 (by simp [conc]) (key _ _)
            · cases he
        · cases he
      · cases he
    · cases he
  · cases he

def evIndexAddr (B : Tab) (t : TypeId) (x i : SV) : Option SV :=
  match i, B.T t with
  | .int k (.ofNat n), some ti => match ti.d, x with
    | .array len elem, .ptr id off => match B.T elem with
      | some et => if n < len then some (.ptr id (off + n * et.size)) else none
      | none => none
    | .array len elem, .glob g off => match B.T elem with
      | some et => if n < len then some (.glob g (off + n * et.size)) else none
      | none => none
    | .slice elem, .slice id off es len _ => match B.T elem with
      | some et => if n < len then some (.ptr id (off * es + n * et.size)) else none
      | none => none
    | _, _ => none
  | _, _ => none

theorem run_indexAt_arr {t elem : TypeId} {len : Nat} {i : TypeInfo} (h : P.underlying t = some (.array len elem)) (hi : P.info? elem = some i) (b off n : Nat) (k : IntKind) (hn : n < len) (w : World) :
    (Instr.indexAt t (.pointer (some ⟨b, off, none⟩)) (.int k (.ofNat n))).run P w = .ok (.pointer (some ⟨b, off + n * i.size, none⟩)) w := by
  have h1 : (0 : Int) ≤ (n : Int) ∧ (n : Int) < (len : Int) := ⟨Int.natCast_nonneg n, by simpa using hn⟩
  simp only [Instr.indexAt, asIntOf, Sem.run_bind, Sem.run_pure, Result.andThen_ok, run_underlying h, Instr.sureAddr]
  simp only [Sem.run_ite, Sem.run_bind, run_sizeOf' hi, Result.andThen_ok, Sem.run_pure, addr_add, Int.ofNat_eq_natCast, Int.toNat_natCast]
  rw [if_pos h1]

theorem run_indexAt_sl {t elem : TypeId} {i : TypeInfo} (h : P.underlying t = some (.slice elem)) (hi : P.info? elem = some i) (b off len cap n : Nat) (k : IntKind) (hn : n < len) (w : World) :
    (Instr.indexAt t (.slice (some ⟨b, off, none⟩) len cap) (.int k (.ofNat n))).run P w = .ok (.pointer (some ⟨b, off + n * i.size, none⟩)) w := by
  have h1 : (0 : Int) ≤ (n : Int) ∧ (n : Int) < (len : Int) := ⟨Int.natCast_nonneg n, by simpa using hn⟩
  simp only [Instr.indexAt, asIntOf, Sem.run_bind, Sem.run_pure, Result.andThen_ok, run_underlying h]
  simp only [Sem.run_ite, Sem.run_bind, run_sizeOf' hi, Result.andThen_ok, Sem.run_pure, addr_add, Int.ofNat_eq_natCast, Int.toNat_natCast]
  rw [if_pos h1]

theorem evIndexAddr_ok {B : Tab} {t : TypeId} {x i y : SV} {V I : Value} (hB : TabOk P W σ.op B) (hx : conc σ x = some V) (hi : conc σ i = some I) (he : evIndexAddr B t x i = some y) :
    Y P W σ w0 (Instr.indexAt t V I) y [] := by
  unfold evIndexAddr at he
  split at he
  · rename_i k n ti ht
    have hd := hB.under _ _ ht
    simp only [conc, Option.some.injEq] at hi
    subst hi
    split at he
    · rename_i len elem id off hti
      rw [hti] at hd
      split at he
      · rename_i et het
        obtain ⟨j, z, hj, hs, _⟩ := hB.info _ _ het
        split at he
        · rename_i hn
          cases he
          simp only [conc, Option.map_eq_some_iff] at hx
          obtain ⟨x, hx, rfl⟩ := hx
          exact Y.mk0 (by simp [conc, hx, ← hs]) (run_indexAt_arr hd hj _ _ _ _ hn)
        · cases he
      · cases he
    · rename_i len elem g off hti
      rw [hti] at hd
      split at he
      · rename_i et het
        obtain ⟨j, z, hj, hs, _⟩ := hB.info _ _ het
        split at he
        · rename_i hn
          cases he
          simp only [conc, Option.some.injEq] at hx
          subst hx
          exact Y.mk0 (by simp [conc, ← hs]) (run_indexAt_arr hd hj _ _ _ _ hn)
        · cases he
      · cases he
    · rename_i elem id off es len cap hti
      rw [hti] at hd
      split at he
      · rename_i et het
        obtain ⟨j, z, hj, hs, _⟩ := hB.info _ _ het
        split at he
        · rename_i hn
          cases he
          simp only [conc, Option.map_eq_some_iff] at hx
          obtain ⟨x, hx, rfl⟩ := hx
          exact Y.mk0 (by simp [conc, hx, ← hs]) (run_indexAt_sl hd hj _ _ _ _ _ _ hn)
        · cases he
      · cases he
    · cases he
  · cases he

/-! ### Parts of values -/

theorem run_part_row {t : TypeId} {d : TypeDesc} {i : TypeInfo} (hd : P.underlying t = some d) (hi : P.info? t = some i) {cells l : List SV} {x : SV} {off : Nat} {us : List Value}
    (hr : rowAt i.size (isAggD d) off cells = some (x, l)) (hl : concL σ cells = some us) : ∃ V, conc σ x = some V ∧ ∀ w, (part t us.toArray off).run P w = .ok V w := by
  unfold rowAt at hr
  split at hr
  · rename_i ha
    split at hr
    · rename_i l' hl'
      cases hr
      obtain ⟨h1, h2⟩ := takeN_spec hl'
      have h3 := concL_take i.size (concL_drop off hl)
      rw [← h1] at h3
      refine ⟨.agg ((us.drop off).take i.size).toArray, by simp [conc, h3], fun w => ?_⟩
      simp only [part, Sem.run_bind, run_isAgg hd, ha, Result.andThen_ok, if_true, run_sizeOf' hi, Sem.run_pure]
      congr 2
      apply Array.ext'
      simp [List.extract_eq_take_drop, List.drop_take]
    · cases hr
  · rename_i ha
    split at hr
    · rename_i y r hy
      cases hr
      have h3 := concL_drop off hl
      rw [hy] at h3
      obtain ⟨v, vs, hv, hu, he⟩ := concL_cons h3
      refine ⟨v, hv, fun w => ?_⟩
      have h4 : us[off]? = some v := by
        have := congrArg (fun l : List Value => l[0]?) he
        simpa using this
      simp only [Bool.not_eq_true] at ha
      simp only [part, Sem.run_bind, run_isAgg hd, ha, Result.andThen_ok, Bool.false_eq_true, if_false, List.getElem?_toArray, h4, Sem.run_pure]
    · cases hr

def evField (B : Tab) (t : TypeId) (x : SV) (f : Nat) : Option SV :=
  match B.T t, x with
  | some ti, .agg cells => match ti.d with
    | .struct fields => match fields[f]? with
      | some fld => match B.T fld.type with
        | some ft => match rowAt ft.size (isAggD ft.d) fld.offset cells with
          | some (v, _) => some v
          | none => none
        | none => none
      | none => none
    | _ => none
  | _, _ => none

theorem evField_ok {B : Tab} {t : TypeId} {x y : SV} {f : Nat} {V : Value} (hB : TabOk P W σ.op B) (hx : conc σ x = some V) (he : evField B t x f = some y) :
    Y P W σ w0 (Instr.field t V f) y [] := by
  unfold evField at he
  split at he
  · rename_i ti cells ht
    have hd := hB.under _ _ ht
    simp only [conc, Option.map_eq_some_iff] at hx
    obtain ⟨us, hus, rfl⟩ := hx
    split at he
    · rename_i fields hf
      rw [hf] at hd
      split at he
      · rename_i fld hfld
        split at he
        · rename_i ft hft
          obtain ⟨i, z, hi, hs, _⟩ := hB.info _ _ hft
          split at he
          · rename_i v l hr
            cases he
            rw [← hs] at hr
            obtain ⟨V', hV', hrun⟩ := run_part_row (hB.under _ _ hft) hi hr hus
            refine Y.mk0 hV' fun w => ?_
            simp only [Instr.field, Sem.run_bind, run_underlying hd, Result.andThen_ok, hfld, asAgg, Sem.run_pure]
            exact hrun w
          · cases he
        · cases he
      · cases he
    · cases he
  · cases he

def evIndex (B : Tab) (t : TypeId) (x i : SV) : Option SV :=
  match i, B.T t with
  | .int k (.ofNat n), some ti => match ti.d, x with
    | .array len elem, .agg cells => match B.T elem with
      | some et => if n < len then match rowAt et.size (isAggD et.d) (n * et.size) cells with
          | some (v, _) => some v
          | none => none
        else none
      | none => none
    | .string, .str l => match l.drop n with
      | b :: _ => some (.int .u8 b.toNat)
      | [] => none
    | _, _ => none
  | _, _ => none

theorem evIndex_ok {B : Tab} {t : TypeId} {x i y : SV} {V I : Value} (hB : TabOk P W σ.op B) (hx : conc σ x = some V) (hi : conc σ i = some I) (he : evIndex B t x i = some y) :
    Y P W σ w0 (Instr.index t V I) y [] := by
  unfold evIndex at he
  split at he
  · rename_i k n ti ht
    have hd := hB.under _ _ ht
    simp only [conc, Option.some.injEq] at hi
    subst hi
    split at he
    · rename_i len elem cells hti
      rw [hti] at hd
      simp only [conc, Option.map_eq_some_iff] at hx
      obtain ⟨us, hus, rfl⟩ := hx
      split at he
      · rename_i et het
        obtain ⟨j, z, hj, hs, _⟩ := hB.info _ _ het
        split at he
        · rename_i hn
          split at he
          · rename_i v l hr
            cases he
            rw [← hs] at hr
            obtain ⟨V', hV', hrun⟩ := run_part_row (hB.under _ _ het) hj hr hus
            refine Y.mk0 hV' fun w => ?_
            have h1 : (0 : Int) ≤ (n : Int) ∧ (n : Int) < (len : Int) := ⟨Int.natCast_nonneg n, by simpa using hn⟩
            simp only [Instr.index, asIntOf, Sem.run_bind, Sem.run_pure, Result.andThen_ok, run_underlying hd]
            simp only [Sem.run_ite, Sem.run_bind, run_sizeOf' hj, Result.andThen_ok, Int.ofNat_eq_natCast, Int.toNat_natCast]
            rw [if_pos h1]
            exact hrun w
          · cases he
        · cases he
      · cases he
    · rename_i l hti
      rw [hti] at hd
      simp only [conc, Option.some.injEq] at hx
      subst hx
      split at he
      · rename_i b r hb
        cases he
        refine Y.mk0 rfl fun w => ?_
        have h1 : l[n]? = some b := by
          have := congrArg (fun l : List UInt8 => l[0]?) hb
          simpa using this
        have h2 : n < l.length := (List.getElem?_eq_some_iff.1 h1).1
        have h3 : (⟨⟨l⟩⟩ : ByteArray)[n]? = some b := by
          rw [ByteArray.getElem?_lt' _ n (by simpa [ByteArray.size] using h2)]
          have : l[n] = b := (List.getElem?_eq_some_iff.1 h1).2
          simpa [ByteArray.getElem_eq_getElem_data] using this
        simp only [Instr.index, asIntOf, Sem.run_bind, Sem.run_pure, Result.andThen_ok, run_underlying hd]
        simp [h3]
      · cases he
    · cases he
  · cases he

end
end
end Go.Proofs.YtjmiaemabhlnjaaGreatDoor.Sym
