/-
  A run of a Go program over data that is known: new variables, rows, maps; copy; all operations that act, together.
-/
import Derived.Test.YtjmiaemabhlnjaaGreatDoorSym7
set_option linter.unusedVariables false
set_option linter.unusedSimpArgs false
namespace Go.Proofs.YtjmiaemabhlnjaaGreatDoor.Sym
open Go Go.RowKit
noncomputable section

section
variable {P : Program} {W : World} {σ : Env} {w : World}

def rep {α : Type} : Nat → List α → List α
  | 0, _ => []
  | n + 1, l => l ++ rep n l

theorem concL_rep {l : List SV} {vs : List Value} (h : concL σ l = some vs) : ∀ n, concL σ (rep n l) = some (rep n vs)
  | 0 => rfl
  | n + 1 => concL_append h (concL_rep h n)

theorem rep_length {α : Type} (l : List α) : ∀ n, (rep n l).length = n * l.length
  | 0 => by simp [rep]
  | n + 1 => by simp [rep, rep_length l n, Nat.add_mul]; omega

theorem rep_get {α : Type} (l : List α) : ∀ n i, i < n * l.length → (rep n l)[i]? = l[i % l.length]?
  | 0, i, h => by omega
  | n + 1, i, h => by
    simp only [rep]
    rcases Nat.lt_or_ge i l.length with hi | hi
    · rw [List.getElem?_append_left hi, Nat.mod_eq_of_lt hi]
    · rw [List.getElem?_append_right hi, rep_get l n (i - l.length) (by rw [Nat.add_mul] at h; omega)]
      congr 1
      exact (Nat.mod_eq_sub_mod hi).symm

theorem zeros_eq (z : Array Value) (n s : Nat) (hs : z.size = s) (h0 : 0 < s) : (Array.range (n * s)).map (z[· % z.size]!) = (rep n z.toList).toArray := by
  subst hs
  apply Array.ext'
  apply List.ext_getElem?
  intro i
  simp only [Array.toList_map, Array.toList_range, List.getElem?_map]
  rcases Nat.lt_or_ge i (n * z.size) with hi | hi
  · rw [List.getElem?_range hi, rep_get _ _ _ (by simpa using hi)]
    have hm : i % z.size < z.size := Nat.mod_lt _ h0
    simp [hm]
  · rw [List.getElem?_eq_none (by simpa using hi), List.getElem?_eq_none (by simp [rep_length]; exact hi)]
    rfl

/-! ### New variables -/

def evNew (h : Hp) (nx : Nat) (l : List SV) : SV × Hp × Nat := (.ptr nx 0, h.set nx (.row l none), nx + 1)

theorem evNew_ok {h : Hp} (H : HRel W σ h w) {l : List SV} {cs : Array Value} (el : TypeId) (hl : concL σ l = some cs.toList) :
    ∃ σ' w', σ.le σ' ∧ σ'.bl.length = σ.bl.length + 1 ∧ HRel W σ' (evNew h σ.bl.length l).2.1 w' ∧ ∃ V, conc σ' (evNew h σ.bl.length l).1 = some V ∧ (do pure (.pointer (some (← newRow el cs))) : Sem Value).run P w = .ok V w' := by
  have := H.row l cs.toList el hl
  refine ⟨_, _, snoc_le σ (w.heap.size, 0), by simp, this, .pointer (some ⟨w.heap.size, 0, none⟩), by simp [evNew, conc, snoc_get], ?_⟩
  simp [newRow]

def evBuildSlice (B : Tab) (h : Hp) (nx : Nat) (t : TypeId) (len : Nat) (parts : List (Nat × SV)) : Option (SV × Hp × Nat) :=
  match B.T t with
  | some ti => match ti.d with
    | .slice e => match B.T e with
      | some te => match len, parts with
        | 0, [] => some (.slice nx 0 te.size 0 (some 0), h.set nx (.row [] none), nx + 1)
        | _, _ => if Nat.beq te.zero.length te.size && Nat.ble 1 (len * te.size) && Nat.ble (len * te.size) 1000000 then
          match fillS (fun i => some (i * te.size, te.size)) (rep len te.zero) parts with
          | some r => some (.slice nx 0 te.size len (some len), h.set nx (.row r none), nx + 1)
          | none => none
        else none
      | none => none
    | _ => none
  | none => none

theorem evBuildSlice_ok {B : Tab} {h h' : Hp} {nx n' : Nat} {t : TypeId} {len : Nat} {parts : List (Nat × SV)} {vparts : Array (Nat × Value)} {y : SV} (hB : TabOk P W σ.op B) (H : HRel W σ h w) (hn : σ.bl.length = nx) (hl : parts.length = vparts.toList.length)
    (hp : ∀ (k : Nat) (p : Nat × SV) (q : Nat × Value), parts[k]? = some p → vparts.toList[k]? = some q → p.1 = q.1 ∧ conc σ p.2 = some q.2) (he : evBuildSlice B h nx t len parts = some (y, h', n')) :
    ∃ σ' w', σ.le σ' ∧ σ'.bl.length = n' ∧ HRel W σ' h' w' ∧ ∃ V, conc σ' y = some V ∧ (Instr.buildSlice t len vparts).run P w = .ok V w' := by
  subst hn
  unfold evBuildSlice at he
  split at he
  · rename_i ti hti
    have hd := hB.under _ _ hti
    split at he
    · rename_i e htd
      rw [htd] at hd
      split at he
      · rename_i te hte
        obtain ⟨i, z, hi, hsz, hby, hz, _, hzero⟩ := hB.info _ _ hte
        split at he
        · cases he
          have hv0 : vparts = #[] := by
            apply Array.ext'
            exact List.length_eq_zero_iff.1 hl.symm
          subst hv0
          refine ⟨_, _, snoc_le σ (w.heap.size, 0), by simp, H.row [] [] e rfl, .slice (some ⟨w.heap.size, 0, none⟩) 0 0, by simp [conc, snoc_get], ?_⟩
          have hz0 : ∀ f : Nat → Value, Array.map f (Array.range 0) = #[] := fun f => by apply Array.ext'; simp
          simp [Instr.buildSlice, run_underlying hd, run_sizeOf' hi, newRow, Instr.fill, hz0]
        split at he
        · rename_i hc
          simp only [Bool.and_eq_true] at hc
          have c1 := Nat.eq_of_beq_eq_true hc.1.1
          have c2 := Nat.le_of_ble_eq_true hc.1.2
          have c3 := Nat.le_of_ble_eq_true hc.2
          split at he
          · rename_i r hr
            cases he
            have hzs : z.cells.size = i.size := by
              have := concL_length (hzero σ)
              simp only [Array.length_toList] at this
              omega
            have hpos : 0 < te.size := Nat.pos_of_ne_zero fun h0 => by rw [h0] at c2; omega
            rw [← hsz] at hr c2 c3 hpos
            have hzz := zeros_eq z.cells len i.size hzs hpos
            obtain ⟨rs, f1, f2⟩ := fillS_ok (σ := σ) (place := fun j => some (j * i.size, i.size)) (cs := (Array.range (len * i.size)).map (z.cells[· % z.cells.size]!)) hl hp (by rw [hzz]; exact concL_rep (hzero σ) len) hr
            have hrun := run_buildSlice (P := P) w t e len vparts rs i z hd hi hz (by omega) (by omega) f2
            refine ⟨_, _, snoc_le σ (w.heap.size, 0), by simp, ?_, .slice (some ⟨w.heap.size, 0, none⟩) len len, by simp [conc, snoc_get], hrun⟩
            have := H.row r rs.toList e f1
            simpa using this
          · cases he
        · cases he
      · cases he
    · cases he
  · cases he

def evMakeSlice (B : Tab) (h : Hp) (nx : Nat) (t : TypeId) (len cap : SV) : Option (SV × Hp × Nat) :=
  match len, cap, B.T t with
  | .int _ (.ofNat l), .int _ (.ofNat c), some ti => match ti.d with
    | .slice e => match B.T e with
      | some te => if Nat.beq te.zero.length te.size && Nat.ble 1 te.size && Nat.ble l c && Nat.ble (te.bytes * c) 1000000000 && Nat.ble c 1000000 && Nat.ble 1 c then
          some (.slice nx 0 te.size l (some c), h.set nx (.row (rep c te.zero) none), nx + 1)
        else none
      | none => none
    | _ => none
  | _, _, _ => none

theorem wrap_small {n : Nat} (h : n ≤ 1000000) : IntKind.i64.wrap (n : Int) = n := by
  have h1 : (n : Int) % (2 ^ IntKind.i64.bits : Int) = n := by
    show (n : Int) % 18446744073709551616 = n
    omega
  have h2 : ¬ ((n : Int) ≥ (2 ^ (IntKind.i64.bits - 1) : Int)) := by
    show ¬ ((n : Int) ≥ 9223372036854775808)
    omega
  unfold IntKind.wrap
  simp only [h1]
  rw [if_neg]
  simp only [Bool.and_eq_true, decide_eq_true_eq]
  exact fun h => h2 h.2

theorem evMakeSlice_ok {B : Tab} {h h' : Hp} {nx n' : Nat} {t : TypeId} {len cap : SV} {L C : Value} {y : SV} (hB : TabOk P W σ.op B) (H : HRel W σ h w) (hn : σ.bl.length = nx) (hl : conc σ len = some L) (hc : conc σ cap = some C)
    (he : evMakeSlice B h nx t len cap = some (y, h', n')) :
    ∃ σ' w', σ.le σ' ∧ σ'.bl.length = n' ∧ HRel W σ' h' w' ∧ ∃ V, conc σ' y = some V ∧ (Instr.makeSlice t L C).run P w = .ok V w' := by
  subst hn
  unfold evMakeSlice at he
  split at he
  · rename_i k1 l k2 c ti hti
    have hd := hB.under _ _ hti
    simp only [conc, Option.some.injEq] at hl hc
    subst hl
    subst hc
    split at he
    · rename_i e htd
      rw [htd] at hd
      split at he
      · rename_i te hte
        obtain ⟨i, z, hi, hsz, hby, hz, _, hzero⟩ := hB.info _ _ hte
        split at he
        · rename_i hcc
          simp only [Bool.and_eq_true] at hcc
          have c1 := Nat.eq_of_beq_eq_true hcc.1.1.1.1.1
          have c2 := Nat.le_of_ble_eq_true hcc.1.1.1.1.2
          have c3 := Nat.le_of_ble_eq_true hcc.1.1.1.2
          have c4 := Nat.le_of_ble_eq_true hcc.1.1.2
          have c5 := Nat.le_of_ble_eq_true hcc.1.2
          have c6 := Nat.le_of_ble_eq_true hcc.2
          cases he
          have hzs : z.cells.size = i.size := by
            have := concL_length (hzero σ)
            simp only [Array.length_toList] at this
            omega
          have hzz := zeros_eq z.cells c i.size hzs (by omega)
          have hw1 : IntKind.i64.wrap (Int.ofNat l) = l := wrap_small (by omega)
          have hw2 : IntKind.i64.wrap (Int.ofNat c) = c := wrap_small c5
          refine ⟨_, w.alloc (.cells (rep c z.cells.toList).toArray e), snoc_le σ (w.heap.size, 0), by simp, ?_, .slice (some ⟨w.heap.size, 0, none⟩) l c, by simp [conc, snoc_get], ?_⟩
          · exact H.row (rep c te.zero) (rep c z.cells.toList) e (concL_rep (hzero σ) c)
          · have hbig : ¬ ((i.bytes : Int) * (c : Int) > 2 ^ 48) := by
              rw [hby]
              have := Int.ofNat_le.2 c4
              rw [Int.natCast_mul] at this
              omega
            simp only [Instr.makeSlice, Sem.run_bind, run_underlying hd, Result.andThen_ok, asInt, asIntOf, Sem.run_pure, run_typeInfo' hi, hw1, hw2]
            have t1 : (decide ((c : Int) < 0) || decide ((i.bytes : Int) * (c : Int) > 2 ^ 48)) = false := by
              simp only [Bool.or_eq_false_iff, decide_eq_false_iff_not]
              exact ⟨by omega, hbig⟩
            rw [t1]
            have t2 : (false || decide ((l : Int) < 0) || decide ((l : Int) > (c : Int))) = false := by
              rw [decide_eq_false (by omega), decide_eq_false (by omega)]
              rfl
            simp only [t2, Bool.false_eq_true, if_false, Sem.run_bind, run_askRoom, Result.andThen_ok, run_sizeOf' hi, Int.toNat_natCast]
            have h0 : ¬ c * i.size = 0 := by
              intro h
              rcases Nat.mul_eq_zero.1 h with h | h <;> omega
            simp only [h0, if_false, Sem.run_bind, run_zeroValue' hi hz, Result.andThen_ok, Sem.run_pure, newRow, run_newObj]
            rw [hzz]
            rfl
        · cases he
      · cases he
    · cases he
  · cases he

/-! ### Maps whose keys are integers -/

def noKey (k : IntKind) (a : Int) : List (SV × SV) → Bool
  | [] => true
  | (.int j b, _) :: l => if k = j then (if a = b then false else noKey k a l) else false
  | _ => false

theorem entsOf_snoc : ∀ {l : List (SV × SV)} {n : Nat} {es : List MapEntry} {k v : SV} {K V : Value}, entsOf σ l n = some es → conc σ k = some K → conc σ v = some V → entsOf σ (l ++ [(k, v)]) n = some (es ++ [⟨K, V, n + l.length⟩])
  | [], n, es, k, v, K, V, h, hk, hv => by
    simp only [entsOf, Option.some.injEq] at h
    subst h
    simp [entsOf, hk, hv]
  | (k0, v0) :: l, n, es, k, v, K, V, h, hk, hv => by
    simp only [entsOf, Option.bind_eq_some_iff, Option.map_eq_some_iff] at h
    obtain ⟨k1, hk1, v1, hv1, es1, hes1, rfl⟩ := h
    have := entsOf_snoc hes1 hk hv
    simp only [List.cons_append, entsOf, hk1, hv1, Option.bind_some, this, Option.map_some, List.length_cons, Option.some.injEq]
    simp
    omega

theorem findNow_noKey {d : TypeDesc} (k' : IntKind) (hd : d = .int k') {k : IntKind} {a : Int} : ∀ {l : List (SV × SV)} {n i : Nat} {es : List MapEntry}, entsOf σ l n = some es → noKey k a l = true → Instr.findNow d (.int k a) es i = some none
  | [], n, i, es, h, _ => by
    simp only [entsOf, Option.some.injEq] at h
    subst h
    rfl
  | (x, v) :: l, n, i, es, h, hk => by
    simp only [entsOf, Option.bind_eq_some_iff, Option.map_eq_some_iff] at h
    obtain ⟨k1, hk1, v1, hv1, es1, hes1, rfl⟩ := h
    subst hd
    unfold noKey at hk
    split at hk
    · rename_i heq; cases heq
    · rename_i j b v' l' heq
      cases heq
      simp only [conc, Option.some.injEq] at hk1
      subst hk1
      split at hk
      · rename_i hj
        subst hj
        split at hk
        · cases hk
        · rename_i hab
          have : (a == b) = false := by simpa using hab
          simp only [Instr.findNow, Instr.sameNow, if_true, this]
          exact findNow_noKey k' rfl hes1 hk
      · cases hk
    · cases hk

def evInsert (B : Tab) (h : Hp) (t : TypeId) (m k v : SV) : Option Hp :=
  match m, k, B.T t with
  | .map id, .int j a, some ti => match ti.d with
    | .map kt _ => match B.T kt with
      | some tk => match tk.d with
        | .int _ => match h.get id with
          | some (.map ents) => if noKey j a ents then some (h.set id (.map (ents ++ [(.int j a, v)]))) else none
          | _ => none
        | _ => none
      | none => none
    | _ => none
  | _, _, _ => none

theorem evInsert_ok {B : Tab} {h h' : Hp} {t : TypeId} {m k v : SV} {M K V : Value} (hB : TabOk P W σ.op B) (H : HRel W σ h w) (hm : conc σ m = some M) (hk : conc σ k = some K) (hv : conc σ v = some V)
    (he : evInsert B h t m k v = some h') : ∃ w', (Instr.mapUpdate t M K V).run P w = .ok () w' ∧ HRel W σ h' w' := by
  unfold evInsert at he
  split at he
  · rename_i id j a ti hti
    have hd := hB.under _ _ hti
    split at he
    · rename_i kt vt htd
      rw [htd] at hd
      split at he
      · rename_i tk htk
        have hkd := hB.under _ _ htk
        split at he
        · rename_i kk hkk
          rw [hkk] at hkd
          split at he
          · rename_i ents ho
            split at he
            · rename_i hno
              cases he
              obtain ⟨b, K0, es, h1, h2, h3⟩ := H.obj id _ ho
              simp only [conc, h1, Option.map_some, Option.some.injEq] at hm hk
              subst hm
              subst hk
              refine ⟨{ w with heap := w.heap.setIfInBounds b (.map (es.toArray.push { key := .int j a, val := V, born := ents.length }) (ents.length + 1)) }, ?_, ?_⟩
              · have hfind := findNow_noKey (i := 0) kk rfl h3 hno
                have hck : ∀ n, (Instr.checkKey false (n + 1) kt (.int j a)).run P w = .ok () w := by
                  intro n
                  simp [Instr.checkKey, run_underlying hkd]
                have hck' := hck 9999
                simp only [Instr.mapUpdate, Sem.run_bind, run_underlying hd, Result.andThen_ok]
                have hg : (getObj b).run P w = .ok (.map es.toArray ents.length) w := by
                  simp [getObj, Sem.run, h2]
                rw [hg]
                simp only [Result.andThen_ok, Sem.run_bind]
                rw [show (10000 : Nat) = 9999 + 1 from rfl, hck']
                simp only [Result.andThen_ok, Instr.findKey, Sem.run_bind, run_underlying hkd, hfind, Sem.run_pure]
                simp [setObj, Sem.run, h2]
              · have hlt := (Array.getElem?_eq_some_iff.1 h2).1
                have hW := H.own id _ b K0 ho h1
                refine H.turn ho h1 ⟨rfl, rfl, rfl, by simp, fun k hk => ?_⟩ (fun k hk => ?_) ?_
                · simp only [Array.getElem?_setIfInBounds]
                  rw [if_neg (by omega)]
                · simp only [Array.getElem?_setIfInBounds]
                  rw [if_neg (Ne.symm hk)]
                · refine ⟨b, K0, es ++ [⟨.int j a, V, 0 + ents.length⟩], h1, ?_, entsOf_snoc h3 rfl hv⟩
                  simp [hlt]
            · cases he
          · cases he
        · cases he
      · cases he
    · cases he
  · cases he

/-! ### Copies -/

def evCopy (B : Tab) (h : Hp) (t : TypeId) (d s : SV) : Option (SV × Hp) :=
  match B.T t with
  | some ti => match ti.d with
    | .slice e => match B.T e with
      | some te => match sliceCells h te.size s, d with
        | some (n, l), .slice id off es len _ => if Nat.beq es te.size then match h.get id with
            | some (.row cells op) =>
              let m := Nat.min n len
              let l' := l.take (m * es)
              if l'.all SV.one && Nat.ble (off * es + l'.length) cells.length then some (.int .i64 m, h.set id (.row (setRange cells (off * es) l') op)) else none
            | _ => none
          else none
        | _, _ => none
      | none => none
    | _ => none
  | none => none

theorem evCopy_ok {B : Tab} {h h' : Hp} {t u ty : TypeId} {d s y : SV} {D S : Value} (hB : TabOk P W σ.op B) (H : HRel W σ h w) (hd : conc σ d = some D) (hs : conc σ s = some S) (he : evCopy B h t d s = some (y, h')) :
    ∃ w' V, conc σ y = some V ∧ HRel W σ h' w' ∧ (Builtin.copy_ #[t, u] ty #[D, S]).run P w = .ok V w' := by
  unfold evCopy at he
  split at he
  · rename_i ti hti
    have htd' := hB.under _ _ hti
    split at he
    · rename_i e htd
      rw [htd] at htd'
      split at he
      · rename_i te hte
        obtain ⟨i, z, hi, hsz, hby, hz, _, hzero⟩ := hB.info _ _ hte
        split at he
        · rename_i n l id off es len cap hsl
          obtain ⟨xb, xc, vl, rfl, hvl, hvlen, hfirst, hnone, hcells⟩ := sliceCells_ok (P := P) H hs hsl
          split at he
          · rename_i hes
            have hes := Nat.eq_of_beq_eq_true hes
            split at he
            · rename_i cells op ho
              simp only at he
              split at he
              · rename_i hc
                simp only [Bool.and_eq_true] at hc
                have hle := Nat.le_of_ble_eq_true hc.2
                cases he
                obtain ⟨b, K, w', g1, g2, g3⟩ := H.write (P := P) ho (off := off * es) (concL_take (Nat.min n len * es) hvl) hc.1 hle
                simp only [conc, g1, Option.map_some, Option.some.injEq] at hd
                subst hd
                refine ⟨w', .int .i64 (Nat.min n len), rfl, g3, ?_⟩
                have hf := hfirst w (fun k _ => rfl) (Nat.min n len) (Nat.min_le_left _ _)
                rw [← hes] at hf
                have hst := g2 0 (Nat.zero_le _)
                rw [Nat.sub_zero] at hst
                have hsz' : i.size = es := by omega
                simp only [Builtin.copy_, List.getElem?_toArray, List.getElem?_cons_zero, List.getElem?_cons_succ, Sem.run_bind, run_underlying htd', Result.andThen_ok, Builtin.lenOf, Sem.run_pure, run_sizeOf' hi, hsz']
                rw [hf]
                simp only [Result.andThen_ok, Sem.run_bind]
                rw [hst]
                simp [goInt]
              · cases he
            · cases he
          · cases he
        · cases he
      · cases he
    · cases he
  · cases he

end
end
end Go.Proofs.YtjmiaemabhlnjaaGreatDoor.Sym
