/-
  The evaluator's tables for this program: types, functions, what has no body.
-/
import Derived.Test.YtjmiaemabhlnjaaGreatDoorSym11
import Derived.Test.YtjmiaemabhlnjaaGreatDoorProg
import Derived.Lib.Bytealg
import Derived.KernelRfl
set_option linter.unusedVariables false
set_option linter.unusedSimpArgs false
set_option maxRecDepth 100000
namespace Go.Proofs.YtjmiaemabhlnjaaGreatDoor.Sym
open Go Go.RowKit
noncomputable section

noncomputable def tiOf (p : Program) (t : Nat) : Option TI :=
  match p.info? t, p.underlying t with
  | some i, some d => match i.zero with
    | some z => match ofVL z.cells.toList with
      | some l => some { d, size := i.size, bytes := i.bytes, zero := l, cmp := i.comparable }
      | none => none
    | none => none
  | _, _ => none

theorem tiOf_ok {p : Program} {t : Nat} {ti : TI} (h : tiOf p t = some ti) : p.underlying t = some ti.d ∧ ∃ i z, p.info? t = some i ∧ i.size = ti.size ∧ i.bytes = ti.bytes ∧ i.zero = some z ∧ i.comparable = ti.cmp ∧ ∀ σ, concL σ ti.zero = some z.cells.toList := by
  unfold tiOf at h
  split at h
  · rename_i i d hi hd
    split at h
    · rename_i z hz
      split at h
      · rename_i l hl
        cases h
        exact ⟨hd, i, z, hi, rfl, rfl, hz, rfl, fun σ => ofVL_conc hl⟩
      · cases h
    · cases h
  · cases h

/-- Structs that are compared: values, instructions. -/
noncomputable def eqT (t : Nat) : Option (List Nat) :=
  if Nat.beq t 103 then some [0, 0] else if Nat.beq t 72 then some [0, 0, 0, 0, 0, 0, 1] else none

/-- 'strconv.ErrSyntax' is whatever it is. -/
noncomputable def tabT : Tab := ⟨tiOf Tryz.prog, fun g => if Nat.beq g 4 then some [.opq 0] else none, eqT⟩

theorem eqT_ok (t : Nat) (l : List Nat) (h : eqT t = some l) : ∃ fs, Tryz.prog.underlying t = some (.struct fs) ∧ Tryz.prog.stoodInHeld t = false ∧ Tryz.prog.eqGuardType Tryz.prog.depth t = false ∧ fs.size = l.length ∧
    ∀ (i : Nat) (f : Field), fs[i]? = some f → f.name ≠ "_" ∧ f.offset = i ∧ ∃ k, l[i]? = some k ∧ kindIs Tryz.prog f.type k := by
  unfold eqT at h
  split at h
  · rename_i ht
    have ht := Nat.eq_of_beq_eq_true ht
    subst ht
    cases h
    refine ⟨_, Tryz.underlying103, Tryz.stoodInHeld103, Tryz.eqGuardType103, rfl, fun i f hf => ?_⟩
    match i with
    | 0 => simp at hf; subst hf; exact ⟨by simp, rfl, 0, rfl, .u32, by simp⟩
    | 1 => simp at hf; subst hf; exact ⟨by simp, rfl, 0, rfl, .i64, by simp⟩
    | i + 2 => simp at hf
  · split at h
    · rename_i ht
      have ht := Nat.eq_of_beq_eq_true ht
      subst ht
      cases h
      refine ⟨_, Tryz.underlying72, Tryz.stoodInHeld72, Tryz.eqGuardType72, rfl, fun i f hf => ?_⟩
      match i with
      | 0 => simp at hf; subst hf; exact ⟨by simp, rfl, 0, rfl, .i64, by simp⟩
      | 1 => simp at hf; subst hf; exact ⟨by simp, rfl, 0, rfl, .i64, by simp⟩
      | 2 => simp at hf; subst hf; exact ⟨by simp, rfl, 0, rfl, .i64, by simp⟩
      | 3 => simp at hf; subst hf; exact ⟨by simp, rfl, 0, rfl, .i64, by simp⟩
      | 4 => simp at hf; subst hf; exact ⟨by simp, rfl, 0, rfl, .i64, by simp⟩
      | 5 => simp at hf; subst hf; exact ⟨by simp, rfl, 0, rfl, .i64, by simp⟩
      | 6 => simp at hf; subst hf; exact ⟨by simp, rfl, 1, rfl, by simp [kindIs]⟩
      | i + 7 => simp at hf
    · cases h

theorem tabT_ok (W : World) (E : Value) (h1 : E.oneCell' = true) (hE : W.cell? ⟨4, 0, none⟩ = some E) : TabOk Tryz.prog W [E] tabT := by
  refine ⟨fun t ti h => (tiOf_ok h).1, fun t ti h => (tiOf_ok h).2, fun g l h => ?_, eqT_ok⟩
  simp only [tabT] at h
  split at h
  · rename_i hg
    have hg := Nat.eq_of_beq_eq_true hg
    subst hg
    cases h
    refine ⟨[E], fun σ hσ => ?_, fun j v hv => ?_⟩
    · simp [concL, conc, hσ, h1]
    · cases j with
      | zero => simp at hv; subst hv; exact hE
      | succ j => simp at hv
  · cases h

/-! ### Functions -/

theorem names : (Tryz.prog.funcs.all fun fn => !(fn.name == "runtime.NumGoroutine")) = true := by kernel_rfl

noncomputable def cntI (c : Nat) : List UInt8 → Nat → Nat
  | [], n => n
  | a :: l, n => cntI c l (if Nat.beq a.toNat c then n + 1 else n)

noncomputable def idxI (c : Nat) : List UInt8 → Nat → Option Nat
  | [], _ => none
  | a :: l, i => if Nat.beq a.toNat c then some i else idxI c l (i + 1)

noncomputable def xCnt : List SV → Option SV
  | [.str s, .int .u8 (.ofNat c)] => if Nat.ble c 255 then some (.int .i64 (.ofNat (cntI c s 0))) else none
  | _ => none

noncomputable def xIdx : List SV → Option SV
  | [.str s, .int .u8 (.ofNat c)] => if Nat.ble c 255 then (match idxI c s 0 with | some i => some (.int .i64 (.ofNat i)) | none => some (.int .i64 (-1))) else none
  | _ => none

noncomputable def xT (k : Nat) (xs : List SV) : Option SV :=
  if Nat.beq k 169 then xCnt xs else if Nat.beq k 207 then xIdx xs else none

theorem byte_eq {a : UInt8} {c : Nat} (hc : c ≤ 255) : (a == c.toUInt8) = Nat.beq a.toNat c := by
  have h1 : c.toUInt8.toNat = c := by
    show c % 256 = c
    omega
  cases hb : Nat.beq a.toNat c with
  | true =>
    have := Nat.eq_of_beq_eq_true hb
    rw [← h1] at this
    simpa using UInt8.toNat_inj.1 this
  | false =>
    have := Nat.ne_of_beq_eq_false hb
    simp only [beq_eq_false_iff_ne, ne_eq]
    intro e
    apply this
    rw [e, h1]

theorem cnt_eq {c : Nat} (hc : c ≤ 255) : ∀ (l : List UInt8) (n : Nat), cntI c l n = n + Lib.countByte l c.toUInt8
  | [], n => rfl
  | a :: l, n => by
    simp only [cntI, cnt_eq hc l, Lib.countByte, List.count_cons, byte_eq hc]
    cases Nat.beq a.toNat c <;> simp <;> omega

theorem idx_eq {c : Nat} (hc : c ≤ 255) (s : List UInt8) : ∀ (k : Nat), k ≤ s.length → ((List.range' k (s.length - k)).find? fun i => (⟨⟨s⟩⟩ : ByteArray)[i]! == c.toUInt8) = idxI c (s.drop k) k := by
  intro k hk
  induction hn : s.length - k generalizing k with
  | zero =>
    have : s.drop k = [] := by simp; omega
    rw [this]
    rfl
  | succ n ih =>
    have hlt : k < s.length := by omega
    rw [List.drop_eq_getElem_cons hlt, List.range'_succ, List.find?_cons]
    have hget : (⟨⟨s⟩⟩ : ByteArray)[k]! = s[k] := by
      have hsz : k < (⟨⟨s⟩⟩ : ByteArray).size := hlt
      rw [getElem!_pos (⟨⟨s⟩⟩ : ByteArray) k hsz]
      rfl
    rw [hget, byte_eq hc]
    simp only [idxI]
    cases Nat.beq s[k].toNat c with
    | true => rfl
    | false => simpa using ih (k + 1) (by omega) (by omega)

theorem xT_ok (f : Nat) (xs : List SV) (v : SV) (h : xT f xs = some v) (σ : Env) (vs : List Value) (hx : concL σ xs = some vs) : ∃ V, conc σ v = some V ∧ ∀ w, (callFunc f vs.toArray).run Tryz.prog w = .ok (.value V) w := by
  unfold xT at h
  split at h
  · rename_i hf
    have hf := Nat.eq_of_beq_eq_true hf
    subst hf
    unfold xCnt at h
    split at h
    · rename_i s c
      split at h
      · rename_i hc
        have hc := Nat.le_of_ble_eq_true hc
        cases h
        simp only [concL, conc, Option.bind_some, Option.map_some, Option.some.injEq] at hx
        subst hx
        refine ⟨_, rfl, fun w => ?_⟩
        rw [run_callFunc_extern Tryz.func169 (by kernel_rfl) (by kernel_rfl) (by kernel_rfl) (show Extern.find Tryz.f169 = some Extern.BytealgCount.count by kernel_rfl)]
        have : (Extern.BytealgCount.count #[.string ⟨⟨s⟩⟩, .int .u8 (Int.ofNat c)]).run Tryz.prog w = .ok (.int .i64 (.ofNat (cntI c s 0))) w := by
          rw [Lib.run_countString, cnt_eq hc, Nat.zero_add]
          rfl
        show ((Extern.BytealgCount.count #[.string ⟨⟨s⟩⟩, .int .u8 (Int.ofNat c)]).run Tryz.prog w).andThen _ = _
        rw [this]
        rfl
      · cases h
    · cases h
  · split at h
    · rename_i hf
      have hf := Nat.eq_of_beq_eq_true hf
      subst hf
      unfold xIdx at h
      split at h
      · rename_i s c
        split at h
        · rename_i hc
          have hc := Nat.le_of_ble_eq_true hc
          simp only [concL, conc, Option.bind_some, Option.map_some, Option.some.injEq] at hx
          subst hx
          have hrun : ∀ w, (callFunc 207 #[.string ⟨⟨s⟩⟩, .int .u8 (Int.ofNat c)]).run Tryz.prog w = .ok (.value (.int .i64 (firstIdx ⟨⟨s⟩⟩ c.toUInt8))) w := by
            intro w
            rw [run_callFunc_extern Tryz.func207 (by kernel_rfl) (by kernel_rfl) (by kernel_rfl) (show Extern.find Tryz.f207 = some Extern.BytealgIndexByte.indexByte by kernel_rfl)]
            rw [run_indexByte_string]
            rfl
          have hfi : firstIdx ⟨⟨s⟩⟩ c.toUInt8 = match idxI c s 0 with | some i => (i : Int) | none => -1 := by
            unfold firstIdx
            have := idx_eq hc s 0 (Nat.zero_le _)
            rw [List.drop_zero, Nat.sub_zero] at this
            rw [List.range_eq_range', show (⟨⟨s⟩⟩ : ByteArray).size = s.length from rfl, this]
            cases idxI c s 0 <;> rfl
          split at h
          · rename_i i hi
            cases h
            rw [hi] at hfi
            exact ⟨_, rfl, fun w => (hrun w).trans (by rw [hfi]; rfl)⟩
          · rename_i hi
            cases h
            rw [hi] at hfi
            exact ⟨_, rfl, fun w => (hrun w).trans (by rw [hfi])⟩
        · cases h
      · cases h
    · cases h

noncomputable def fnsT (O : Nat → List SV → Option SV) : Fns := ⟨fun f => Tryz.prog.funcs[f]?, O, xT⟩

theorem fnsT_ok {W : World} {op : List Value} {O : Nat → List SV → Option SV}
    (hO : ∀ f xs v, O f xs = some v → ∀ (σ : Env) vs, σ.op = op → concL σ xs = some vs → ∃ fn V, Tryz.prog.funcs[f]? = some fn ∧ fn.body.isSome = true ∧ conc σ v = some V ∧
      ∀ w, Below W.heap.size W w → Calls Tryz.prog f vs.toArray w fun e w' => e = .returned V ∧ Below w.heap.size w w') : FnsOk Tryz.prog W op (fnsT O) := by
  have hn : ∀ (f : Nat) (fn : Func), Tryz.prog.funcs[f]? = some fn → (fn.name == "runtime.NumGoroutine") = false := by
    intro f fn hf
    have h1 : (!(fn.name == "runtime.NumGoroutine")) = true := Array.all_eq_true_iff_forall_mem.1 names fn (Array.mem_of_getElem? hf)
    cases h2 : (fn.name == "runtime.NumGoroutine") with
    | false => rfl
    | true => rw [h2] at h1; cases h1
  refine ⟨fun f fn h => ⟨h, hn f fn h⟩, fun f xs v h σ vs ho hx => ?_, fun f xs v h σ vs _ hx => xT_ok f xs v h σ vs hx⟩
  obtain ⟨fn, V, h1, h2, h3, h4⟩ := hO f xs v h σ vs ho hx
  exact ⟨fn, V, h1, hn f fn h1, h2, h3, h4⟩

end
end Go.Proofs.YtjmiaemabhlnjaaGreatDoor.Sym
