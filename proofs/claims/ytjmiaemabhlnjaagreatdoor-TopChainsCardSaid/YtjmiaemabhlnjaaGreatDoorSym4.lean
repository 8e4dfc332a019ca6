/-
  A run of a Go program over data that is known: comparisons, arithmetic, conversions, lengths; and all operations that change nothing, together.
-/
import Derived.Test.YtjmiaemabhlnjaaGreatDoorSym3
set_option linter.unusedVariables false
set_option linter.unusedSimpArgs false
namespace Go.Proofs.YtjmiaemabhlnjaaGreatDoor.Sym
open Go Go.RowKit
noncomputable section

section
variable {P : Program} {W : World} {σ : Env} {w0 : World}

/-! ### Arithmetic -/

def pureS (s : Sem Value) : Option SV :=
  match s with
  | .pure v => ofV1 v
  | _ => none

theorem pureS_ok {s : Sem Value} {x : SV} (h : pureS s = some x) : Y P W σ w0 s x [] := by
  unfold pureS at h
  split at h
  · exact Y.mk0 (ofV1_conc h) fun w => rfl
  · cases h

def eqB : List UInt8 → List UInt8 → Bool
  | [], [] => true
  | a :: x, b :: y => Nat.beq a.toNat b.toNat && eqB x y
  | _, _ => false

theorem eqB_iff : ∀ {a b : List UInt8}, eqB a b = decide (a = b)
  | [], [] => by simp [eqB]
  | [], b :: y => by simp [eqB]
  | a :: x, [] => by simp [eqB]
  | a :: x, b :: y => by
    simp only [eqB, eqB_iff (a := x) (b := y), List.cons.injEq]
    by_cases h : a = b
    · subst h; simp
    · have : Nat.beq a.toNat b.toNat = false := by
        cases hb : Nat.beq a.toNat b.toNat with
        | false => rfl
        | true => exact absurd (UInt8.toNat_inj.1 (Nat.eq_of_beq_eq_true hb)) h
      simp [this, h]

theorem beqL (a b : List UInt8) : (a == b) = decide (a = b) := by by_cases h : a = b <;> simp [h]

def eqCells : List SV → List SV → List Nat → Option Bool
  | [], [], [] => some true
  | a :: x, b :: y, k :: l =>
    match k, a, b with
    | 0, .int j m, .int j' n => if j = j' then (if m = n then eqCells x y l else some false) else none
    | 1, .bool m, .bool n => if m = n then eqCells x y l else some false
    | 2, .str m, .str n => if eqB m n then eqCells x y l else some false
    | _, _, _ => none
  | _, _, _ => none

def evEq (B : Tab) (t : TypeId) (c : Bool) (x y : SV) : Option Bool :=
  match B.T t with
  | none => none
  | some ti =>
    match ti.d, x, y with
    | .bool, .bool a, .bool b => some (a == b)
    | .pointer _, .nilp, .nilp => some true
    | .pointer _, .nilp, .ptr _ _ => some false
    | .pointer _, .ptr _ _, .nilp => some false
    | .pointer _, .nilp, .glob _ _ => some false
    | .pointer _, .glob _ _, .nilp => some false
    | .slice _, .nils, .nils => some true
    | .slice _, .nils, .slice _ _ _ _ _ => some false
    | .slice _, .slice _ _ _ _ _, .nils => some false
    | .func _ _ _, .nilf, .nilf => some true
    | .func _ _ _, .func _ _ _, .nilf => some false
    | .interface _, .nili, .nili => if c then some true else none
    | .interface _, .nili, .iface _ _ => some false
    | .interface _, .iface _ _, .nili => some false
    | .interface _, .iface t1 v1, .iface t2 v2 =>
      if t1 = t2 then match B.T t1 with
        | some t => match t.d, t.cmp, v1, v2 with
          | .int _, true, .int k a, .int k' b => if k = k' then some (a == b) else none
          | _, _, _, _ => none
        | none => none
      else some false
    | .struct _, .agg a, .agg b => match B.E t with
      | some l => eqCells a b l
      | none => none
    | _, _, _ => none

theorem eqCells_ok {fs : List Field} {l : List Nat} {off : Nat} (hl : fs.length = l.length) (hf : ∀ (i : Nat) (f : Field), fs[i]? = some f → f.name ≠ "_" ∧ f.offset = off + i ∧ ∃ k, l[i]? = some k ∧ kindIs P f.type k)
    {a b : List SV} {va vb xs ys : List Value} (ha : concL σ a = some va) (hb : concL σ b = some vb) (hxs : ∀ j, xs[off + j]? = va[j]?) (hys : ∀ j, ys[off + j]? = vb[j]?)
    {r : Bool} (he : eqCells a b l = some r) (d : Nat) (w : World) : (Op.eqFields (d + 1) xs.toArray ys.toArray fs).run P w = .ok r w := by
  induction fs generalizing l off a b va vb with
  | nil =>
    have : l = [] := List.length_eq_zero_iff.1 hl.symm
    subst this
    unfold eqCells at he
    split at he
    · cases he; rfl
    · rename_i h; cases h
    · cases he
  | cons f fs ih =>
    cases l with
    | nil => simp at hl
    | cons k l =>
      obtain ⟨hn, ho, k', hk', hkind⟩ := hf 0 f rfl
      simp only [List.getElem?_cons_zero, Option.some.injEq] at hk'
      subst hk'
      cases a with
      | nil => simp [eqCells] at he
      | cons x a =>
        cases b with
        | nil => simp [eqCells] at he
        | cons y b =>
          obtain ⟨vx, va', hx, ha', rfl⟩ := concL_cons ha
          obtain ⟨vy, vb', hy, hb', rfl⟩ := concL_cons hb
          have e1 : xs[off]? = some vx := by have := hxs 0; simpa using this
          have e2 : ys[off]? = some vy := by have := hys 0; simpa using this
          have rest : eqCells a b l = some r → (Op.eqFields (d + 1) xs.toArray ys.toArray fs).run P w = .ok r w := fun h =>
            ih (l := l) (off := off + 1) (by simpa using hl) (fun i f hi => by
                obtain ⟨h1, h2, h3⟩ := hf (i + 1) f (by simpa using hi)
                exact ⟨h1, by omega, by simpa using h3⟩)
              ha' hb' (fun j => by have := hxs (j + 1); simpa [Nat.add_assoc, Nat.add_comm 1 j] using this) (fun j => by have := hys (j + 1); simpa [Nat.add_assoc, Nat.add_comm 1 j] using this) h
          have part1 : ∀ (zs : List Value) (v : Value), zs[off]? = some v → ∀ (dd : TypeDesc), P.underlying f.type = some dd → isAggD dd = false → (part f.type zs.toArray f.offset).run P w = .ok v w := by
            intro zs v hz dd hd hag
            rw [ho, Nat.add_zero]
            simp only [part, Sem.run_bind, run_isAgg hd, hag, Result.andThen_ok, Bool.false_eq_true, if_false, List.getElem?_toArray, hz, Sem.run_pure]
          simp only [Op.eqFields, hn, ne_eq, not_false_eq_true, if_true, Sem.run_bind]
          unfold eqCells at he
          split at he
          · rename_i j m j' n
            simp only [conc, Option.some.injEq] at hx hy
            subst hx
            subst hy
            obtain ⟨kk, hkk⟩ := hkind
            rw [part1 xs _ e1 _ hkk rfl, Result.andThen_ok, part1 ys _ e2 _ hkk rfl, Result.andThen_ok]
            split at he
            · rename_i hj
              subst hj
              rw [run_equalIn_int w d f.type j kk m n hkk, Result.andThen_ok]
              split at he
              · rename_i hm
                subst hm
                simpa using rest he
              · rename_i hm
                cases he
                have : (m == n) = false := by simpa using hm
                simp [this]
            · cases he
          · rename_i m n
            simp only [conc, Option.some.injEq] at hx hy
            subst hx
            subst hy
            have hkk : P.underlying f.type = some .bool := hkind
            rw [part1 xs _ e1 _ hkk rfl, Result.andThen_ok, part1 ys _ e2 _ hkk rfl, Result.andThen_ok]
            rw [run_equalIn_bool' w d f.type m n hkk, Result.andThen_ok]
            split at he
            · rename_i hm
              subst hm
              simpa using rest he
            · rename_i hm
              cases he
              have : (m == n) = false := by simpa using hm
              simp [this]
          · rename_i m n
            simp only [conc, Option.some.injEq] at hx hy
            subst hx
            subst hy
            have hkk : P.underlying f.type = some .string := hkind
            rw [part1 xs _ e1 _ hkk rfl, Result.andThen_ok, part1 ys _ e2 _ hkk rfl, Result.andThen_ok]
            rw [run_equalIn_string w d f.type _ _ hkk, Result.andThen_ok]
            rw [ByteArray.toList_mk, ByteArray.toList_mk]
            rw [eqB_iff] at he
            split at he
            · rename_i hm
              have hm : m = n := by simpa using hm
              subst hm
              simpa using rest he
            · rename_i hm
              cases he
              have : (m == n) = false := by simpa using hm
              simp [this]
          · cases he

theorem evEq_ok {B : Tab} {t : TypeId} {c : Bool} {x y : SV} {V U : Value} {b : Bool} (hB : TabOk P W σ.op B) (hx : conc σ x = some V) (hy : conc σ y = some U) (he : evEq B t c x y = some b) :
    (∀ w, (Op.equal t V U).run P w = .ok b w) ∧ (∀ op (ox oy : Operand) w, (c = true → ((ox matches .const _) || (oy matches .const _)) = true) → (eqGuard op t ox oy V U).run P w = .ok () w) ∧
      binOp .eql t V U = (do pure (.bool (← Op.equal t V U))) ∧ binOp .neq t V U = (do pure (.bool (!(← Op.equal t V U)))) := by
  unfold evEq at he
  split at he
  · cases he
  · rename_i ti ht
    have hd := hB.under _ _ ht
    split at he
    all_goals rename_i hti
    all_goals try rw [hti] at hd
    all_goals try simp only [conc, Option.some.injEq, Option.map_eq_some_iff, Option.bind_eq_some_iff] at hx hy
    · subst hx; subst hy; cases he
      refine ⟨fun w => by (show (Op.equalIn (9999 + 1) t _ _).run P w = _; generalize 9999 = d; simp only [Op.equalIn, Sem.run_bind, run_underlying hd, Result.andThen_ok, Sem.run_pure]; try rfl), fun op ox oy w _ => ?_, rfl, rfl⟩
      · cases op <;> rfl
    · subst hx; subst hy; cases he
      refine ⟨fun w => by (show (Op.equalIn (9999 + 1) t _ _).run P w = _; generalize 9999 = d; simp only [Op.equalIn, Sem.run_bind, run_underlying hd, Result.andThen_ok, Sem.run_pure]; try rfl), fun op ox oy w _ => ?_, rfl, rfl⟩
      · cases op <;> rfl
    · obtain ⟨y', _, rfl⟩ := hy
      subst hx; cases he
      refine ⟨fun w => by (show (Op.equalIn (9999 + 1) t _ _).run P w = _; generalize 9999 = d; simp only [Op.equalIn, Sem.run_bind, run_underlying hd, Result.andThen_ok, Sem.run_pure]; try rfl), fun op ox oy w _ => ?_, rfl, rfl⟩
      · cases op <;> rfl
    · obtain ⟨y', _, rfl⟩ := hx
      subst hy; cases he
      refine ⟨fun w => by (show (Op.equalIn (9999 + 1) t _ _).run P w = _; generalize 9999 = d; simp only [Op.equalIn, Sem.run_bind, run_underlying hd, Result.andThen_ok, Sem.run_pure]; try rfl), fun op ox oy w _ => ?_, rfl, rfl⟩
      · cases op <;> rfl
    · subst hx; subst hy; cases he
      refine ⟨fun w => by (show (Op.equalIn (9999 + 1) t _ _).run P w = _; generalize 9999 = d; simp only [Op.equalIn, Sem.run_bind, run_underlying hd, Result.andThen_ok, Sem.run_pure]; try rfl), fun op ox oy w _ => ?_, rfl, rfl⟩
      · cases op <;> rfl
    · subst hx; subst hy; cases he
      refine ⟨fun w => by (show (Op.equalIn (9999 + 1) t _ _).run P w = _; generalize 9999 = d; simp only [Op.equalIn, Sem.run_bind, run_underlying hd, Result.andThen_ok, Sem.run_pure]; try rfl), fun op ox oy w _ => ?_, rfl, rfl⟩
      · cases op <;> rfl
    · subst hx; subst hy; cases he
      refine ⟨fun w => by (show (Op.equalIn (9999 + 1) t _ _).run P w = _; generalize 9999 = d; simp only [Op.equalIn, Sem.run_bind, run_underlying hd, Result.andThen_ok, Sem.run_pure]; try rfl), fun op ox oy w _ => ?_, rfl, rfl⟩
      · cases op <;> rfl
    · obtain ⟨y', _, rfl⟩ := hy
      subst hx; cases he
      refine ⟨fun w => by (show (Op.equalIn (9999 + 1) t _ _).run P w = _; generalize 9999 = d; simp only [Op.equalIn, Sem.run_bind, run_underlying hd, Result.andThen_ok, Sem.run_pure]; try rfl), fun op ox oy w _ => ?_, rfl, rfl⟩
      · cases op <;> rfl
    · obtain ⟨y', _, rfl⟩ := hx
      subst hy; cases he
      refine ⟨fun w => by (show (Op.equalIn (9999 + 1) t _ _).run P w = _; generalize 9999 = d; simp only [Op.equalIn, Sem.run_bind, run_underlying hd, Result.andThen_ok, Sem.run_pure]; try rfl), fun op ox oy w _ => ?_, rfl, rfl⟩
      · cases op <;> rfl
    · subst hx; subst hy; cases he
      refine ⟨fun w => by (show (Op.equalIn (9999 + 1) t _ _).run P w = _; generalize 9999 = d; simp only [Op.equalIn, Sem.run_bind, run_underlying hd, Result.andThen_ok, Sem.run_pure]; try rfl), fun op ox oy w _ => ?_, rfl, rfl⟩
      · cases op <;> rfl
    · obtain ⟨_, _, _, _, rfl⟩ := hx
      subst hy; cases he
      refine ⟨fun w => by (show (Op.equalIn (9999 + 1) t _ _).run P w = _; generalize 9999 = d; simp only [Op.equalIn, Sem.run_bind, run_underlying hd, Result.andThen_ok, Sem.run_pure]; try rfl), fun op ox oy w _ => ?_, rfl, rfl⟩
      · cases op <;> rfl
    · subst hx; subst hy
      split at he
      · rename_i hc
        cases he
        refine ⟨fun w => by (show (Op.equalIn (9999 + 1) t _ _).run P w = _; generalize 9999 = d; simp only [Op.equalIn, Sem.run_bind, run_underlying hd, Result.andThen_ok, Sem.run_pure]; try rfl), fun op ox oy w hk => ?_, rfl, rfl⟩
        · have := hk hc
          cases op <;> first | rfl | (cases ox <;> cases oy <;> first | rfl | (simp at this; done))
      · cases he
    · obtain ⟨y', _, rfl⟩ := hy
      subst hx; cases he
      refine ⟨fun w => by (show (Op.equalIn (9999 + 1) t _ _).run P w = _; generalize 9999 = d; simp only [Op.equalIn, Sem.run_bind, run_underlying hd, Result.andThen_ok, Sem.run_pure]; try rfl), fun op ox oy w _ => ?_, rfl, rfl⟩
      · cases op <;> rfl
    · obtain ⟨y', _, rfl⟩ := hx
      subst hy; cases he
      refine ⟨fun w => by (show (Op.equalIn (9999 + 1) t _ _).run P w = _; generalize 9999 = d; simp only [Op.equalIn, Sem.run_bind, run_underlying hd, Result.andThen_ok, Sem.run_pure]; try rfl), fun op ox oy w _ => ?_, rfl, rfl⟩
      · cases op <;> rfl
    · obtain ⟨v1', hv1, rfl⟩ := hx
      obtain ⟨v2', hv2, rfl⟩ := hy
      refine ⟨fun w => ?_, fun op ox oy w _ => ?_, rfl, rfl⟩
      · split at he
        · rename_i ht12
          subst ht12
          split at he
          · rename_i tj htj
            obtain ⟨i, z, hi, hs, _, _, hcmp, _⟩ := hB.info _ _ htj
            have hdj := hB.under _ _ htj
            split at he
            · rename_i kk k a k' b' h1 h2
              rw [h1] at hdj
              rw [h2] at hcmp
              simp only [conc, Option.some.injEq] at hv1 hv2
              subst hv1
              subst hv2
              split at he
              · rename_i hkk
                subst hkk
                cases he
                show (Op.equalIn (9998 + 1 + 1) t _ _).run P w = _
                generalize 9998 = d
                simp [Op.equalIn, run_underlying hd, run_typeInfo' hi, hcmp, run_underlying hdj]
              · cases he
            · cases he
          · cases he
        · rename_i ht12
          cases he
          show (Op.equalIn (9999 + 1) t _ _).run P w = _
          generalize 9999 = d
          simp [Op.equalIn, run_underlying hd, ht12]
      · cases op <;> rfl
    · obtain ⟨va, hva, rfl⟩ := hx
      obtain ⟨vb, hvb, rfl⟩ := hy
      split at he
      · rename_i l hl
        obtain ⟨fs, h1, h2, h3, h4, h5⟩ := hB.eqs _ _ hl
        have hfo : P.fieldsOf t = fs := by simp [Program.fieldsOf, h1]
        have ht' : P.underlying t = some (.struct (P.fieldsOf t)) := by rw [hfo]; exact h1
        refine ⟨fun w => ?_, fun op ox oy w _ => ?_, rfl, rfl⟩
        · have := run_equalIn_struct (P := P) w 9999 t va.toArray vb.toArray ht' h2
          show (Op.equalIn (9999 + 1) t _ _).run P w = _
          rw [this, hfo]
          exact eqCells_ok (off := 0) (by simpa using h4) (fun i f hi => by
            obtain ⟨e1, e2, e3⟩ := h5 i f (by simpa using hi)
            exact ⟨e1, by omega, e3⟩) hva hvb (fun j => by simp) (fun j => by simp) he 9998 w
        · exact run_eqGuard_agg w op t ox oy _ _ h3
      · cases he
    · cases he

def evBin (B : Tab) (op : BinOp) (t : TypeId) (c : Bool) (x y : SV) : Option SV :=
  match x, y with
  | .int k a, .int k' b => pureS (binOp op t (.int k a) (.int k' b))
  | .str a, .str b =>
    match op with
    | .add => if a.length + b.length ≤ 1000000 then some (.str (a ++ b)) else none
    | .eql => some (.bool (eqB a b))
    | .neq => some (.bool (!eqB a b))
    | .lss => some (.bool (Op.bytesLess a b))
    | _ => none
  | _, _ =>
    match op with
    | .eql => (evEq B t c x y).map .bool
    | .neq => (evEq B t c x y).map fun b => .bool (!b)
    | _ => none

theorem evEqBin_ok {B : Tab} {op : BinOp} {t : TypeId} {c : Bool} {x y z : SV} {V U : Value} {ox oy : Operand} (hB : TabOk P W σ.op B) (hx : conc σ x = some V) (hy : conc σ y = some U)
    (hc : c = true → ((ox matches .const _) || (oy matches .const _)) = true) (he : (match op with
    | .eql => (evEq B t c x y).map SV.bool
    | .neq => (evEq B t c x y).map fun b => SV.bool (!b)
    | _ => none) = some z) : Y P W σ w0 (do eqGuard op t ox oy V U; binOp op t V U) z [] := by
  split at he
  · simp only [Option.map_eq_some_iff] at he
    obtain ⟨b, hb, rfl⟩ := he
    obtain ⟨h1, h2, h3, h4⟩ := evEq_ok hB hx hy hb
    refine Y.mk0 rfl fun w => ?_
    rw [Sem.run_bind, h2 _ _ _ _ hc, Result.andThen_ok, h3]
    simp [h1]
  · simp only [Option.map_eq_some_iff] at he
    obtain ⟨b, hb, rfl⟩ := he
    obtain ⟨h1, h2, h3, h4⟩ := evEq_ok hB hx hy hb
    refine Y.mk0 rfl fun w => ?_
    rw [Sem.run_bind, h2 _ _ _ _ hc, Result.andThen_ok, h4]
    simp [h1]
  · cases he

theorem evBin_ok {B : Tab} {op : BinOp} {t : TypeId} {c : Bool} {x y z : SV} {V U : Value} {ox oy : Operand} (hB : TabOk P W σ.op B) (hx : conc σ x = some V) (hy : conc σ y = some U)
    (hc : c = true → ((ox matches .const _) || (oy matches .const _)) = true) (he : evBin B op t c x y = some z) :
    Y P W σ w0 (do eqGuard op t ox oy V U; binOp op t V U) z [] := by
  unfold evBin at he
  split at he
  · rename_i k a k' b
    simp only [conc, Option.some.injEq] at hx hy
    subst hx
    subst hy
    have h1 : (do eqGuard op t ox oy (.int k a) (.int k' b); binOp op t (.int k a) (.int k' b)) = binOp op t (.int k a) (.int k' b) := by cases op <;> rfl
    rw [h1]
    exact pureS_ok he
  · rename_i a b
    simp only [conc, Option.some.injEq] at hx hy
    subst hx
    subst hy
    have h1 : (do eqGuard op t ox oy (.string ⟨⟨a⟩⟩) (.string ⟨⟨b⟩⟩); binOp op t (.string ⟨⟨a⟩⟩) (.string ⟨⟨b⟩⟩)) = binOp op t (.string ⟨⟨a⟩⟩) (.string ⟨⟨b⟩⟩) := by cases op <;> rfl
    rw [h1]
    split at he
    · split at he
      · rename_i hlen
        cases he
        refine Y.mk0 rfl fun w => ?_
        have hs : ((((⟨⟨a⟩⟩ : ByteArray).size + (⟨⟨b⟩⟩ : ByteArray).size : Nat)) : Int) ≤ IntKind.i64.max := by
          show ((a.length + b.length : Nat) : Int) ≤ 9223372036854775807
          omega
        simp only [binOp_string_add, Op.stringOp]
        rw [if_neg (by omega)]
        simp only [Sem.run_pure]
        have hab : (⟨⟨a⟩⟩ : ByteArray) ++ ⟨⟨b⟩⟩ = ⟨⟨a ++ b⟩⟩ := ByteArray.ext (by rw [ByteArray.data_append]; simp)
        rw [hab]
      · cases he
    · cases he
      refine Y.mk0 rfl fun w => ?_
      rw [binOp_string_eql, ByteArray.toList_mk, ByteArray.toList_mk, eqB_iff]
      rw [beqL a b]; rfl
    · cases he
      refine Y.mk0 rfl fun w => ?_
      rw [binOp_string_neq, ByteArray.toList_mk, ByteArray.toList_mk, eqB_iff]
      rw [beqL a b]; rfl
    · cases he
      refine Y.mk0 rfl fun w => ?_
      rw [binOp_string_lss, ByteArray.toList_mk, ByteArray.toList_mk]
      rfl
    · cases he
  · exact evEqBin_ok hB hx hy hc he

/-! ### Conversions -/

def bytesOf : List SV → Option (List UInt8)
  | [] => some []
  | x :: l => match x with
    | .int .u8 (.ofNat n) => match bytesOf l with
      | some r => some (UInt8.ofNat n :: r)
      | none => none
    | _ => none

def evConv (B : Tab) (h : Hp) (src dst : TypeId) (x : SV) : Option (SV × List Rec) :=
  match B.T src, B.T dst with
  | some ts, some td =>
    match td.d, x with
    | .int k, .int _ n => match pureS (Conv.intToInt k n) with
      | some v => some (v, [])
      | none => none
    | .string, .slice id off es len _ => match ts.d with
      | .slice e => match B.T e with
        | some te => match te.d with
          | .int .u8 => if es = 1 then match cellsAt h id with
              | some cells => match takeN len (cells.drop off) with
                | some l => match bytesOf l with
                  | some bs => if l.all (fun x => match x with | .int _ (.ofNat n) => decide (n < 256) | _ => false) then some (.str bs, [(id, off, l)]) else none
                  | none => none
                | none => none
              | _ => none
            else none
          | _ => none
        | none => none
      | _ => none
    | _, _ => none
  | _, _ => none

theorem bytesOf_ok : ∀ {l : List SV} {bs : List UInt8} {vs : List Value}, bytesOf l = some bs → l.all (fun x => match x with | .int _ (.ofNat n) => decide (n < 256) | _ => false) = true → concL σ l = some vs →
    bs.length = l.length ∧ vs = bs.map fun b => Value.int .u8 (b.toNat : Int)
  | [], bs, vs, h, _, hc => by
    cases h
    cases hc
    exact ⟨rfl, rfl⟩
  | x :: l, bs, vs, h, ha, hc => by
    simp only [bytesOf] at h
    split at h
    · rename_i n
      split at h
      · rename_i r hr
        cases h
        obtain ⟨v, us, hv, hu, rfl⟩ := concL_cons hc
        simp only [conc, Option.some.injEq] at hv
        subst hv
        simp only [List.all_cons, Bool.and_eq_true, decide_eq_true_eq] at ha
        obtain ⟨e1, e2⟩ := bytesOf_ok hr ha.2 hu
        refine ⟨by simp [e1], ?_⟩
        rw [e2]
        simp only [List.map_cons, List.cons.injEq, and_true]
        rw [UInt8.toNat_ofNat_of_lt' (by exact ha.1)]
        rfl
      · cases h
    · cases h

theorem evConv_ok {B : Tab} {h : Hp} {src dst : TypeId} {x y : SV} {L : List Rec} {V : Value} (hB : TabOk P W σ.op B) (H : HRel W σ h w0) (hx : conc σ x = some V) (he : evConv B h src dst x = some (y, L)) :
    Y P W σ w0 (convert src dst V) y L := by
  unfold evConv at he
  split at he
  · rename_i ts td hts htd
    have hs := hB.under _ _ hts
    have hd := hB.under _ _ htd
    split at he
    · rename_i k k' n hk
      rw [hk] at hd
      simp only [conc, Option.some.injEq] at hx
      subst hx
      split at he
      · rename_i v hv
        cases he
        obtain ⟨_, V', h1, h2⟩ := pureS_ok (P := P) (W := W) (σ := σ) (w0 := w0) hv
        refine ⟨fun r hr => absurd hr (by simp), V', h1, fun w hb hr => ?_⟩
        rw [← h2 w hb hr]
        simp [convert, run_underlying hs, run_underlying hd]
      · cases he
    · rename_i id off es len cap hk
      rw [hk] at hd
      split at he
      · rename_i e hse
        rw [hse] at hs
        split at he
        · rename_i te hte
          have hee := hB.under _ _ hte
          split at he
          · rename_i h8
            rw [h8] at hee
            split at he
            · rename_i h1
              subst h1
              split at he
              · rename_i cells ho
                split at he
                · rename_i l hl
                  split at he
                  · rename_i bs hbs
                    split at he
                    · rename_i hall
                      cases he
                      obtain ⟨e1, e2⟩ := takeN_spec hl
                      have hrd : Reads σ w0 (id, off, l) := by rw [e1]; exact H.readsC ho off len
                      refine ⟨fun r hr => by simp only [List.mem_singleton] at hr; subst hr; exact hrd, _, rfl, fun w _ hw => ?_⟩
                      obtain ⟨b', K', vs', h1', h2', h3'⟩ := hw _ (List.mem_singleton.2 rfl)
                      simp only at h1' h2' h3'
                      simp only [conc, h1', Option.map_some, Option.some.injEq] at hx
                      subst hx
                      obtain ⟨f1, f2⟩ := bytesOf_ok hbs hall h2'
                      have hlen : len = bs.length := by
                        rw [f1, e1, List.length_take]
                        omega
                      rw [hlen]
                      have := run_convert_bytes_back (P := P) w src dst e ⟨b', off * 1, none⟩ (cap.getD (K' - off)) bs hs hee hd (fun j hj => by
                        rw [addr_add, Nat.mul_one]
                        refine h3' j _ ?_
                        rw [f2, List.getElem?_map, List.getElem?_eq_getElem hj]
                        rfl)
                      rw [this]
                    · cases he
                  · cases he
                · cases he
              · cases he
            · cases he
          · cases he
        · cases he
      · cases he
    · cases he
  · cases he

end
end
end Go.Proofs.YtjmiaemabhlnjaaGreatDoor.Sym
