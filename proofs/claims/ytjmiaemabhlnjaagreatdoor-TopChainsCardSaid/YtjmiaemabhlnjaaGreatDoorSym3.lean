/-
  A run of a Go program over data that is known: the other operations that change nothing: slices, comparisons, arithmetic, conversions, lengths.
-/
import Derived.Test.YtjmiaemabhlnjaaGreatDoorSym2
import Derived.Laws.IdiomStrings
set_option linter.unusedVariables false
set_option linter.unusedSimpArgs false
namespace Go.Proofs.YtjmiaemabhlnjaaGreatDoor.Sym
open Go Go.RowKit
noncomputable section

section
variable {P : Program} {W : World} {σ : Env} {w0 : World}

/-! ### Slices -/

def asN : SV → Option Nat
  | .int _ (.ofNat n) => some n
  | _ => none

def evBounds (len cap : Nat) (lo hi mx : Option SV) : Option (Nat × Nat × Option Nat) :=
  match (match mx with
    | none => some none
    | some v => match asN v with
      | some m => if m ≤ cap then some (some m) else none
      | none => none : Option (Option Nat)) with
  | none => none
  | some m => match (match hi with
      | none => match m with
        | none => some len
        | some _ => none
      | some v => match asN v with
        | some h => if h ≤ m.getD cap then some h else none
        | none => none : Option Nat) with
    | none => none
    | some h => match lo with
      | none => some (0, h, m)
      | some v => match asN v with
        | some l => if l ≤ h then some (l, h, m) else none
        | none => none

theorem asN_conc {x : SV} {n : Nat} {V : Value} (h : asN x = some n) (hx : conc σ x = some V) : ∃ k, V = .int k (n : Int) := by
  unfold asN at h
  split at h
  · rename_i k m
    cases h
    simp only [conc, Option.some.injEq] at hx
    exact ⟨k, hx.symm⟩
  · cases h

theorem run_bound {k : IntKind} {n y : Nat} (code : BoundsCode) (h : n ≤ y) (w : World) : (Instr.sliceBound (.int k (n : Int)) y code).run P w = .ok n w := by
  have h1 : (0 : Int) ≤ (n : Int) ∧ (n : Int) ≤ (y : Int) := ⟨Int.natCast_nonneg n, by exact_mod_cast h⟩
  simp only [Instr.sliceBound, asIntOf, Sem.run_bind, Sem.run_pure, Result.andThen_ok, Sem.run_ite]
  rw [if_pos h1]
  rfl

/-- Where the bounds are within a capacity, they are within a greater one. -/
theorem evBounds_ok {isS : Bool} {len cap cap' : Nat} {lo hi mx : Option SV} {Lo Hi Mx : Option Value} {l h : Nat} {m : Option Nat} (hlen : hi = none → len ≤ cap) (hc : cap ≤ cap')
    (hlo : ∀ x, lo = some x → ∃ v, Lo = some v ∧ conc σ x = some v) (hlo0 : lo = none → Lo = none)
    (hhi : ∀ x, hi = some x → ∃ v, Hi = some v ∧ conc σ x = some v) (hhi0 : hi = none → Hi = none)
    (hmx : ∀ x, mx = some x → ∃ v, Mx = some v ∧ conc σ x = some v) (hmx0 : mx = none → Mx = none)
    (he : evBounds len cap lo hi mx = some (l, h, m)) :
    (∀ w, (Instr.sliceBounds isS len cap' Lo Hi Mx).run P w = .ok (l, h, m.getD cap') w) ∧ l ≤ h ∧ h ≤ m.getD cap ∧ m.getD cap ≤ m.getD cap' ∧ (lo = none → l = 0) ∧ m.getD cap ≤ cap := by
  unfold evBounds at he
  split at he
  · cases he
  · rename_i m' hm
    split at he
    · cases he
    · rename_i h' hh
      -- the last bound
      have hM : (∀ w, (match Mx with | some v => Instr.sliceBound v cap' (if isS then .slice3Acap else .slice3Alen) | none => pure cap').run P w = .ok (m'.getD cap') w) ∧ m'.getD cap ≤ m'.getD cap' ∧ m'.getD cap ≤ cap ∧ (m' = none ↔ Mx = none) := by
        cases mx with
        | none =>
          rw [hmx0 rfl]
          simp only [Option.some.injEq] at hm
          subst hm
          exact ⟨fun w => rfl, hc, Nat.le_refl _, by simp⟩
        | some v =>
          obtain ⟨V, rfl, hV⟩ := hmx v rfl
          simp only at hm
          split at hm
          · rename_i m2 hm2
            split at hm
            · rename_i hle
              cases hm
              obtain ⟨k, rfl⟩ := asN_conc hm2 hV
              exact ⟨fun w => run_bound _ (Nat.le_trans hle hc) w, Nat.le_refl _, hle, by simp⟩
            · cases hm
          · cases hm
      obtain ⟨hM1, hM2, hM3, hM4⟩ := hM
      have hH : (∀ w, (match Hi, Mx with
          | some v, some _ => Instr.sliceBound v (m'.getD cap') .slice3B
          | some v, none => Instr.sliceBound v (m'.getD cap') (if isS then .sliceAcap else .sliceAlen)
          | none, none => pure len
          | none, some _ => stuck "Slice: max without high" : Sem Nat).run P w = .ok h' w) ∧ h' ≤ m'.getD cap := by
        cases hi with
        | none =>
          rw [hhi0 rfl]
          simp only at hh
          split at hh
          · rename_i hm0
            cases hh
            rw [(hM4.1 rfl)]
            exact ⟨fun w => rfl, hlen rfl⟩
          · cases hh
        | some v =>
          obtain ⟨V, rfl, hV⟩ := hhi v rfl
          simp only at hh
          split at hh
          · rename_i h2 hh2
            split at hh
            · rename_i hle
              cases hh
              obtain ⟨k, rfl⟩ := asN_conc hh2 hV
              refine ⟨fun w => ?_, hle⟩
              cases Mx <;> exact run_bound _ (Nat.le_trans hle hM2) w
            · cases hh
          · cases hh
      obtain ⟨hH1, hH2⟩ := hH
      have hL : m = m' ∧ h = h' ∧ (∀ w, (match Lo with
          | some v => Instr.sliceBound v h' (if Mx.isSome then .slice3C else .sliceB)
          | none => pure 0).run P w = .ok l w) ∧ l ≤ h' ∧ (lo = none → l = 0) := by
        cases lo with
        | none =>
          rw [hlo0 rfl]
          simp only [Option.some.injEq, Prod.mk.injEq] at he
          obtain ⟨rfl, rfl, rfl⟩ := he
          exact ⟨rfl, rfl, fun w => rfl, Nat.zero_le _, fun _ => rfl⟩
        | some v =>
          obtain ⟨V, rfl, hV⟩ := hlo v rfl
          simp only at he
          split at he
          · rename_i l2 hl2
            split at he
            · rename_i hle
              simp only [Option.some.injEq, Prod.mk.injEq] at he
              obtain ⟨rfl, rfl, rfl⟩ := he
              obtain ⟨k, rfl⟩ := asN_conc hl2 hV
              exact ⟨rfl, rfl, fun w => run_bound _ hle w, hle, fun h => by cases h⟩
            · cases he
          · cases he
      obtain ⟨rfl, rfl, hL1, hL2, hL3⟩ := hL
      refine ⟨fun w => ?_, hL2, hH2, hM2, hL3, hM3⟩
      have hM := hM1 w
      have hH := hH1 w
      have hL := hL1 w
      clear hlo hlo0 hhi hhi0 hmx hmx0 hm hh he hM1 hH1 hL1 hL3 hlen hM4
      unfold Instr.sliceBounds
      cases Mx with
      | none =>
        simp only [Sem.run_pure, Result.ok.injEq, and_true] at hM
        cases Hi with
        | none =>
          simp only [Sem.run_pure, Result.ok.injEq, and_true] at hH
          subst hH
          cases Lo with
          | none =>
            simp only [Sem.run_pure, Result.ok.injEq, and_true] at hL
            subst hL
            simp only [Sem.run_bind, Sem.run_pure, Result.andThen_ok, ← hM]
          | some a =>
            simp only at hL
            simp only [Sem.run_bind, Sem.run_pure, Result.andThen_ok, hL, ← hM]
        | some a =>
          simp only at hH
          rw [← hM] at hH ⊢
          cases Lo with
          | none =>
            simp only [Sem.run_pure, Result.ok.injEq, and_true] at hL
            subst hL
            simp only [Sem.run_bind, Sem.run_pure, Result.andThen_ok, hH]
          | some a =>
            simp only at hL
            simp only [Sem.run_bind, Sem.run_pure, Result.andThen_ok, hL, hH]
      | some c =>
        simp only at hM
        cases Hi with
        | none => simp at hH
        | some a =>
          simp only at hH
          cases Lo with
          | none =>
            simp only [Sem.run_pure, Result.ok.injEq, and_true] at hL
            subst hL
            simp only [Sem.run_bind, Sem.run_pure, Result.andThen_ok, hM, hH]
          | some a =>
            simp only at hL
            simp only [Sem.run_bind, Sem.run_pure, Result.andThen_ok, hL, hM, hH]

/-- How many elements of a block behind a place are known. -/
def knownAt (h : Hp) (id off es : Nat) : Option Nat :=
  match h.get id with
  | some (.row cells (some es')) => if es' = es then some (cells.length / es - off) else none
  | _ => none

def evSlice (B : Tab) (hp : Hp) (t : TypeId) (x : SV) (lo hi mx : Option SV) : Option SV :=
  match B.T t, x with
  | some ti, .str s => match ti.d with
    | .string => match mx with
      | some _ => none
      | none => match evBounds s.length s.length lo hi none with
        | some (l, h, _) => some (.str ((s.drop l).take (h - l)))
        | none => none
    | _ => none
  | some ti, .nils => match ti.d with
    | .slice elem => match B.T elem, evBounds 0 0 lo hi mx with
      | some _, some _ => some .nils
      | _, _ => none
    | _ => none
  | some ti, .slice id off es len (some cap) => match ti.d with
    | .slice elem => match B.T elem with
      | some et => if et.size = es ∧ len ≤ cap then match evBounds len cap lo hi mx with
          | some (l, h, m) => some (.slice id (if m.getD cap = l then off else off + l) es (h - l) (some (m.getD cap - l)))
          | none => none
        else none
      | none => none
    | _ => none
  | some ti, .slice id off es len none => match ti.d with
    | .slice elem => match B.T elem, knownAt hp id off es with
      | some et, some kn => if et.size = es ∧ len ≤ kn then match evBounds len kn lo hi mx with
          | some (l, h, some m) => some (.slice id (if m = l then off else off + l) es (h - l) (some (m - l)))
          | some (l, h, none) => if l = 0 ∨ l < kn then some (.slice id (off + l) es (h - l) none) else none
          | none => none
        else none
      | _, _ => none
    | _ => none
  | some ti, .ptr id off => match ti.d with
    | .array n elem => match B.T elem with
      | some et => if et.size = 0 then none else match evBounds n n lo hi mx with
          | some (l, h, m) => if off % et.size = 0 then some (.slice id (if m.getD n = l then off / et.size else off / et.size + l) et.size (h - l) (some (m.getD n - l))) else none
          | none => none
      | none => none
    | _ => none
  | _, _ => none

theorem evBounds_le {len cap : Nat} {lo hi mx : Option SV} {l h : Nat} {m : Option Nat} (he : evBounds len cap lo hi mx = some (l, h, m)) : mx = none → m = none := by
  intro hm
  subst hm
  unfold evBounds at he
  simp only at he
  split at he
  · cases he
  · rename_i h' _
    split at he
    · cases he; rfl
    · split at he
      · split at he
        · cases he; rfl
        · cases he
      · cases he

theorem extract_str (s : List UInt8) (l h : Nat) : (⟨⟨s⟩⟩ : ByteArray).extract l h = ⟨⟨(s.drop l).take (h - l)⟩⟩ := by
  have : ((⟨⟨s⟩⟩ : ByteArray).extract l h).data = (⟨(s.drop l).take (h - l)⟩ : Array UInt8) := by
    rw [ByteArray.data_extract]
    apply Array.ext'
    simp [List.extract_eq_take_drop, List.drop_take]
  exact ByteArray.ext this

theorem evSlice_ok {B : Tab} {hp : Hp} {t : TypeId} {x y : SV} {lo hi mx : Option SV} {V : Value} {Lo Hi Mx : Option Value} (hB : TabOk P W σ.op B) (H : HRel W σ hp w0) (hx : conc σ x = some V)
    (hlo : ∀ x, lo = some x → ∃ v, Lo = some v ∧ conc σ x = some v) (hlo0 : lo = none → Lo = none)
    (hhi : ∀ x, hi = some x → ∃ v, Hi = some v ∧ conc σ x = some v) (hhi0 : hi = none → Hi = none)
    (hmx : ∀ x, mx = some x → ∃ v, Mx = some v ∧ conc σ x = some v) (hmx0 : mx = none → Mx = none)
    (he : evSlice B hp t x lo hi mx = some y) : Y P W σ w0 (Instr.sliceAt t V Lo Hi Mx) y [] := by
  unfold evSlice at he
  split at he
  · rename_i ti s ht
    have hd := hB.under _ _ ht
    split at he
    · rename_i hti
      rw [hti] at hd
      split at he
      · cases he
      · split at he
        · rename_i l h m hb
          cases he
          simp only [conc, Option.some.injEq] at hx
          subst hx
          obtain ⟨h1, h2, h3, h4, h5, h6⟩ := evBounds_ok (P := P) (isS := false) (fun _ => Nat.le_refl _) (Nat.le_refl _) hlo hlo0 hhi hhi0 (fun _ h => by cases h) (fun _ => rfl) hb
          refine Y.mk0 rfl fun w => ?_
          simp only [Instr.sliceAt, Instr.slice, Sem.run_bind, run_underlying hd, Result.andThen_ok, hmx0 rfl, Option.isSome_none, Bool.false_eq_true, if_false, Sem.run_pure]
          rw [show (⟨⟨s⟩⟩ : ByteArray).size = s.length from rfl, h1, Result.andThen_ok]
          simp only [extract_str, Sem.run_pure]
        · cases he
    · cases he
  · rename_i ti ht
    have hd := hB.under _ _ ht
    split at he
    · rename_i elem hti
      rw [hti] at hd
      split at he
      · rename_i et b het hb
        obtain ⟨l, h, m⟩ := b
        cases he
        simp only [conc, Option.some.injEq] at hx
        subst hx
        obtain ⟨i, z, hi, hs, _⟩ := hB.info _ _ het
        obtain ⟨h1, h2, h3, h4, h5, h6⟩ := evBounds_ok (P := P) (isS := true) (fun _ => Nat.le_refl _) (Nat.le_refl _) hlo hlo0 hhi hhi0 hmx hmx0 hb
        refine Y.mk0 rfl fun w => ?_
        have hm0 : m.getD 0 = 0 := by omega
        have hh0 : h = 0 := by omega
        have hl0 : l = 0 := by omega
        subst hh0
        subst hl0
        simp only [Instr.sliceAt, Instr.slice, Sem.run_bind, run_underlying hd, Result.andThen_ok]
        rw [h1, Result.andThen_ok]
        simp only [run_sizeOf' hi, Result.andThen_ok, Sem.run_pure, hm0]
        rfl
      · cases he
    · cases he
  · rename_i ti id off es len cap ht
    have hd := hB.under _ _ ht
    split at he
    · rename_i elem hti
      rw [hti] at hd
      split at he
      · rename_i et het
        obtain ⟨i, z, hi, hs, _⟩ := hB.info _ _ het
        split at he
        · rename_i hc
          split at he
          · rename_i l h m hb
            cases he
            simp only [conc, Option.map_eq_some_iff] at hx
            obtain ⟨x, hx, rfl⟩ := hx
            obtain ⟨h1, h2, h3, h4, h5, h6⟩ := evBounds_ok (P := P) (isS := true) (fun _ => hc.2) (Nat.le_refl _) hlo hlo0 hhi hhi0 hmx hmx0 hb
            refine Y.mk0 (by simp only [conc, hx, Option.map_some]; rfl) fun w => ?_
            simp only [Instr.sliceAt, Instr.slice, Sem.run_bind, run_underlying hd, Result.andThen_ok, Option.getD_some]
            rw [h1, Result.andThen_ok]
            simp only [run_sizeOf' hi, Result.andThen_ok, Sem.run_pure, hs, hc.1, Option.map_some, addr_add]
            congr 2
            split <;> simp [Nat.add_mul]
          · cases he
        · cases he
      · cases he
    · cases he
  · rename_i ti id off es len ht
    have hd := hB.under _ _ ht
    split at he
    · rename_i elem hti
      rw [hti] at hd
      split at he
      · rename_i et kn het hkn
        obtain ⟨i, z, hi, hs, _⟩ := hB.info _ _ het
        split at he
        · rename_i hc
          simp only [conc, Option.map_eq_some_iff] at hx
          obtain ⟨x, hx, rfl⟩ := hx
          have hK : kn ≤ x.2 - off := by
            unfold knownAt at hkn
            split at hkn
            · rename_i cells es' ho
              split at hkn
              · rename_i hes
                cases hkn
                obtain ⟨b, K, c, el, vs, h1, h2, h3, h4, h5, h6, h7, h8⟩ := H.obj _ _ ho
                rw [hx] at h1
                cases h1
                subst hes
                rw [h6] at h8
                have := Nat.div_le_of_le_mul (by rw [Nat.mul_comm]; exact h8)
                omega
              · cases hkn
            · cases hkn
          split at he
          · rename_i l h m hb
            cases he
            obtain ⟨h1, h2, h3, h4, h5, h6⟩ := evBounds_ok (P := P) (isS := true) (fun _ => hc.2) hK hlo hlo0 hhi hhi0 hmx hmx0 hb
            refine Y.mk0 (by simp only [conc, hx, Option.map_some]; rfl) fun w => ?_
            simp only [Instr.sliceAt, Instr.slice, Sem.run_bind, run_underlying hd, Result.andThen_ok, Option.getD_none]
            rw [h1, Result.andThen_ok]
            simp only [run_sizeOf' hi, Result.andThen_ok, Sem.run_pure, hs, hc.1, Option.map_some, addr_add, Option.getD_some]
            congr 2
            split <;> simp [Nat.add_mul]
          · rename_i l h hb
            split at he
            · rename_i hl
              cases he
              obtain ⟨h1, h2, h3, h4, h5, h6⟩ := evBounds_ok (P := P) (isS := true) (fun _ => hc.2) hK hlo hlo0 hhi hhi0 hmx hmx0 hb
              refine Y.mk0 (by simp only [conc, hx, Option.map_some]; rfl) fun w => ?_
              simp only [Instr.sliceAt, Instr.slice, Sem.run_bind, run_underlying hd, Result.andThen_ok, Option.getD_none]
              rw [h1, Result.andThen_ok]
              simp only [run_sizeOf' hi, Result.andThen_ok, Sem.run_pure, hs, hc.1, Option.map_some, addr_add, Option.getD_none]
              congr 2
              · rcases hl with rfl | hl
                · simp
                · rw [if_neg (by omega)]
                  simp [Nat.add_mul]
              · omega
            · cases he
          · cases he
        · cases he
      · cases he
    · cases he
  · rename_i ti id off ht
    have hd := hB.under _ _ ht
    split at he
    · rename_i n elem hti
      rw [hti] at hd
      split at he
      · rename_i et het
        obtain ⟨i, z, hi, hs, _⟩ := hB.info _ _ het
        split at he
        · cases he
        · rename_i h0
          split at he
          · rename_i l h m hb
            split at he
            · rename_i hmod
              cases he
              simp only [conc, Option.map_eq_some_iff] at hx
              obtain ⟨x, hx, rfl⟩ := hx
              obtain ⟨h1, h2, h3, h4, h5, h6⟩ := evBounds_ok (P := P) (isS := false) (fun _ => Nat.le_refl _) (Nat.le_refl _) hlo hlo0 hhi hhi0 hmx hmx0 hb
              refine Y.mk0 (by simp only [conc, hx, Option.map_some]; rfl) fun w => ?_
              simp only [Instr.sliceAt, Sem.run_bind, run_underlying hd, Result.andThen_ok, Instr.sureAddr, Sem.run_pure]
              rw [h1, Result.andThen_ok]
              simp only [run_sizeOf' hi, Result.andThen_ok, Sem.run_pure, hs, addr_add, Option.getD_some]
              congr 2
              have hdiv : off / et.size * et.size = off := by
                have := Nat.div_add_mod off et.size
                rw [Nat.mul_comm]
                omega
              split <;> simp [Nat.add_mul, hdiv]
            · cases he
          · cases he
      · cases he
    · cases he
  · cases he

end
end
end Go.Proofs.YtjmiaemabhlnjaaGreatDoor.Sym
