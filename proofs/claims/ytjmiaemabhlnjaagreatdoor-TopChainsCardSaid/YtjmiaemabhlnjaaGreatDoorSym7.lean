/-
  A run of a Go program over data that is known: append and copy.
-/
import Derived.Test.YtjmiaemabhlnjaaGreatDoorSym6
set_option linter.unusedVariables false
set_option linter.unusedSimpArgs false
namespace Go.Proofs.YtjmiaemabhlnjaaGreatDoor.Sym
open Go Go.RowKit
noncomputable section

section
variable {P : Program} {W : World} {σ : Env} {w : World}

theorem run_append_fit (t ty e : TypeId) (i : TypeInfo) (ht : P.underlying t = some (.slice e)) (hi : P.info? e = some i) (b : Addr) (sLen sCap n : Nat) (xb : Option Addr) (xc : Nat) (news : List Value)
    (hroom : sLen + n ≤ sCap) (hf : (Builtin.firstCells i.size n (.slice xb n xc)).run P w = .ok news.toArray w) {w' : World} (hst : (storeCells (b.add (sLen * i.size)) news).run P w = .ok () w') :
    (Builtin.append_ #[t, t] ty #[.slice (some b) sLen sCap, .slice xb n xc]).run P w = .ok (.slice (some b) (sLen + n) sCap) w' := by
  simp [Builtin.append_, run_underlying ht, sizeOf, typeInfo, hi, Builtin.lenOf, hroom, hf, hst]

theorem run_append_nils (t ty e : TypeId) (i : TypeInfo) (ht : P.underlying t = some (.slice e)) (hi : P.info? e = some i) (xb : Option Addr) (xc : Nat) (hf : (Builtin.firstCells i.size 0 (.slice xb 0 xc)).run P w = .ok #[] w) :
    (Builtin.append_ #[t, t] ty #[.slice none 0 0, .slice xb 0 xc]).run P w = .ok (.slice none 0 0) w := by
  simp [Builtin.append_, run_underlying ht, sizeOf, typeInfo, hi, Builtin.lenOf, hf]

def evAppend (B : Tab) (h : Hp) (nx : Nat) (t : TypeId) (s x : SV) : Option (SV × Hp × Nat) :=
  match B.T t with
  | some ti => match ti.d with
    | .slice e => match B.T e with
      | some te => match te.size with
        | 0 => none
        | es0 + 1 =>
          let es := es0 + 1
          if Nat.beq te.zero.length es then match sliceCells h es x with
            | some (n, l) => if l.all SV.one then match s with
                | .nils => match n with
                  | 0 => some (.nils, h, nx)
                  | _ => if Nat.ble (n * te.bytes) 1000000000 && Nat.ble n 1000000000 then some (.slice nx 0 es n none, h.set nx (.row l (some es)), nx + 1) else none
                | .slice id off es' len cap => if Nat.beq es' es then match h.get id with
                    | some (.row cells op) =>
                      let need := len + n
                      match cap, op with
                      | some c, _ => if Nat.ble need c then
                            (if Nat.ble ((off + need) * es) cells.length then some (.slice id off es need (some c), h.set id (.row (setRange cells ((off + len) * es) l) op), nx) else none)
                          else match takeN (len * es) (cells.drop (off * es)) with
                            | some o => if Nat.ble (need * te.bytes) 1000000000 && Nat.ble need 1000000000 && Nat.ble 1 n then some (.slice nx 0 es need none, h.set nx (.row (o ++ l) (some es)), nx + 1) else none
                            | none => none
                      | none, some es'' => if Nat.beq es'' es then
                          (if Nat.ble ((off + need) * es) cells.length then some (.slice id off es need none, h.set id (.row (setRange cells ((off + len) * es) l) op), nx)
                          else match off, takeN (len * es) cells with
                            | 0, some o => if Nat.ble (need * te.bytes) 1000000000 && Nat.ble need 1000000000 && Nat.ble 1 n then some (.slice nx 0 es need none, (h.del id).set nx (.row (o ++ l) (some es)), nx + 1) else none
                            | _, _ => none)
                          else none
                      | none, none => none
                    | _ => none
                  else none
                | _ => none
              else none
            | none => none
          else none
      | none => none
    | _ => none
  | none => none

theorem maxLen_le {n : Nat} (h : n ≤ 1000000000) : n ≤ maxLen := by
  have : maxLen = 2 ^ 63 - 1 := rfl
  omega

theorem append3 (a b : List Value) (c : Array Value) : a.toArray ++ b.toArray ++ c = ((a ++ b) ++ c.toList).toArray := by
  apply Array.ext'
  simp

/-- A new row by growing. -/
theorem grow_ok {h : Hp} (H : HRel W σ h w) {t ty e : TypeId} {i : TypeInfo} {z : Value} (ht : P.underlying t = some (.slice e)) (hi : P.info? e = some i) (hz : i.zero = some z) (hzs : z.cells.size = i.size) (hes : 0 < i.size)
    {b : Addr} {sLen sCap : Nat} {o l : List SV} {vo vl : List Value} (ho : concL σ o = some vo) (hl : concL σ l = some vl) (hvo : vo.length = sLen * i.size) (hold : ∀ (j : Nat) (v : Value), vo[j]? = some v → w.cell? (b.add j) = some v)
    {a : Addr} {n c : Nat} (hvl : vl.length = n * i.size) (hnew : ∀ (j : Nat) (v : Value), vl[j]? = some v → w.cell? (a.add j) = some v) (hg : sCap < sLen + n) (hb1 : (sLen + n) * i.bytes ≤ 1000000000) (hb2 : sLen + n ≤ 1000000000) :
    ∃ σ' w', σ.le σ' ∧ σ'.bl.length = σ.bl.length + 1 ∧ HRel W σ' (h.set σ.bl.length (.row (o ++ l) (some i.size))) w' ∧
      ∃ V, conc σ' (.slice σ.bl.length 0 i.size (sLen + n) none) = some V ∧ (Builtin.append_ #[t, t] ty #[.slice (some b) sLen sCap, .slice (some a) n c]).run P w = .ok V w' := by
  have hrun := run_append_grow (P := P) w t ty e i z ht hi hz b sLen sCap vo hvo hold a n c vl hvl hnew hg (by omega) (growslice_fits hg (by omega))
  have hcap := grownCap_ge w (sLen + n) sCap e
  have hcap2 := grownCap_le_maxLen w (sLen + n) sCap e (maxLen_le hb2)
  refine ⟨_, _, snoc_le σ (w.heap.size, grownCap w (sLen + n) sCap e), by simp, ?_, .slice (some ⟨w.heap.size, 0, none⟩) (sLen + n) (grownCap w (sLen + n) sCap e), by simp [conc, snoc_get], hrun⟩
  rw [append3]
  refine H.drew.openRow (o ++ l) (vo ++ vl) _ e (grownCap w (sLen + n) sCap e) i.size (concL_append ho hl) hes ?_ hcap2
  have hzc : (Builtin.zeroCells z.cells (grownCap w (sLen + n) sCap e - (sLen + n))).toList.length = (grownCap w (sLen + n) sCap e - (sLen + n)) * i.size := by rw [Array.length_toList, size_zeroCells, hzs]
  rw [hzc, List.length_append, hvo, hvl, ← Nat.add_mul, ← Nat.add_mul]
  congr 1
  omega

theorem evAppend_ok {B : Tab} {h h' : Hp} {nx n' : Nat} {t ty : TypeId} {s x y : SV} {S X : Value} (hB : TabOk P W σ.op B) (H : HRel W σ h w) (hn : σ.bl.length = nx) (hs : conc σ s = some S) (hx : conc σ x = some X)
    (he : evAppend B h nx t s x = some (y, h', n')) : ∃ σ' w', σ.le σ' ∧ σ'.bl.length = n' ∧ HRel W σ' h' w' ∧ ∃ V, conc σ' y = some V ∧ (Builtin.append_ #[t, t] ty #[S, X]).run P w = .ok V w' := by
  subst hn
  unfold evAppend at he
  split at he
  · rename_i ti hti
    have hd := hB.under _ _ hti
    split at he
    · rename_i e htd
      rw [htd] at hd
      split at he
      · rename_i te hte
        obtain ⟨i, z, hi, hsz, hby, hz, _, hzero⟩ := hB.info _ _ hte
        split at he
        · cases he
        · rename_i es0 hes
          simp only at he
          split at he
          · rename_i hzl
            have hzl := Nat.eq_of_beq_eq_true hzl
            have hes' : es0 + 1 = i.size := by rw [hsz, hes]
            have hzs : z.cells.size = i.size := by
              have := concL_length (hzero σ)
              simp only [Array.length_toList] at this
              omega
            have hpos : 0 < i.size := by omega
            rw [hes'] at he
            split at he
            · rename_i n l hsl
              obtain ⟨xb, xc, vl, rfl, hvl, hvlen, hfirst, hnone, hcells⟩ := sliceCells_ok (P := P) H hx hsl
              split at he
              · rename_i hone
                split at he
                · simp only [conc, Option.some.injEq] at hs
                  subst hs
                  split at he
                  · cases he
                    refine ⟨σ, w, .refl σ, rfl, H, _, rfl, run_append_nils t ty e i hd hi xb xc ?_⟩
                    have := hfirst w (fun k _ => rfl) 0 (Nat.le_refl _)
                    simpa using this
                  · rename_i n0 hn0
                    split at he
                    · rename_i hb
                      simp only [Bool.and_eq_true] at hb
                      have hb1 := Nat.le_of_ble_eq_true hb.1
                      have hb2 := Nat.le_of_ble_eq_true hb.2
                      rw [← hby] at hb1
                      cases he
                      have h0 : 0 < n := Nat.pos_of_ne_zero hn0
                      cases xb with
                      | none => have := (hnone rfl).1; omega
                      | some a =>
                        have hrun := run_append_nil (P := P) w t ty e i z hd hi hz a n xc vl hvlen (hcells a rfl) h0 (by omega) (by omega)
                        have hcap := grownCap_ge w n 0 e
                        have hcap2 := grownCap_le_maxLen w n 0 e (maxLen_le hb2)
                        refine ⟨_, _, snoc_le σ (w.heap.size, grownCap w n 0 e), by simp, ?_, .slice (some ⟨w.heap.size, 0, none⟩) n (grownCap w n 0 e), by simp [conc, snoc_get], hrun⟩
                        have e3 : vl.toArray ++ Builtin.zeroCells z.cells (grownCap w n 0 e - n) = (vl ++ (Builtin.zeroCells z.cells (grownCap w n 0 e - n)).toList).toArray := by apply Array.ext'; simp
                        rw [e3]
                        refine H.drew.openRow l vl _ e (grownCap w n 0 e) i.size hvl hpos ?_ hcap2
                        have hzc : (Builtin.zeroCells z.cells (grownCap w n 0 e - n)).toList.length = (grownCap w n 0 e - n) * i.size := by rw [Array.length_toList, size_zeroCells, hzs]
                        rw [hzc, hvlen, ← Nat.add_mul]
                        congr 1
                        omega
                    · cases he
                · rename_i id off es' len cap
                  split at he
                  · rename_i hese
                    have hese := Nat.eq_of_beq_eq_true hese
                    subst hese
                    split at he
                    · rename_i cells op ho
                      obtain ⟨b, K, c0, el, vs, h1, h2, h3, h4, h5⟩ := H.obj id _ ho
                      have hvs := concL_length h3
                      simp only [conc, h1, Option.map_some, Option.some.injEq] at hs
                      subst hs
                      -- old cells
                      have hold : ∀ (o : List SV), takeN (len * i.size) (cells.drop (off * i.size)) = some o → ∃ vo, concL σ o = some vo ∧ vo.length = len * i.size ∧ ∀ (j : Nat) (v : Value), vo[j]? = some v → w.cell? ((⟨b, off * i.size, none⟩ : Addr).add j) = some v := by
                        intro o hto
                        obtain ⟨e1, e2⟩ := takeN_spec hto
                        obtain ⟨b', K', vo, f1, f2, f3⟩ := H.reads ho (off * i.size) (len * i.size)
                        simp only at f1 f2 f3
                        rw [h1] at f1
                        cases f1
                        rw [← e1] at f2
                        refine ⟨vo, f2, by rw [concL_length f2, e1, List.length_take]; omega, fun j v hv => ?_⟩
                        rw [addr_add]
                        exact f3 j v hv
                      -- in its place
                      have fit : ∀ cap' : Option Nat, len + n ≤ cap'.getD (K - off) → (off + (len + n)) * i.size ≤ cells.length → ∃ σ' w', σ.le σ' ∧ σ'.bl.length = σ.bl.length ∧ HRel W σ' (h.set id (.row (setRange cells ((off + len) * i.size) l) op)) w' ∧
                          ∃ V, conc σ' (.slice id off i.size (len + n) cap') = some V ∧ (Builtin.append_ #[t, t] ty #[.slice (some ⟨b, off * i.size, none⟩) len (cap'.getD (K - off)), .slice xb n xc]).run P w = .ok V w' := by
                        intro cap' hroom hle
                        have hll : l.length = n * i.size := by rw [← concL_length hvl, hvlen]
                        obtain ⟨b', K', w', g1, g2, g3⟩ := H.write (P := P) ho (off := (off + len) * i.size) hvl hone (by rw [hll, ← Nat.add_mul]; rw [Nat.add_assoc]; exact hle)
                        rw [h1] at g1
                        cases g1
                        refine ⟨σ, w', .refl σ, rfl, g3, .slice (some ⟨b, off * i.size, none⟩) (len + n) (cap'.getD (K - off)), by simp [conc, h1], ?_⟩
                        refine run_append_fit t ty e i hd hi _ len _ n xb xc vl hroom ?_ ?_
                        · have := hfirst w (fun k _ => rfl) n (Nat.le_refl _)
                          rw [this, List.take_of_length_le (by omega)]
                        · rw [addr_add, ← Nat.add_mul]
                          have := g2 0 (Nat.zero_le _)
                          simpa using this
                      split at he
                      · rename_i c
                        split at he
                        · rename_i hnc
                          have hnc := Nat.le_of_ble_eq_true hnc
                          split at he
                          · rename_i hle
                            cases he
                            exact fit (some c) hnc (Nat.le_of_ble_eq_true hle)
                          · cases he
                        · rename_i hnc
                          have hnc : c < len + n := by
                            rcases Nat.lt_or_ge c (len + n) with h | h
                            · exact h
                            · exact absurd (Nat.ble_eq_true_of_le h) hnc
                          split at he
                          · rename_i o hto
                            split at he
                            · rename_i hb
                              simp only [Bool.and_eq_true] at hb
                              have hb1 := Nat.le_of_ble_eq_true hb.1.1
                              have hb2 := Nat.le_of_ble_eq_true hb.1.2
                              rw [← hby] at hb1
                              cases he
                              obtain ⟨vo, k1, k2, k3⟩ := hold o hto
                              cases xb with
                              | none =>
                                obtain ⟨hn0, _⟩ := hnone rfl
                                have := Nat.le_of_ble_eq_true hb.2
                                omega
                              | some a => exact grow_ok H hd hi hz hzs hpos k1 hvl k2 k3 hvlen (hcells a rfl) hnc hb1 hb2
                            · cases he
                          · cases he
                      · rename_i es''
                        split at he
                        · rename_i hes2
                          have hes2 := Nat.eq_of_beq_eq_true hes2
                          subst hes2
                          simp only at h5
                          obtain ⟨q1, q2, q3, q4⟩ := h5
                          split at he
                          · rename_i hle
                            have hle := Nat.le_of_ble_eq_true hle
                            cases he
                            refine fit none ?_ hle
                            have : (off + (len + n)) * i.size ≤ K * i.size := by omega
                            have := Nat.le_of_mul_le_mul_right this q1
                            simp only [Option.getD_none]
                            omega
                          · rename_i hle
                            split at he
                            · rename_i o hto
                              split at he
                              · rename_i hb
                                simp only [Bool.and_eq_true] at hb
                                have hb1 := Nat.le_of_ble_eq_true hb.1.1
                                have hb2 := Nat.le_of_ble_eq_true hb.1.2
                                rw [← hby] at hb1
                                cases he
                                obtain ⟨vo, k1, k2, k3⟩ := hold o (by simpa using hto)
                                have hll : vl.length = n * i.size := hvlen
                                rcases Nat.lt_or_ge K (len + n) with hK | hK
                                · -- it grows
                                  cases xb with
                                  | none =>
                                    obtain ⟨hn0, _⟩ := hnone rfl
                                    have := Nat.le_of_ble_eq_true hb.2
                                    omega
                                  | some a =>
                                    have := grow_ok (ty := ty) (c := xc) (H.drop id) hd hi hz hzs hpos k1 hvl k2 k3 hvlen (hcells a rfl) hK hb1 hb2
                                    simpa using this
                                · -- it fits
                                  obtain ⟨e1, e2⟩ := takeN_spec hto
                                  have hsz : len * i.size + vl.length ≤ c0.size := by
                                    rw [hll, ← Nat.add_mul, q2]
                                    exact Nat.mul_le_mul_right _ hK
                                  have honeV : ∀ v ∈ vl, v.oneCell' = true := by
                                    intro v hv
                                    obtain ⟨k, hk⟩ := List.getElem?_of_mem hv
                                    have hk' := (List.getElem?_eq_some_iff.1 hk).1
                                    have hll2 := concL_length hvl
                                    have hx' : l[k]? = some (l[k]'(by omega)) := List.getElem?_eq_getElem (by omega)
                                    obtain ⟨v', r1, r2⟩ := concL_get hvl hx'
                                    rw [hk] at r1
                                    cases r1
                                    exact SV.one_cell (List.all_eq_true.1 hone _ (List.getElem_mem _)) r2
                                  have hst := run_storeCells_at P b (len * i.size) el vl 0 c0 w h2 (by omega) honeV
                                  simp only [Nat.add_zero] at hst
                                  refine ⟨_, w.setRow b (c0.toList.take (len * i.size) ++ vl ++ c0.toList.drop (len * i.size + vl.length)).toArray, snoc_le σ (b, K), by simp, H.over ho h1 ⟨rfl, rfl, rfl, by simp, fun k hk => setRow_other w b k _ (by have := H.own id _ b K ho h1; omega)⟩ (fun k hk => setRow_other w b k _ hk) ?_,
                                    .slice (some ⟨b, 0, none⟩) (len + n) K, by simp [conc, snoc_get], ?_⟩
                                  · refine ⟨b, K, _, el, vo ++ vl, snoc_get σ (b, K), setRow_heap w b c0 _ el (0, 0) h2, concL_le (snoc_le σ (b, K)) (concL_append k1 hvl), fun j v hv => ?_, q1, ?_, q3, ?_⟩
                                    · have hov : vo = vs.take (len * i.size) := by
                                        have := concL_take (len * i.size) h3
                                        rw [← e1] at this
                                        rw [this] at k1
                                        cases k1
                                        rfl
                                      have hvo : vo.length = len * i.size := k2
                                      have hct : (c0.toList.take (len * i.size)).length = len * i.size := by
                                        rw [List.length_take, Array.length_toList]
                                        omega
                                      simp only [List.getElem?_toArray]
                                      rw [List.append_assoc]
                                      rcases Nat.lt_or_ge j (len * i.size) with hj | hj
                                      · rw [List.getElem?_append_left (by omega)] at hv
                                        rw [List.getElem?_append_left (by omega), List.getElem?_take, if_pos hj]
                                        rw [hov, List.getElem?_take, if_pos hj] at hv
                                        simpa using h4 j v hv
                                      · rw [List.getElem?_append_right (by omega), hvo] at hv
                                        have hj2 := (List.getElem?_eq_some_iff.1 hv).1
                                        rw [List.getElem?_append_right (by omega), hct, List.getElem?_append_left hj2]
                                        exact hv
                                    · simp only [List.size_toArray, List.length_append, List.length_take, List.length_drop, Array.length_toList]
                                      omega
                                    · have r1 := concL_length k1
                                      have r2 := concL_length hvl
                                      simp only [List.size_toArray, List.length_append, List.length_take, List.length_drop, Array.length_toList]
                                      omega
                                  · have f1 := hfirst w (fun k _ => rfl) n (Nat.le_refl _)
                                    rw [List.take_of_length_le (by omega)] at f1
                                    have f2 := run_append_fit (P := P) (w := w) t ty e i hd hi ⟨b, 0, none⟩ len K n xb xc vl hK f1 (by rw [addr_add, Nat.zero_add]; exact hst)
                                    simpa using f2
                              · cases he
                            · cases he
                        · cases he
                      · cases he
                    · cases he
                  · cases he
                · cases he
              · cases he
            · cases he
          · cases he
      · cases he
    · cases he
  · cases he

end
end
end Go.Proofs.YtjmiaemabhlnjaaGreatDoor.Sym
