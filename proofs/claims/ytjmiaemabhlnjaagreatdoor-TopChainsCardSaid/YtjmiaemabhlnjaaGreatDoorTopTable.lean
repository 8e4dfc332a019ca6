import Derived.Test.YtjmiaemabhlnjaaGreatDoorTopRows2
import Derived.Test.YtjmiaemabhlnjaaGreatDoorTopMap2
import Derived.StillTailTactics
import Derived.Maps.AppendAt
set_option linter.all false
set_option maxRecDepth 100000
/-! name.table: all mnemonics. -/
namespace Go.Proofs.YtjmiaemabhlnjaaGreatDoor.Top
open Go Go.RowKit Go.YtjmiaemabhlnjaaGreatDoorMap

abbrev Row := Key × List UInt8
def delta (x : Row) : List Row := (Lib.fields x.2).zipIdx.map fun p => ((x.1.1, x.1.2.1 + (p.2 : Int), x.1.2.2), Lib.trimSuffix p.1 [46])
def tabL : List Row := rowsL.flatMap delta

theorem tabKeys : (tabL.all fun p => (keyOf Tryz.prog 265 (kv p.1)).isSome) = true := by kernel_rfl
theorem tabNodup : (tabL.map (·.1)).Nodup := of_decide_eq_true (by kernel_rfl)
theorem rowsAscii : (rowsL.all fun p => p.2.all fun b => decide (b.toNat < 128)) = true := by kernel_rfl
theorem rowsShort : (rowsL.all fun p => decide (p.2.length < 1000)) = true := by kernel_rfl
theorem tabShort : (rowsL.all fun p => (Lib.fields p.2).all fun s => decide (s.length < 1000)) = true := by kernel_rfl
theorem rowsSmall : (rowsL.all fun p => decide (0 ≤ p.1.2.1) && decide (p.1.2.1 < 100) && decide ((Lib.fields p.2).length < 100)) = true := by kernel_rfl

theorem new_key {out rest : List Row} {x y : Row} {i : Nat} (hp : (out ++ delta x ++ rest).Perm tabL) (hy : (delta x)[i]? = some y) : (∀ p ∈ out ++ (delta x).take i, p.1 ≠ y.1) ∧ y ∈ tabL ∧ ∀ p ∈ out ++ (delta x).take i, p ∈ tabL := by
  have hn : ((out ++ delta x ++ rest).map (·.1)).Nodup := (hp.map _).nodup_iff.2 tabNodup
  have hsplit : delta x = (delta x).take i ++ y :: (delta x).drop (i + 1) := by
    obtain ⟨h1, h2⟩ := List.getElem?_eq_some_iff.1 hy
    conv => lhs; rw [← List.take_append_drop i (delta x), List.drop_eq_getElem_cons h1, h2]
  refine ⟨fun p hpm e => ?_, hp.mem_iff.1 ?_, fun p hpm => hp.mem_iff.1 ?_⟩
  · rw [hsplit] at hn
    have : ((out ++ (delta x).take i ++ y :: ((delta x).drop (i + 1) ++ rest)).map (·.1)).Nodup := by simpa using hn
    rw [List.map_append, List.nodup_append] at this
    exact this.2.2 _ (List.mem_map_of_mem hpm) _ (by simp) e
  · simp only [List.mem_append]
    exact .inl (.inr (List.mem_of_getElem? hy))
  · simp only [List.mem_append] at hpm ⊢
    rcases hpm with h | h
    · exact .inl (.inl h)
    · exact .inl (.inr (List.mem_of_mem_take h))

/-- The same, spelt so that simp leaves the quantifier alone. -/
def RowX : Type := Key × List UInt8
instance : DecidableEq RowX := inferInstanceAs (DecidableEq (Key × List UInt8))
def pvX (x : RowX) : Pair := pv x

def intOf : Value → Int | .int _ n => n | _ => 0

structure Aside (p : Prop) : Prop where
  out : p

theorem tab_below {P : Program} {w w' : World} {name : String} {k : IntKind} {zs : List Int} (h : Lib.TabIs P w name k zs) (hb : Below w.heap.size w w') : Lib.TabIs P w' name k zs := by
  unfold Lib.TabIs World.var? at *
  cases hg : P.globalNamed name with
  | none => simp [hg] at h
  | some g =>
    simp only [hg, Option.bind_some] at h ⊢
    have lt : g < w.heap.size := by
      rcases Nat.lt_or_ge g w.heap.size with h' | h'
      · exact h'
      · rw [Array.getElem?_eq_none h'] at h; cases h
    rw [hb.block g lt]
    exact h

theorem table_any (w : World) (m : Int) (hm : w.cell? ⟨0, 0, none⟩ = some (.int .i64 m)) (htab : Lib.TabIs Tryz.prog w "strings.asciiSpace" .u8 Lib.asciiSpaceTab) :
    Calls Tryz.prog 175 #[] w fun e w' => ∃ B, e = .returned (.map (some B)) ∧ w.heap.size ≤ B ∧ MapIs w' B (tabL.map pv) ∧ Below w.heap.size w w' := by
  have htabA : ∀ w', Below w.heap.size w w' → Lib.TabIs Tryz.prog w' "strings.asciiSpace" .u8 Lib.asciiSpaceTab := fun w' hb => tab_below htab hb
  have hmm := @run_makeMap Tryz.prog
  have h0 := World.block_lt_of_cell? _ _ hm
  have hm1 : (w.alloc (.map #[] 0)).cell? ⟨0, 0, none⟩ = some (.int .i64 m) := (World.cell?_alloc_old _ _ _ (Nat.ne_of_lt h0)).trans hm
  go_enter Tryz.func175, Tryz.ntmps175
  go_wp2_with (first
    | (with_reducible refine (rows_any _ m hm1).mono ?_; rintro e w1 ⟨A, rfl, hA, hA1, hB1⟩)
    | (at_range; refine wpList_range_map _ rfl _ 262 rfl 265 9 Tryz.underlying262 A _ rfl hA1 ?_; intro w2 hit hg2 hs2)
    | go_in)
  have esz : (w.alloc (.map #[] 0)).heap.size = w.heap.size + 1 := by simp
  rw [esz] at hA
  have M0 : MapIs w2 w.heap.size [] := ((MapIs.made w).same (hB1.block _ (by omega))).kept hg2 (by simp)
  have B0 : Below w.heap.size w w2 := (((Below.refl _ _).alloc (Nat.le_refl _) _).trans (hB1.mono (by omega))).grown hg2 (by have := hB1.size; omega) (fun j hj => by cases hj)
  have hr1 : w.heap.size < w1.heap.size := by have := hB1.size; omega
  generalize hR : w1.heap.size = r at hit hr1 ⊢
  have hs2r : w2.heap.size = r + 1 := by omega
  clear hR hs2 hg2 hB1 hA1
  have HIT := Aside.mk hit
  have HM := Aside.mk M0
  have HB := Aside.mk B0
  clear hit M0 B0
  go_frame
  go_loopw [9] (fun _ wr => ∃ (out left : List Row), Aside (IterAt wr A r (rowsL.map pv) (left.map pv)) ∧ Aside (MapIs wr w.heap.size (out.map pv)) ∧ Aside ((out ++ left.flatMap delta).Perm tabL) ∧ Aside (Below w.heap.size w wr) ∧ Aside (∀ x ∈ left, x ∈ rowsL)) (fun _ wr => wr.rangeLeft A r)
  case atStart => exact ⟨[], rowsL, HIT, HM, ⟨List.Perm.refl _⟩, HB, ⟨fun x h => h⟩⟩
  case round =>
    obtain ⟨out, left, HI, HO, HP, HW, HS⟩ := hrel
    go_wp2_with (first
      | (at_next; refine wpList_next_map (α := RowX) _ pvX rfl _ rfl A r _ left rfl HI.out ?_ ?_)
      | go_in)
    · intro hl
      go_wp2
      go_ret
      subst hl
      refine ⟨_, rfl, Nat.le_refl _, HO.out.perm ?_, HW.out⟩
      have h2 : (out ++ ([] : List Row).flatMap delta).Perm tabL := HP.out
      rw [List.flatMap_nil, List.append_nil] at h2
      exact h2.map pv
    · intro x left' w3 hp hI3 hg3 hs3 hen
      obtain ⟨wo, hwo⟩ : ∃ x, x = wr := ⟨_, rfl⟩
      subst hwo
      obtain ⟨⟨k, o, u⟩, s⟩ := x
      have hxr : ((k, o, u), s) ∈ rowsL := HS.out _ (hp.symm.mem_iff.1 List.mem_cons_self)
      have hen' : (Instr.entry (.pointer (some ⟨r, 0, none⟩))).run Tryz.prog w3 = .ok (.tuple #[.agg #[.int .i64 k, .int .i64 o, .bool u], .string ⟨s.toArray⟩]) w3 := hen
      have e0 : (pvX ((k, o, u), s)).1 = .agg #[.int .i64 k, .int .i64 o, .bool u] := rfl
      have e1 : (pvX ((k, o, u), s)).2 = .string ⟨s.toArray⟩ := rfl
      rw [e0, e1]
      clear hen e0 e1
      have hsa : s.length < 1000 := of_decide_eq_true (List.all_eq_true.1 rowsShort _ hxr)
      have hasc : ∀ (j : Nat) b, (⟨s.toArray⟩ : ByteArray).data.toList[j]? = some b → b.toNat < 128 := fun j b hj => by
        have h1 := List.all_eq_true.1 rowsAscii _ hxr
        have h2 := List.all_eq_true.1 h1 b (List.mem_of_getElem? (by simpa using hj))
        exact of_decide_eq_true h2
      have H3 := Aside.mk hI3
      have G3 := Aside.mk hg3
      have HA := Aside.mk hasc
      have HX := Aside.mk hxr
      have HPP := Aside.mk hp
      clear hI3 hg3 hasc hxr hp
      have hT4 := htabA _ ((HW.out.grown G3.out HW.out.size (fun j hj => by cases hj; omega)).alloc (by have := HW.out.size; omega) (.cells #[.int .i64 k, .int .i64 o, .bool u] 265))
      have hsz : (⟨s.toArray⟩ : ByteArray).size < 4294967281 := by
        show s.toArray.size < 4294967281
        simp
        omega
      have hF := Tryz.strings_Fields ⟨s.toArray⟩ (w3.alloc (.cells #[.int .i64 k, .int .i64 o, .bool u] 265)) hsz HA.out hT4
      rw [show (⟨s.toArray⟩ : ByteArray).data.toList = s from rfl] at hF
      generalize hfs : Lib.fields s = fs at hF
      have HFS := Aside.mk hfs
      clear hfs
      obtain ⟨n, hn⟩ : ∃ n, fs.length = n := ⟨_, rfl⟩
      rw [hn] at hF
      have HN := Aside.mk hn
      clear hn hT4
      go_wp2_with (with_reducible refine hF.mono ?_; rintro e w5 ⟨rfl, rfl⟩)
      have hws := HW.out.size
      have h5a : (w3.alloc (.cells #[.int .i64 k, .int .i64 o, .bool u] 265)).heap.size = wo.heap.size + 1 := by simp [hs3]
      generalize hw5 : (w3.alloc (.cells #[.int .i64 k, .int .i64 o, .bool u] 265)).alloc (Obj.cells (List.map (fun l => Value.string { data := l.toArray }) fs).toArray 9) = w5
      have hg5 : wo.grownBy w5 (some r) := by
        rw [← hw5]
        exact (G3.out.trans (World.grownBy_alloc _ _ _)).trans (World.grownBy_alloc _ _ _)
      have HT5 : w5.heap[wo.heap.size]? = some (.cells #[.int .i64 k, .int .i64 o, .bool u] 265) := by
        rw [← hw5, (MapKept.heap_alloc _ _).2 _ (by omega), ← hs3]
        exact (MapKept.heap_alloc _ _).1
      have HF5 : w5.heap[wo.heap.size + 1]? = some (.cells (List.map (fun l => Value.string { data := l.toArray }) fs).toArray 9) := by
        rw [← hw5, ← h5a]
        exact (MapKept.heap_alloc _ _).1
      have I5 : IterAt w5 A r (rowsL.map pv) (left'.map pvX) := by
        rw [← hw5]
        exact (H3.out.kept (World.grownBy_alloc _ _ none) (by simp) (by simp)).kept (World.grownBy_alloc _ _ none) (by simp) (by simp)
      have hs5 : w5.heap.size = wo.heap.size + 2 := by rw [← hw5]; simp [hs3]
      have M5 : MapIs w5 w.heap.size (out.map pv) := HO.out.kept hg5 (by intro e; have := Option.some.inj e; omega)
      have B5 : Below w.heap.size w w5 := HW.out.grown hg5 HW.out.size (fun j hj => by cases hj; omega)
      have HI5 := Aside.mk I5
      have HM5 := Aside.mk M5
      have HB5 := Aside.mk B5
      have HT := Aside.mk HT5
      have HFb := Aside.mk HF5
      have hAr : A < wo.heap.size ∧ r < wo.heap.size := ⟨HI.out.map.lt, HI.out.lt⟩
      clear hw5 hg5 HT5 HF5 I5 M5 B5 H3 G3 hF h5a hs3 hen'
      go_loopw [17] (fun i wx => ∃ j : Nat, i = .int .i64 j ∧ j ≤ n ∧ Aside (MapIs wx w.heap.size ((out ++ (delta ((k, o, u), s)).take j).map pv)) ∧ Aside (w5.grownBy wx (some w.heap.size))) (fun i _ => n - (intOf i).toNat)
      case atStart => exact ⟨0, rfl, Nat.zero_le _, ⟨by simpa using HM5.out⟩, ⟨⟨rfl, rfl, rfl, Nat.le_refl _, fun _ _ _ => rfl⟩⟩⟩
      case round =>
        obtain ⟨j, rfl, hj, HMX, HGX⟩ := hrel
        by_cases hlt : j < n
        · obtain ⟨t, hft⟩ : ∃ t, fs[j]? = some t := ⟨_, List.getElem?_eq_getElem (by rw [HN.out]; exact hlt)⟩
          have ht0 : wr.heap[wo.heap.size]? = some (.cells #[.int .i64 k, .int .i64 o, .bool u] 265) := (HGX.out.block _ (by omega) (by intro e; have := Option.some.inj e; omega)).trans HT.out
          have ht1 : wr.heap[wo.heap.size + 1]? = some (.cells (List.map (fun l => Value.string { data := l.toArray }) fs).toArray 9) := (HGX.out.block _ (by omega) (by intro e; have := Option.some.inj e; omega)).trans HFb.out
          have e0 : wr.cell? ⟨wo.heap.size, 0, none⟩ = some (.int .i64 k) := by simp [World.cell?, ht0]
          have e1 : wr.cell? ⟨wo.heap.size, 1, none⟩ = some (.int .i64 o) := by simp [World.cell?, ht0]
          have e2 : wr.cell? ⟨wo.heap.size, 2, none⟩ = some (.bool u) := by simp [World.cell?, ht0]
          have ej : wr.cell? ⟨wo.heap.size + 1, j, none⟩ = some (.string ⟨t.toArray⟩) := by simp [World.cell?, ht1, hft]
          have HTT := Aside.mk hft
          have HT0 := Aside.mk ht0
          clear hft ht0 ht1
          go_wp2_with fail
          have hx := HX.out
          have hsm := List.all_eq_true.1 rowsSmall _ hx
          simp only [Bool.and_eq_true, decide_eq_true_eq] at hsm
          obtain ⟨⟨ho0, ho1⟩, hfn⟩ := hsm
          rw [HFS.out, HN.out] at hfn
          have hwr : IntKind.i64.wrap (o + (j : Int)) = o + (j : Int) := by simp [IntKind.wrap, IntKind.bits, IntKind.signed]; omega
          have hts : (⟨t.toArray⟩ : ByteArray).size ≤ 9223372036854775807 := by
            have h1 := List.all_eq_true.1 tabShort _ hx
            have h2 := List.all_eq_true.1 h1 t (by rw [HFS.out]; exact List.mem_of_getElem? HTT.out)
            have h3 : t.length < 1000 := of_decide_eq_true h2
            show t.toArray.size ≤ _
            simp
            omega
          have hTS := fun w => Tryz.strings_TrimSuffix ⟨t.toArray⟩ ⟨#[46]⟩ w hts
          go_still_tail 12, (by kernel_rfl)
          still_call (hTS _)
          repeat still_step
          try refine wpStill_nil ?_
          have hy : (delta ((k, o, u), s))[j]? = some ((k, o + (j : Int), u), Lib.trimSuffix t [46]) := by
            simp [delta, HFS.out, HTT.out]
          have hpp : List.Perm left (((k, o, u), s) :: left') := HPP.out
          have hp2 : (out ++ delta ((k, o, u), s) ++ List.flatMap delta left').Perm tabL := by
            refine List.Perm.trans ?_ HP.out
            rw [List.append_assoc]
            refine List.Perm.append_left _ ?_
            have h2 : (left.flatMap delta).Perm (delta ((k, o, u), s) ++ List.flatMap delta left') := hpp.flatMap_right delta
            exact h2.symm
          obtain ⟨n1, n2, n3⟩ := new_key hp2 hy
          have hk : ∀ p ∈ tabL, ∃ kl, keyOf Tryz.prog 265 (kv p.1) = some kl := fun p hp => Option.isSome_iff_exists.1 (List.all_eq_true.1 tabKeys p hp)
          obtain ⟨kl, hkl⟩ := hk _ n2
          have k1 : ∀ p ∈ (out ++ (delta ((k, o, u), s)).take j).map pv, ∃ kl, keyOf Tryz.prog 265 p.1 = some kl := by
            intro p hpm
            obtain ⟨z, hz, rfl⟩ := List.mem_map.1 hpm
            exact hk z (n3 z hz)
          have k2 : ∀ p ∈ (out ++ (delta ((k, o, u), s)).take j).map pv, p.1 ≠ kv (k, o + (j : Int), u) := by
            intro p hpm
            obtain ⟨z, hz, rfl⟩ := List.mem_map.1 hpm
            intro e
            exact n1 z hz (kv_inj e)
          refine wpList_insert_map _ rfl _ _ _ 262 rfl 265 9 K265 Tryz.underlying262 w.heap.size _ rfl (HMX.out.same rfl) (kv (k, o + (j : Int), u)) (bs (Lib.trimSuffix t [46])) kl rfl rfl hkl k1 k2 ?_
          intro w6 hM6 hg6 hs6
          have hg7 : wr.grownBy w6 (some w.heap.size) := ⟨hg6.os, hg6.tape, hg6.output, hg6.size, hg6.block⟩
          have hM7 : MapIs w6 w.heap.size ((out ++ (delta ((k, o, u), s)).take (j + 1)).map pv) := by
            refine hM6.perm ?_
            rw [List.take_succ, hy, Option.toList_some, ← List.append_assoc, List.map_append (l₂ := [_])]
            exact (List.perm_append_singleton _ _).symm
          have HM7 := Aside.mk hM7
          have HG7 := Aside.mk (HGX.out.trans hg7)
          clear hM6 hg6 hs6 hg7 hM7 k1 k2 hkl n1 n2 n3 hp2 hpp hy hk hTS
          go_wp2
          refine ⟨⟨j + 1, by simp, by omega, HM7, HG7⟩, ?_⟩
          simp only [intOf]
          omega
        · have hjn : j = n := by omega
          subst hjn
          go_wp2
          have hdl : (delta ((k, o, u), s)).length = j := by simp [delta, HFS.out, HN.out]
          have hIw := HI5.out.kept HGX.out (by intro e; have := Option.some.inj e; omega) (by intro e; have := Option.some.inj e; omega)
          have hpp : List.Perm left (((k, o, u), s) :: left') := HPP.out
          have hMw := HMX.out
          rw [List.take_of_length_le (by omega)] at hMw
          refine ⟨⟨out ++ delta ((k, o, u), s), left', ⟨hIw⟩, ⟨hMw⟩, ⟨?_⟩, ⟨HB5.out.grown HGX.out HB5.out.size (fun i hi => by cases hi; exact Nat.le_refl _)⟩, ⟨fun y hy => HS.out y (hpp.symm.mem_iff.1 (List.mem_cons_of_mem _ hy))⟩⟩, ?_⟩
          · refine List.Perm.trans ?_ HP.out
            rw [List.append_assoc]
            refine List.Perm.append_left _ ?_
            have h2 : (left.flatMap delta).Perm (delta ((k, o, u), s) ++ List.flatMap delta left') := hpp.flatMap_right delta
            exact h2.symm
          · rw [hIw.left_eq, HI.out.left_eq, List.length_map, List.length_map]
            have h1 : left.length = List.length (α := RowX) left' + 1 := hpp.length_eq
            omega
end Go.Proofs.YtjmiaemabhlnjaaGreatDoor.Top
