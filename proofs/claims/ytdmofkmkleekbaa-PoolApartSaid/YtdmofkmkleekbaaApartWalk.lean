/-
  PoolApart.
-/
import Derived.Test.YtdmofkmkleekbaaFew
import Derived.Maps.AppendAt
namespace Go.Proofs.Ytdmofkmkleekbaa.Pool
open Go Go.RowKit

inductive Hold (p : Prop) : Prop where | mk (h : p) : Hold p
theorem holdp {p : Prop} (h : Hold p) : p := by cases h; assumption
theorem ofL_snoc (l : List (Int × Int)) (x : Int × Int) : ofL (l ++ [x]) = (addL (ofL l).1 x, (ofL l).2 ++ [((ofL l).1.idxOf x : Int)]) := by
  unfold ofL
  rw [List.foldl_append]
  rfl
def valsN (n a0 a1 : Int) (k : Nat) : List (Int × Int) := (List.range k).map fun i => (n, if i % 2 = 0 then a0 else a1)
def atsN (a0 a1 : Int) (k : Nat) : List Int := (List.range k).map fun i => if a0 = a1 then 0 else ((i % 2 : Nat) : Int)
theorem valsN_len (n a0 a1 : Int) (k : Nat) : (valsN n a0 a1 k).length = k := by simp [valsN]
theorem atsN_len (a0 a1 : Int) (k : Nat) : (atsN a0 a1 k).length = k := by simp [atsN]
theorem valsN_succ (n a0 a1 : Int) (k : Nat) : valsN n a0 a1 (k + 1) = valsN n a0 a1 k ++ [(n, if k % 2 = 0 then a0 else a1)] := by simp [valsN, List.range_succ]
theorem atsN_succ (a0 a1 : Int) (k : Nat) : atsN a0 a1 (k + 1) = atsN a0 a1 k ++ [if a0 = a1 then 0 else ((k % 2 : Nat) : Int)] := by simp [atsN, List.range_succ]
def bothN (n a0 a1 : Int) (k : Nat) : List (Int × Int) := if 1 < k ∧ ¬ a0 = a1 then [(n, a0), (n, a1)] else [(n, a0)]
theorem apart_law (n a0 a1 : Int) : ∀ k, ofL (valsN n a0 a1 (k + 1)) = (bothN n a0 a1 (k + 1), atsN a0 a1 (k + 1)) := by
  intro k
  induction k with
  | zero => simp [valsN, atsN, ofL, addL, bothN]
  | succ k ih =>
    rw [valsN_succ, ofL_snoc, ih, atsN_succ a0 a1 (k + 1)]
    by_cases ha : a0 = a1
    · subst ha
      simp [bothN, addL]
    · have hb : ¬ a1 = a0 := fun h => ha h.symm
      have hx : ((n, a0) == (n, a1)) = false := by simp [ha]
      rcases Nat.mod_two_eq_zero_or_one (k + 1) with h | h
      · have hk : 1 < k + 1 := by omega
        have hk2 : 0 < k := by omega
        simp [bothN, addL, ha, h, hk2]
      · by_cases hk : k = 0
        · subst hk
          simp [bothN, addL, ha, hb, List.idxOf_cons, h, hx]
        · have hk2 : 0 < k := by omega
          simp [bothN, addL, ha, hb, h, hk2, List.idxOf_cons, hx]

/-- Two rows that grow side by side. -/
structure ApInv (W wr : World) (a0 a1 : Int) (l : List (Int × Int)) (z : List Int) (v u : Value) : Prop where
  ov : wr.ownsRow (W.heap.size + 1) 25 2 v l.length (flat l)
  ou : wr.ownsRow (W.heap.size + 1) 3 1 u z.length (z.map (Value.int .i64))
  ne : ∃ g h, v.ownBlock = some g ∧ u.ownBlock = some h ∧ g ≠ h
  c0 : wr.cell? ⟨W.heap.size, 0, none⟩ = some (.int .i64 a0)
  c1 : wr.cell? ⟨W.heap.size, 1, none⟩ = some (.int .i64 a1)
  bl : Bl W wr
  sz : W.heap.size + 1 ≤ wr.heap.size
theorem bl_own {W wr w2 : World} {row : Option Nat} (h : Bl W wr) (o : Obj) (hg : (wr.alloc o).grownBy w2 row) (hr : ∀ g, row = some g → W.heap.size ≤ g) : Bl W w2 :=
  ⟨(h.alloc o).out.grown hg (by have := (h.alloc o).out.size; omega) hr⟩
theorem cell_grown {wr w2 : World} {row : Option Nat} {o : Obj} (hg : (wr.alloc o).grownBy w2 row) {b k : Nat} {v : Value} (h : wr.cell? ⟨b, k, none⟩ = some v) (hr : some b ≠ row) : w2.cell? ⟨b, k, none⟩ = some v :=
  hg.cell (((Bl.refl wr).alloc o).cell h) hr
theorem ApInv.growV {W wr w2 : World} {a0 a1 : Int} {l : List (Int × Int)} {z : List Int} {v u v' : Value} {x y : Int} {o : Obj} (h : ApInv W wr a0 a1 l z v u)
    (hown : w2.ownsRow (W.heap.size + 1) 25 2 v' (l.length + 1) (flat l ++ [.int .u32 x, .int .i64 y])) (hg : (wr.alloc o).grownBy w2 v.ownBlock)
    (hloc : v'.ownBlock = v.ownBlock ∨ v'.ownBlock = some (wr.alloc o).heap.size) : ApInv W w2 a0 a1 (l ++ [(x, y)]) z v' u := by
  obtain ⟨g, k, e1, e2, hne⟩ := h.ne
  have hlt := h.ov.lt g e1
  have hlu := h.ou.lt k e2
  have ha : (wr.alloc o).heap.size = wr.heap.size + 1 := by simp
  have hs := hg.size
  refine ⟨?_, (h.ou.alloc o).kept hg (.inr (by rw [e1, e2]; exact fun e => hne (Option.some.inj e).symm)), ?_, cell_grown hg h.c0 (by rw [e1]; exact fun e => (by have := Option.some.inj e; omega)), cell_grown hg h.c1 (by rw [e1]; exact fun e => (by have := Option.some.inj e; omega)), bl_own h.bl o hg (fun q hq => (by rw [e1] at hq; have := Option.some.inj hq; omega)), by have := h.sz; omega⟩
  · rw [List.length_append, flat_append]; exact hown
  · rcases hloc with e | e
    · exact ⟨g, k, by rw [e, e1], e2, hne⟩
    · exact ⟨_, k, e, e2, by omega⟩
theorem ApInv.growU {W wr w2 : World} {a0 a1 : Int} {l : List (Int × Int)} {z : List Int} {v u v' : Value} {x : Int} {o : Obj} (h : ApInv W wr a0 a1 l z v u)
    (hown : w2.ownsRow (W.heap.size + 1) 3 1 v' (z.length + 1) (z.map (Value.int .i64) ++ [.int .i64 x])) (hg : (wr.alloc o).grownBy w2 u.ownBlock)
    (hloc : v'.ownBlock = u.ownBlock ∨ v'.ownBlock = some (wr.alloc o).heap.size) : ApInv W w2 a0 a1 l (z ++ [x]) v v' := by
  obtain ⟨g, k, e1, e2, hne⟩ := h.ne
  have hlt := h.ov.lt g e1
  have hlu := h.ou.lt k e2
  have ha : (wr.alloc o).heap.size = wr.heap.size + 1 := by simp
  have hs := hg.size
  refine ⟨(h.ov.alloc o).kept hg (.inr (by rw [e1, e2]; exact fun e => hne (Option.some.inj e))), ?_, ?_, cell_grown hg h.c0 (by rw [e2]; exact fun e => (by have := Option.some.inj e; omega)), cell_grown hg h.c1 (by rw [e2]; exact fun e => (by have := Option.some.inj e; omega)), bl_own h.bl o hg (fun q hq => (by rw [e2] at hq; have := Option.some.inj hq; omega)), by have := h.sz; omega⟩
  · rw [List.length_append, List.map_append]; exact hown
  · rcases hloc with e | e
    · exact ⟨g, k, e1, by rw [e, e2], hne⟩
    · exact ⟨g, _, e1, e, by omega⟩
theorem newsV (W : World) (x y : Int) (T : TypeId) : ∀ j u, [Value.int .u32 x, .int .i64 y][j]? = some u → (W.alloc (.cells #[.int .u32 x, .int .i64 y] T)).cell? ((⟨W.heap.size, 0, none⟩ : Addr).add j) = some u :=
  new_cells W [.int .u32 x, .int .i64 y] T _ rfl
theorem newsV2 (W : World) (g : Nat) (hg : W.heap.size = g) (x y : Int) (T : TypeId) : ∀ j u, [Value.int .u32 x, .int .i64 y][j]? = some u → (W.alloc (.cells #[.int .u32 x, .int .i64 y] T)).cell? ((⟨g, 0, none⟩ : Addr).add j) = some u := by
  subst hg
  exact newsV W x y T
theorem kAll (m : Int) (h : (Lit.int .u8 m).wf = true) : ∃ K : Nat, wrap64 (1 + wrap64 (m.tmod 32)) = ((K + 1 : Nat) : Int) ∧ K < 32 := by
  obtain ⟨h0, h1⟩ : 0 ≤ m ∧ m < 256 := by
    simp [Lit.wf, IntKind.min, IntKind.max, IntKind.signed, IntKind.bits] at h
    omega
  refine ⟨(m % 32).toNat, ?_, by omega⟩
  rw [Int.tmod_eq_emod_of_nonneg h0]
  unfold wrap64
  omega

set_option maxRecDepth 100000 in
set_option maxHeartbeats 8000000 in
theorem apart_eq (n a0 m : Int) (W : World) (wm : (Lit.int .u8 m).wf = true) :
    Calls Try.prog 6 #[.int .u32 n, .agg #[.int .i64 a0, .int .i64 a0], .int .u8 m] W fun e w' => e = .returned (.bool true) ∧ Below W.heap.size W w' := by
  obtain ⟨K, hK, hK32⟩ := kAll m wm
  have HK := Aside.mk hK
  clear hK
  obtain ⟨i0, hi, hz0, hz1, hz2⟩ := info_parts infoV
  have HI0 := Aside.mk hi
  have HZ0 := Aside.mk hz0
  have HZ1 := Aside.mk hz1
  have HZ2 := Aside.mk hz2
  clear hi hz0 hz1 hz2
  obtain ⟨j0, hi, hz0, hz1, hz2⟩ := info_parts infoI
  have HJ0 := Aside.mk hi
  have HY0 := Aside.mk hz0
  have HY1 := Aside.mk hz1
  have HY2 := Aside.mk hz2
  clear hi hz0 hz1 hz2
  obtain ⟨W1, hW1⟩ : ∃ W1, W1 = W.alloc (.cells #[.int .i64 a0, .int .i64 a0] 36) := ⟨_, rfl⟩
  have HWB : Aside (Bl W W1) := ⟨by rw [hW1]; exact (Bl.refl _).alloc _⟩
  have B0 : Aside (W1.cell? ⟨W.heap.size, 0, none⟩ = some (.int .i64 a0)) := ⟨by rw [hW1, World.cell?_alloc_at _ _ _ _ rfl]; rfl⟩
  have B1 : Aside (W1.cell? ⟨W.heap.size, 1, none⟩ = some (.int .i64 a0)) := ⟨by rw [hW1, World.cell?_alloc_at _ _ _ _ rfl]; rfl⟩
  have HW := Aside.mk hW1
  clear hW1
  go_enter Try.func6, Try.ntmps6
  go_wp2_with fail
  rw [← HW.out]
  refine (shown_any _).mono ?_
  rintro e w1 ⟨rfl, hb⟩
  have HB := Aside.mk hb
  clear hb
  go_wp2_with fail
  rw [HK.out]
  have b0 := HB.out.cell B0.out
  have b1 := HB.out.cell B1.out
  have hs1 : W.heap.size < w1.heap.size := World.block_lt_of_cell? w1 _ b0
  have hst : ApInv W ((w1.alloc (.cells #[] 25)).alloc (.cells #[] 3)) a0 a0 [] [] (.slice (some ⟨w1.heap.size, 0, none⟩) 0 0) (.slice (some ⟨w1.heap.size + 1, 0, none⟩) 0 0) := by
    refine ⟨?_, ?_, ⟨w1.heap.size, w1.heap.size + 1, rfl, rfl, by omega⟩, (((Bl.refl w1).alloc _).alloc _).cell b0, (((Bl.refl w1).alloc _).alloc _).cell b1, ((HWB.out.trans HB.out).alloc _).alloc _, by simp; omega⟩
    · refine World.ownsRow.alloc ?_ _
      exact ⟨rfl, .inr ⟨w1.heap.size, 0, #[], rfl, by omega, heap_alloc_new w1 _, Nat.le_refl _, by decide, rfl, rfl⟩⟩
    · exact ⟨rfl, .inr ⟨w1.heap.size + 1, 0, #[], rfl, by omega, by simpa using heap_alloc_new (w1.alloc (.cells #[] 25)) (.cells #[] 3), Nat.le_refl _, by decide, rfl, rfl⟩⟩
  have HST := Aside.mk hst
  clear hst b0 b1
  go_loopw [9, 10, 11] (fun v u i wr => ∃ (k : Nat), i = .int .i64 k ∧ k ≤ K + 1 ∧ Aside (ApInv W wr a0 a0 (valsN n a0 a0 k) (atsN a0 a0 k) v u)) (fun _ _ i _ => K + 1 - (intOf i).toNat)
  case atStart => exact ⟨0, rfl, by omega, HST⟩
  case round =>
    obtain ⟨k, rfl, hk, HI⟩ := hrel
    have LV := Aside.mk (valsN_len n a0 a0 k)
    have LA := Aside.mk (atsN_len a0 a0 k)
    by_cases hlt : k < K + 1
    · have c0 := HI.out.c0
      have c1 := HI.out.c1
      have hsz := HI.out.sz
      have HV0 := Aside.mk HI.out.ov
      have HU0 := Aside.mk HI.out.ou
      rw [LV.out] at HV0
      have hp : (k : Int).tmod 2 = ((k % 2 : Nat) : Int) := by rw [Int.tmod_eq_emod_of_nonneg (by omega)]; omega
      obtain ⟨pr, hpr⟩ : ∃ pr, k % 2 = pr := ⟨_, rfl⟩
      have hpr2 : pr = 0 ∨ pr = 1 := by omega
      have HP := Aside.mk hpr
      rw [hpr] at hp
      clear hpr
      rcases hpr2 with rfl | rfl
      · go_wp2_with (at_builtin; refine holdp ?_)
        refine Hold.mk ?_
        refine wpList_append_own_at _ rfl (.tmp 28) (.tmp 35) 22 rfl (W.heap.size + 1) 25 i0 (.agg #[.int .u32 0, .int .i64 0]) 2 16 Try.underlying22 HI0.out HZ0.out HZ1.out HZ2.out rfl (by decide) u9 k _ rfl ((HV0.out).alloc _) ⟨wr.heap.size, 0, none⟩ 1 1 [.int .u32 n, .int .i64 a0] rfl rfl (newsV wr n a0 25) (news1 n a0) (by unfold maxLen; omega) (by omega) (by simp; omega) ?_
        intro v2 w2 hown hgrow _ hloc
        have HG := Aside.mk (ApInv.growV HI.out (by rw [LV.out]; exact hown) hgrow hloc)
        have HU := Aside.mk HG.out.ou
        rw [LA.out] at HU
        have hsz2 := HG.out.sz
        have c0 := HG.out.c0
        have c1 := HG.out.c1
        clear hown hgrow hloc
        go_wp2_with (at_builtin; refine holdp ?_)
        refine Hold.mk ?_
        refine wpList_append_own_at _ rfl (.tmp 44) (.tmp 46) 30 rfl (W.heap.size + 1) 3 j0 (.int .i64 0) 1 8 Try.underlying30 HJ0.out HY0.out HY1.out HY2.out rfl (by decide) u10 k _ rfl ((HU.out).alloc _) ⟨w2.heap.size, 0, none⟩ 1 1 [.int .i64 0] rfl rfl (newsI w2 0 3) (newsI1 0) (by unfold maxLen; omega) (by omega) (by simp; omega) ?_
        intro v3 w3 hown hgrow _ hloc
        have HG2 := Aside.mk (ApInv.growU HG.out (by rw [LA.out]; exact hown) hgrow hloc)
        clear hown hgrow hloc
        go_wp2_with fail
        go_roundw
        case rel =>
         (repeat apply Exists.intro)
         refine ⟨?_, rfl⟩
         exact ⟨k + 1, by go_num, by omega, ⟨by
          have := HG2.out
          rw [valsN_succ, atsN_succ, HP.out]
          simpa using this⟩⟩
        case measure => simp [intOf]; omega
      · go_wp2_with (at_builtin; refine holdp ?_)
        refine Hold.mk ?_
        refine wpList_append_own_at _ rfl (.tmp 28) (.tmp 35) 22 rfl (W.heap.size + 1) 25 i0 (.agg #[.int .u32 0, .int .i64 0]) 2 16 Try.underlying22 HI0.out HZ0.out HZ1.out HZ2.out rfl (by decide) u9 k _ rfl ((HV0.out).alloc _) ⟨wr.heap.size, 0, none⟩ 1 1 [.int .u32 n, .int .i64 a0] rfl rfl (newsV wr n a0 25) (news1 n a0) (by unfold maxLen; omega) (by omega) (by simp; omega) ?_
        intro v2 w2 hown hgrow _ hloc
        have HG := Aside.mk (ApInv.growV HI.out (by rw [LV.out]; exact hown) hgrow hloc)
        have HU := Aside.mk HG.out.ou
        rw [LA.out] at HU
        have hsz2 := HG.out.sz
        have c0 := HG.out.c0
        have c1 := HG.out.c1
        clear hown hgrow hloc
        go_wp2_with (at_builtin; refine holdp ?_)
        refine Hold.mk ?_
        refine wpList_append_own_at _ rfl (.tmp 44) (.tmp 46) 30 rfl (W.heap.size + 1) 3 j0 (.int .i64 0) 1 8 Try.underlying30 HJ0.out HY0.out HY1.out HY2.out rfl (by decide) u10 k _ rfl ((HU.out).alloc _) ⟨w2.heap.size, 0, none⟩ 1 1 [.int .i64 0] rfl rfl (newsI w2 0 3) (newsI1 0) (by unfold maxLen; omega) (by omega) (by simp; omega) ?_
        intro v3 w3 hown hgrow _ hloc
        have HG2 := Aside.mk (ApInv.growU HG.out (by rw [LA.out]; exact hown) hgrow hloc)
        clear hown hgrow hloc
        go_wp2_with fail
        go_roundw
        case rel =>
         (repeat apply Exists.intro)
         refine ⟨?_, rfl⟩
         exact ⟨k + 1, by go_num, by omega, ⟨by
          have := HG2.out
          rw [valsN_succ, atsN_succ, HP.out]
          simpa using this⟩⟩
        case measure => simp [intOf]; omega
    · have hkn : k = K + 1 := by omega
      subst hkn
      have hv0 := HI.out.ov
      have hu0 := HI.out.ou
      obtain ⟨A, c, hv, hrd, _⟩ := Rd.own hv0
      obtain ⟨B, d, hu, hri⟩ := RdI.own hu0
      rw [LV.out] at hv
      rw [LA.out] at hu
      subst hv
      subst hu
      have HR := Aside.mk hrd
      have HRI := Aside.mk hri
      have HBL := Aside.mk HI.out.bl
      have C0 := Aside.mk HI.out.c0
      have C1 := Aside.mk HI.out.c1
      clear hrd hri hv0 hu0 HI
      have ho := of_any HR.out (by rw [LV.out]; omega)
      rw [LV.out] at ho
      have HO := Aside.mk ho
      clear ho
      go_wp2_with fail
      refine HO.out.mono ?_
      rintro e w2 ⟨A2, c2, B2, d2, rfl, hr2, hi2, hb2⟩
      rw [apart_law] at hr2 hi2 ⊢
      dsimp only at hr2 hi2 ⊢
      rw [LA.out]
      have c0 := hb2.cell C0.out
      have c1 := hb2.cell C1.out
      have hsz : W.heap.size < w2.heap.size := World.block_lt_of_cell? w2 _ c0
      have HB2 := Aside.mk hb2
      have HI2 := Aside.mk hi2
      clear hb2 hi2
      have hbo : bothN n a0 a0 (K + 1) = [(n, a0)] := by simp [bothN]
      rw [hbo] at hr2 ⊢
      have HR2 := Aside.mk hr2
      clear hr2 hbo
      by_cases hK1 : K = 0
      · subst hK1
        go_wp2_with fail
        have hs := same_any ⟨HR2.out.keep ((Bl.refl w2).alloc _)⟩ ⟨(rd_new w2 [(n, a0)] 25 (by simp) _ rfl)⟩ 1 1 ⟨rfl⟩ ⟨rfl⟩ (by decide)
        have HS := Aside.mk hs
        clear hs
        refine HS.out.mono ?_
        rintro e w5 ⟨rfl, hb⟩
        rw [beq_self_eq_true]
        have HB5 := Aside.mk (Bl.trans ((Bl.refl w2).alloc _) hb)
        clear hb HS
        go_wp2_with fail
        have hs := sameI_any ⟨HI2.out.keep HB5.out⟩ ⟨(HRI.out.keep HB2.out).keep HB5.out⟩ _ _ LA LA (by omega)
        have HS := Aside.mk hs
        clear hs
        refine HS.out.mono ?_
        rintro e w6 ⟨rfl, hb⟩
        rw [beq_self_eq_true]
        have HB6 := Aside.mk hb
        clear hb HS
        go_wp2
        go_ret
        exact ⟨rfl, (((HBL.out.trans HB2.out).trans HB5.out).trans HB6.out).out⟩
      · have hK2 : 1 < K + 1 := by omega
        go_wp2_with fail
        have hs := same_any ⟨HR2.out.keep ((Bl.refl w2).alloc _)⟩ ⟨(rd_new w2 [(n, a0)] 25 (by simp) _ rfl)⟩ 1 1 ⟨rfl⟩ ⟨rfl⟩ (by decide)
        have HS := Aside.mk hs
        clear hs
        refine HS.out.mono ?_
        rintro e w5 ⟨rfl, hb⟩
        rw [beq_self_eq_true]
        have HB5 := Aside.mk (Bl.trans ((Bl.refl w2).alloc _) hb)
        clear hb HS
        go_wp2_with fail
        have hs := sameI_any ⟨HI2.out.keep HB5.out⟩ ⟨(HRI.out.keep HB2.out).keep HB5.out⟩ _ _ LA LA (by omega)
        have HS := Aside.mk hs
        clear hs
        refine HS.out.mono ?_
        rintro e w6 ⟨rfl, hb⟩
        rw [beq_self_eq_true]
        have HB6 := Aside.mk hb
        clear hb HS
        go_wp2
        go_ret
        exact ⟨rfl, (((HBL.out.trans HB2.out).trans HB5.out).trans HB6.out).out⟩

set_option maxRecDepth 100000 in
set_option maxHeartbeats 8000000 in
theorem apart_ne (n a0 a1 m : Int) (W : World) (wm : (Lit.int .u8 m).wf = true) (ha : ¬ a0 = a1) :
    Calls Try.prog 6 #[.int .u32 n, .agg #[.int .i64 a0, .int .i64 a1], .int .u8 m] W fun e w' => e = .returned (.bool true) ∧ Below W.heap.size W w' := by
  obtain ⟨K, hK, hK32⟩ := kAll m wm
  have HK := Aside.mk hK
  clear hK
  obtain ⟨i0, hi, hz0, hz1, hz2⟩ := info_parts infoV
  have HI0 := Aside.mk hi
  have HZ0 := Aside.mk hz0
  have HZ1 := Aside.mk hz1
  have HZ2 := Aside.mk hz2
  clear hi hz0 hz1 hz2
  obtain ⟨j0, hi, hz0, hz1, hz2⟩ := info_parts infoI
  have HJ0 := Aside.mk hi
  have HY0 := Aside.mk hz0
  have HY1 := Aside.mk hz1
  have HY2 := Aside.mk hz2
  clear hi hz0 hz1 hz2
  obtain ⟨W1, hW1⟩ : ∃ W1, W1 = W.alloc (.cells #[.int .i64 a0, .int .i64 a1] 36) := ⟨_, rfl⟩
  have HWB : Aside (Bl W W1) := ⟨by rw [hW1]; exact (Bl.refl _).alloc _⟩
  have B0 : Aside (W1.cell? ⟨W.heap.size, 0, none⟩ = some (.int .i64 a0)) := ⟨by rw [hW1, World.cell?_alloc_at _ _ _ _ rfl]; rfl⟩
  have B1 : Aside (W1.cell? ⟨W.heap.size, 1, none⟩ = some (.int .i64 a1)) := ⟨by rw [hW1, World.cell?_alloc_at _ _ _ _ rfl]; rfl⟩
  have HW := Aside.mk hW1
  clear hW1
  go_enter Try.func6, Try.ntmps6
  go_wp2_with fail
  rw [← HW.out]
  refine (shown_any _).mono ?_
  rintro e w1 ⟨rfl, hb⟩
  have HB := Aside.mk hb
  clear hb
  go_wp2_with fail
  rw [HK.out]
  have b0 := HB.out.cell B0.out
  have b1 := HB.out.cell B1.out
  have hs1 : W.heap.size < w1.heap.size := World.block_lt_of_cell? w1 _ b0
  have hst : ApInv W ((w1.alloc (.cells #[] 25)).alloc (.cells #[] 3)) a0 a1 [] [] (.slice (some ⟨w1.heap.size, 0, none⟩) 0 0) (.slice (some ⟨w1.heap.size + 1, 0, none⟩) 0 0) := by
    refine ⟨?_, ?_, ⟨w1.heap.size, w1.heap.size + 1, rfl, rfl, by omega⟩, (((Bl.refl w1).alloc _).alloc _).cell b0, (((Bl.refl w1).alloc _).alloc _).cell b1, ((HWB.out.trans HB.out).alloc _).alloc _, by simp; omega⟩
    · refine World.ownsRow.alloc ?_ _
      exact ⟨rfl, .inr ⟨w1.heap.size, 0, #[], rfl, by omega, heap_alloc_new w1 _, Nat.le_refl _, by decide, rfl, rfl⟩⟩
    · exact ⟨rfl, .inr ⟨w1.heap.size + 1, 0, #[], rfl, by omega, by simpa using heap_alloc_new (w1.alloc (.cells #[] 25)) (.cells #[] 3), Nat.le_refl _, by decide, rfl, rfl⟩⟩
  have HST := Aside.mk hst
  clear hst b0 b1
  go_loopw [9, 10, 11] (fun v u i wr => ∃ (k : Nat), i = .int .i64 k ∧ k ≤ K + 1 ∧ Aside (ApInv W wr a0 a1 (valsN n a0 a1 k) (atsN a0 a1 k) v u)) (fun _ _ i _ => K + 1 - (intOf i).toNat)
  case atStart => exact ⟨0, rfl, by omega, HST⟩
  case round =>
    obtain ⟨k, rfl, hk, HI⟩ := hrel
    have LV := Aside.mk (valsN_len n a0 a1 k)
    have LA := Aside.mk (atsN_len a0 a1 k)
    by_cases hlt : k < K + 1
    · have c0 := HI.out.c0
      have c1 := HI.out.c1
      have hsz := HI.out.sz
      have HV0 := Aside.mk HI.out.ov
      have HU0 := Aside.mk HI.out.ou
      rw [LV.out] at HV0
      have hp : (k : Int).tmod 2 = ((k % 2 : Nat) : Int) := by rw [Int.tmod_eq_emod_of_nonneg (by omega)]; omega
      obtain ⟨pr, hpr⟩ : ∃ pr, k % 2 = pr := ⟨_, rfl⟩
      have hpr2 : pr = 0 ∨ pr = 1 := by omega
      have HP := Aside.mk hpr
      rw [hpr] at hp
      clear hpr
      rcases hpr2 with rfl | rfl
      · go_wp2_with (at_builtin; refine holdp ?_)
        refine Hold.mk ?_
        refine wpList_append_own_at _ rfl (.tmp 28) (.tmp 35) 22 rfl (W.heap.size + 1) 25 i0 (.agg #[.int .u32 0, .int .i64 0]) 2 16 Try.underlying22 HI0.out HZ0.out HZ1.out HZ2.out rfl (by decide) u9 k _ rfl ((HV0.out).alloc _) ⟨wr.heap.size, 0, none⟩ 1 1 [.int .u32 n, .int .i64 a0] rfl rfl (newsV wr n a0 25) (news1 n a0) (by unfold maxLen; omega) (by omega) (by simp; omega) ?_
        intro v2 w2 hown hgrow _ hloc
        have HG := Aside.mk (ApInv.growV HI.out (by rw [LV.out]; exact hown) hgrow hloc)
        have HU := Aside.mk HG.out.ou
        rw [LA.out] at HU
        have hsz2 := HG.out.sz
        have c0 := HG.out.c0
        have c1 := HG.out.c1
        clear hown hgrow hloc
        go_wp2_with (at_builtin; refine holdp ?_)
        refine Hold.mk ?_
        refine wpList_append_own_at _ rfl (.tmp 44) (.tmp 46) 30 rfl (W.heap.size + 1) 3 j0 (.int .i64 0) 1 8 Try.underlying30 HJ0.out HY0.out HY1.out HY2.out rfl (by decide) u10 k _ rfl ((HU.out).alloc _) ⟨w2.heap.size, 0, none⟩ 1 1 [.int .i64 0] rfl rfl (newsI w2 0 3) (newsI1 0) (by unfold maxLen; omega) (by omega) (by simp; omega) ?_
        intro v3 w3 hown hgrow _ hloc
        have HG2 := Aside.mk (ApInv.growU HG.out (by rw [LA.out]; exact hown) hgrow hloc)
        clear hown hgrow hloc
        go_wp2_with fail
        go_roundw
        case rel =>
         (repeat apply Exists.intro)
         refine ⟨?_, rfl⟩
         exact ⟨k + 1, by go_num, by omega, ⟨by
          have := HG2.out
          rw [valsN_succ, atsN_succ, HP.out]
          simpa [ha] using this⟩⟩
        case measure => simp [intOf]; omega
      · go_wp2_with (at_builtin; refine holdp ?_)
        refine Hold.mk ?_
        refine wpList_append_own_at _ rfl (.tmp 28) (.tmp 35) 22 rfl (W.heap.size + 1) 25 i0 (.agg #[.int .u32 0, .int .i64 0]) 2 16 Try.underlying22 HI0.out HZ0.out HZ1.out HZ2.out rfl (by decide) u9 k _ rfl ((HV0.out).alloc _) ⟨wr.heap.size, 0, none⟩ 1 1 [.int .u32 n, .int .i64 a1] rfl rfl (newsV wr n a1 25) (news1 n a1) (by unfold maxLen; omega) (by omega) (by simp; omega) ?_
        intro v2 w2 hown hgrow _ hloc
        have HG := Aside.mk (ApInv.growV HI.out (by rw [LV.out]; exact hown) hgrow hloc)
        have HU := Aside.mk HG.out.ou
        rw [LA.out] at HU
        have hsz2 := HG.out.sz
        have c0 := HG.out.c0
        have c1 := HG.out.c1
        clear hown hgrow hloc
        go_wp2_with (at_builtin; refine holdp ?_)
        refine Hold.mk ?_
        refine wpList_append_own_at _ rfl (.tmp 44) (.tmp 46) 30 rfl (W.heap.size + 1) 3 j0 (.int .i64 0) 1 8 Try.underlying30 HJ0.out HY0.out HY1.out HY2.out rfl (by decide) u10 k _ rfl ((HU.out).alloc _) ⟨w2.heap.size, 0, none⟩ 1 1 [.int .i64 1] rfl rfl (newsI w2 1 3) (newsI1 1) (by unfold maxLen; omega) (by omega) (by simp; omega) ?_
        intro v3 w3 hown hgrow _ hloc
        have HG2 := Aside.mk (ApInv.growU HG.out (by rw [LA.out]; exact hown) hgrow hloc)
        clear hown hgrow hloc
        go_wp2_with fail
        go_roundw
        case rel =>
         (repeat apply Exists.intro)
         refine ⟨?_, rfl⟩
         exact ⟨k + 1, by go_num, by omega, ⟨by
          have := HG2.out
          rw [valsN_succ, atsN_succ, HP.out]
          simpa [ha] using this⟩⟩
        case measure => simp [intOf]; omega
    · have hkn : k = K + 1 := by omega
      subst hkn
      have hv0 := HI.out.ov
      have hu0 := HI.out.ou
      obtain ⟨A, c, hv, hrd, _⟩ := Rd.own hv0
      obtain ⟨B, d, hu, hri⟩ := RdI.own hu0
      rw [LV.out] at hv
      rw [LA.out] at hu
      subst hv
      subst hu
      have HR := Aside.mk hrd
      have HRI := Aside.mk hri
      have HBL := Aside.mk HI.out.bl
      have C0 := Aside.mk HI.out.c0
      have C1 := Aside.mk HI.out.c1
      clear hrd hri hv0 hu0 HI
      have ho := of_any HR.out (by rw [LV.out]; omega)
      rw [LV.out] at ho
      have HO := Aside.mk ho
      clear ho
      go_wp2_with fail
      refine HO.out.mono ?_
      rintro e w2 ⟨A2, c2, B2, d2, rfl, hr2, hi2, hb2⟩
      rw [apart_law] at hr2 hi2 ⊢
      dsimp only at hr2 hi2 ⊢
      rw [LA.out]
      have c0 := hb2.cell C0.out
      have c1 := hb2.cell C1.out
      have hsz : W.heap.size < w2.heap.size := World.block_lt_of_cell? w2 _ c0
      have HB2 := Aside.mk hb2
      have HI2 := Aside.mk hi2
      clear hb2 hi2
      by_cases hK1 : K = 0
      · have hbo : bothN n a0 a1 (K + 1) = [(n, a0)] := by simp [bothN, hK1]
        rw [hbo] at hr2 ⊢
        have HR2 := Aside.mk hr2
        clear hr2 hbo
        subst hK1
        go_wp2_with fail
        have hs := same_any ⟨HR2.out.keep ((Bl.refl w2).alloc _)⟩ ⟨(rd_new w2 [(n, a0)] 25 (by simp) _ rfl)⟩ 1 1 ⟨rfl⟩ ⟨rfl⟩ (by decide)
        have HS := Aside.mk hs
        clear hs
        refine HS.out.mono ?_
        rintro e w5 ⟨rfl, hb⟩
        rw [beq_self_eq_true]
        have HB5 := Aside.mk (Bl.trans ((Bl.refl w2).alloc _) hb)
        clear hb HS
        go_wp2_with fail
        have hs := sameI_any ⟨HI2.out.keep HB5.out⟩ ⟨(HRI.out.keep HB2.out).keep HB5.out⟩ _ _ LA LA (by omega)
        have HS := Aside.mk hs
        clear hs
        refine HS.out.mono ?_
        rintro e w6 ⟨rfl, hb⟩
        rw [beq_self_eq_true]
        have HB6 := Aside.mk hb
        clear hb HS
        go_wp2
        go_ret
        exact ⟨rfl, (((HBL.out.trans HB2.out).trans HB5.out).trans HB6.out).out⟩
      · have hbo : bothN n a0 a1 (K + 1) = [(n, a0), (n, a1)] := by simp [bothN, ha]; omega
        rw [hbo] at hr2 ⊢
        have HR2 := Aside.mk hr2
        clear hr2 hbo
        have hK2 : 1 < K + 1 := by omega
        have HOB : Aside ((w2.alloc (.cells #[.int .u32 n, .int .i64 a0] 25)).ownsRow (W.heap.size + 1) 25 2 (.slice (some ⟨w2.heap.size, 0, none⟩) 1 1) 1 (flat [(n, a0)])) := ⟨rfl, .inr ⟨w2.heap.size, 1, #[.int .u32 n, .int .i64 a0], rfl, by omega, heap_alloc_new w2 _, Nat.le_refl _, by decide, rfl, rfl⟩⟩
        go_wp2_with (at_builtin; refine holdp ?_)
        refine Hold.mk ?_
        refine wpList_append_own_at _ rfl (.tmp 67) (.tmp 72) 22 rfl (W.heap.size + 1) 25 i0 (.agg #[.int .u32 0, .int .i64 0]) 2 16 Try.underlying22 HI0.out HZ0.out HZ1.out HZ2.out rfl (by decide) (.slice (some ⟨w2.heap.size, 0, none⟩) 1 1) 1 _ rfl ((HOB.out).alloc _) ⟨w2.heap.size + 1, 0, none⟩ 1 1 [.int .u32 n, .int .i64 a1] rfl rfl (newsV2 (w2.alloc (.cells #[.int .u32 n, .int .i64 a0] 25)) (w2.heap.size + 1) (by simp) n a1 25) (news1 n a1) (by unfold maxLen; omega) (by omega) (by simp; omega) ?_
        intro v4 w4 hown hgrow _ hloc
        have HBW := Aside.mk (bl_own ((Bl.refl w2).alloc (.cells #[.int .u32 n, .int .i64 a0] 25)) _ hgrow (fun g hg => (by obtain rfl : w2.heap.size = g := Option.some.inj hg; omega)))
        obtain ⟨A4, c4, rfl, hrd4, _⟩ := Rd.own (l := [(n, a0), (n, a1)]) hown
        have HR4 := Aside.mk hrd4
        clear hown hgrow hloc hrd4
        go_wp2_with fail
        have hs := same_any ⟨HR2.out.keep HBW.out⟩ ⟨HR4.out⟩ 2 2 ⟨rfl⟩ ⟨rfl⟩ (by decide)
        have HS := Aside.mk hs
        clear hs
        refine HS.out.mono ?_
        rintro e w5 ⟨rfl, hb⟩
        rw [beq_self_eq_true]
        have HB5 := Aside.mk (Bl.trans HBW.out hb)
        clear hb HS
        go_wp2_with fail
        have hs := sameI_any ⟨HI2.out.keep HB5.out⟩ ⟨(HRI.out.keep HB2.out).keep HB5.out⟩ _ _ LA LA (by omega)
        have HS := Aside.mk hs
        clear hs
        refine HS.out.mono ?_
        rintro e w6 ⟨rfl, hb⟩
        rw [beq_self_eq_true]
        have HB6 := Aside.mk hb
        clear hb HS
        go_wp2
        go_ret
        exact ⟨rfl, (((HBL.out.trans HB2.out).trans HB5.out).trans HB6.out).out⟩

/-- PoolApart, walked. -/
theorem poolApart_walk (n a0 a1 m : Int) (W : World) (_wn : (Lit.int .u32 n).wf = true) (_w0 : (Lit.int .i64 a0).wf = true) (_w1 : (Lit.int .i64 a1).wf = true) (wm : (Lit.int .u8 m).wf = true) :
    Calls Try.prog 6 #[.int .u32 n, .agg #[.int .i64 a0, .int .i64 a1], .int .u8 m] W fun e w' => e = .returned (.bool true) ∧ Below W.heap.size W w' := by
  by_cases ha : a0 = a1
  · subst ha
    exact apart_eq n a0 m W wm
  · exact apart_ne n a0 a1 m W wm ha
end Go.Proofs.Ytdmofkmkleekbaa.Pool
