-- PRINTED BY print.sh 35421559b90ae4d0a3588c463048766b98c2df88dd9212a6774a882060cdf62d: not written by this session
import Derived.Test.YtnilkljibdjjgaaPIsaBackx0
namespace Go.Proofs.Ytnilkljibdjjgaa.PIsaBack
open Go.RowKit Go.Proofs.YtnilkljibdjjgaaW.PrintWords Go.Proofs.YtnilkljibdjjgaaW.PrintLast Go.Proofs.YtnilkljibdjjgaaW.PrintMore
attribute [local go_sem] max2_int min2_int max_two min_two max_three min_three max_four min_four   -- for this text's walks alone
set_option linter.unusedVariables false
set_option linter.unusedSimpArgs false

/-! ### rivetref03_Fit: function 18 -/
mutual
def rivetref03_Fit.j0 : Nat → Int → Int → Bool → Int → Int → Int → Int → Int → Int → Bool → Int → Int → Int → Int → Int → Int → Bool → Option (Int × Int × Int × Int × Int × Int × Bool)
  | 0, _, _, _, _, _, _, _, _, _, _, _, _, _, _, _, _, _ => none
  | k + 1, x4, x21, x22, x109000, x109001, x109002, x109003, x109004, x109005, x109006, x111000, x111001, x111002, x111003, x111004, x111005, x111006 => if x22 = true then (if x4 = 0 then (rivetref03_Fit.j1 k x4 x109000 x109001 x109002 x109003 x109004 x109005 x109006 x111000 x4 x111002 x111003 x111004 x111005 x111006) else (rivetref03_Fit.j1 k x4 x109000 x109001 x109002 x109003 x109004 x109005 x109006 x111000 x4 x111002 (Go.bits .and .i64 x109003 15) x111004 x111005 x111006)) else (if x21 = 5 then (some (x111000, Go.bits .and .i64 x109001 3, x111002, Go.bits .and .i64 x109003 15, x111004, wrap64 ((Go.bits .and .i64 x109005 1048575) - 524288), x111006)) else (if x21 = 6 then (some (x111000, Go.bits .and .i64 x109001 15, 0, 0, Go.bits .and .i64 x109004 15, 0, x109006)) else (if x21 = 7 then (some (x111000, Go.bits .and .i64 x109001 15, 0, 0, 0, wrap64 ((Go.bits .and .i64 x109005 16777215) - 8388608), x109006)) else (some (x111000, x111001, x111002, x111003, x111004, x111005, x111006)))))
def rivetref03_Fit.j1 : Nat → Int → Int → Int → Int → Int → Int → Int → Bool → Int → Int → Int → Int → Int → Int → Bool → Option (Int × Int × Int × Int × Int × Int × Bool)
  | 0, _, _, _, _, _, _, _, _, _, _, _, _, _, _, _ => none
  | k + 1, x4, x109000, x109001, x109002, x109003, x109004, x109005, x109006, x111000, x111001, x111002, x111003, x111004, x111005, x111006 => if x109006 = true then (if x4 ≥ 8 then (rivetref03_Fit.j2 k x4 x109000 x109001 x109002 x109003 x109004 x109005 x109006 x111000 x111001 x111002 x111003 x111004 x111005 (decide (x4 ≤ 10))) else (rivetref03_Fit.j2 k x4 x109000 x109001 x109002 x109003 x109004 x109005 x109006 x111000 x111001 x111002 x111003 x111004 x111005 false)) else (rivetref03_Fit.j2 k x4 x109000 x109001 x109002 x109003 x109004 x109005 x109006 x111000 x111001 x111002 x111003 x111004 x111005 false)
def rivetref03_Fit.j2 : Nat → Int → Int → Int → Int → Int → Int → Int → Bool → Int → Int → Int → Int → Int → Int → Bool → Option (Int × Int × Int × Int × Int × Int × Bool)
  | 0, _, _, _, _, _, _, _, _, _, _, _, _, _, _, _ => none
  | k + 1, x4, x109000, x109001, x109002, x109003, x109004, x109005, x109006, x111000, x111001, x111002, x111003, x111004, x111005, x111006 => if x111000 = 1 then (some (x111000, x111001, x111002, x111003, Go.bits .and .i64 x109004 15, x111005, x111006)) else (if x4 = 0 then (if x109006 = true then (some (x111000, x111001, x111002, x111003, x111004, Go.bits .and .i64 x109005 65535, true)) else (some (x111000, x111001, x111002, x111003, x111004, wrap64 ((Go.bits .and .i64 x109005 131071) - 65536), x111006))) else (some (x111000, x111001, x111002, x111003, x111004, wrap64 ((Go.bits .and .i64 x109005 131071) - 65536), x111006)))
end
def rivetref03_Fit.f (k : Nat) (a0_0 : Int) (a0_1 : Int) (a0_2 : Int) (a0_3 : Int) (a0_4 : Int) (a0_5 : Int) (a0_6 : Bool) : Option (Int × Int × Int × Int × Int × Int × Bool) := if (wrap64 (1 + (Int.tmod (wrap64 ((Int.tmod a0_0 7) + 7)) 7))) = 1 then (rivetref03_Fit.j0 k (Int.tmod (wrap64 ((Int.tmod a0_1 12) + 12)) 12) (wrap64 (1 + (Int.tmod (wrap64 ((Int.tmod a0_0 7) + 7)) 7))) ((wrap64 (1 + (Int.tmod (wrap64 ((Int.tmod a0_0 7) + 7)) 7))) == 1) a0_0 a0_1 a0_2 a0_3 a0_4 a0_5 a0_6 (wrap64 (1 + (Int.tmod (wrap64 ((Int.tmod a0_0 7) + 7)) 7))) 0 (Go.bits .and .i64 a0_2 15) 0 0 0 false) else (rivetref03_Fit.j0 k (Int.tmod (wrap64 ((Int.tmod a0_1 12) + 12)) 12) (wrap64 (1 + (Int.tmod (wrap64 ((Int.tmod a0_0 7) + 7)) 7))) ((wrap64 (1 + (Int.tmod (wrap64 ((Int.tmod a0_0 7) + 7)) 7))) == 2) a0_0 a0_1 a0_2 a0_3 a0_4 a0_5 a0_6 (wrap64 (1 + (Int.tmod (wrap64 ((Int.tmod a0_0 7) + 7)) 7))) 0 (Go.bits .and .i64 a0_2 15) 0 0 0 false)
theorem rivetref03_Fit.mono_l : ∀ k, (∀ y0 y1 y2 y3 y4 y5 y6 y7 y8 y9 y10 y11 y12 y13 y14 y15 y16, LeO (rivetref03_Fit.j0 k y0 y1 y2 y3 y4 y5 y6 y7 y8 y9 y10 y11 y12 y13 y14 y15 y16) (rivetref03_Fit.j0 (k + 1) y0 y1 y2 y3 y4 y5 y6 y7 y8 y9 y10 y11 y12 y13 y14 y15 y16)) ∧ (∀ y0 y1 y2 y3 y4 y5 y6 y7 y8 y9 y10 y11 y12 y13 y14, LeO (rivetref03_Fit.j1 k y0 y1 y2 y3 y4 y5 y6 y7 y8 y9 y10 y11 y12 y13 y14) (rivetref03_Fit.j1 (k + 1) y0 y1 y2 y3 y4 y5 y6 y7 y8 y9 y10 y11 y12 y13 y14)) ∧ (∀ y0 y1 y2 y3 y4 y5 y6 y7 y8 y9 y10 y11 y12 y13 y14, LeO (rivetref03_Fit.j2 k y0 y1 y2 y3 y4 y5 y6 y7 y8 y9 y10 y11 y12 y13 y14) (rivetref03_Fit.j2 (k + 1) y0 y1 y2 y3 y4 y5 y6 y7 y8 y9 y10 y11 y12 y13 y14))
  | 0 => ⟨fun _ _ _ _ _ _ _ _ _ _ _ _ _ _ _ _ _ r h => by simp [rivetref03_Fit.j0] at h, fun _ _ _ _ _ _ _ _ _ _ _ _ _ _ _ r h => by simp [rivetref03_Fit.j1] at h, fun _ _ _ _ _ _ _ _ _ _ _ _ _ _ _ r h => by simp [rivetref03_Fit.j2] at h⟩
  | k + 1 => by
    obtain ⟨ih0, ih1, ih2⟩ := rivetref03_Fit.mono_l k
    refine ⟨?_, ?_, ?_⟩
    · intro y0 y1 y2 y3 y4 y5 y6 y7 y8 y9 y10 y11 y12 y13 y14 y15 y16
      unfold rivetref03_Fit.j0
      repeat' first
      | (with_reducible exact ih0 _ _ _ _ _ _ _ _ _ _ _ _ _ _ _ _ _)
      | (with_reducible exact ih1 _ _ _ _ _ _ _ _ _ _ _ _ _ _ _)
      | (with_reducible exact ih2 _ _ _ _ _ _ _ _ _ _ _ _ _ _ _)
      | (with_reducible exact LeO.refl _)
      | (with_reducible exact LeO.none _)
      | (with_reducible refine LeO.ite ?_ ?_)
      | (with_reducible refine LeO.bind ?_ (fun _ => ?_))
      | exact ih0 _ _ _ _ _ _ _ _ _ _ _ _ _ _ _ _ _
      | exact ih1 _ _ _ _ _ _ _ _ _ _ _ _ _ _ _
      | exact ih2 _ _ _ _ _ _ _ _ _ _ _ _ _ _ _
      | exact LeO.none _
      | refine LeO.ite ?_ ?_
      | refine LeO.bind ?_ (fun _ => ?_)
    · intro y0 y1 y2 y3 y4 y5 y6 y7 y8 y9 y10 y11 y12 y13 y14
      unfold rivetref03_Fit.j1
      repeat' first
      | (with_reducible exact ih0 _ _ _ _ _ _ _ _ _ _ _ _ _ _ _ _ _)
      | (with_reducible exact ih1 _ _ _ _ _ _ _ _ _ _ _ _ _ _ _)
      | (with_reducible exact ih2 _ _ _ _ _ _ _ _ _ _ _ _ _ _ _)
      | (with_reducible exact LeO.refl _)
      | (with_reducible exact LeO.none _)
      | (with_reducible refine LeO.ite ?_ ?_)
      | (with_reducible refine LeO.bind ?_ (fun _ => ?_))
      | exact ih0 _ _ _ _ _ _ _ _ _ _ _ _ _ _ _ _ _
      | exact ih1 _ _ _ _ _ _ _ _ _ _ _ _ _ _ _
      | exact ih2 _ _ _ _ _ _ _ _ _ _ _ _ _ _ _
      | exact LeO.none _
      | refine LeO.ite ?_ ?_
      | refine LeO.bind ?_ (fun _ => ?_)
    · intro y0 y1 y2 y3 y4 y5 y6 y7 y8 y9 y10 y11 y12 y13 y14
      unfold rivetref03_Fit.j2
      repeat' first
      | (with_reducible exact ih0 _ _ _ _ _ _ _ _ _ _ _ _ _ _ _ _ _)
      | (with_reducible exact ih1 _ _ _ _ _ _ _ _ _ _ _ _ _ _ _)
      | (with_reducible exact ih2 _ _ _ _ _ _ _ _ _ _ _ _ _ _ _)
      | (with_reducible exact LeO.refl _)
      | (with_reducible exact LeO.none _)
      | (with_reducible refine LeO.ite ?_ ?_)
      | (with_reducible refine LeO.bind ?_ (fun _ => ?_))
      | exact ih0 _ _ _ _ _ _ _ _ _ _ _ _ _ _ _ _ _
      | exact ih1 _ _ _ _ _ _ _ _ _ _ _ _ _ _ _
      | exact ih2 _ _ _ _ _ _ _ _ _ _ _ _ _ _ _
      | exact LeO.none _
      | refine LeO.ite ?_ ?_
      | refine LeO.bind ?_ (fun _ => ?_)
theorem rivetref03_Fit.mono : ∀ a0 a1 a2 a3 a4 a5 a6 k, LeO (rivetref03_Fit.f k a0 a1 a2 a3 a4 a5 a6) (rivetref03_Fit.f (k + 1) a0 a1 a2 a3 a4 a5 a6) := by
  intro a0 a1 a2 a3 a4 a5 a6 k
  obtain ⟨ih0, ih1, ih2⟩ := rivetref03_Fit.mono_l k
  unfold rivetref03_Fit.f
  repeat' first
      | (with_reducible exact ih0 _ _ _ _ _ _ _ _ _ _ _ _ _ _ _ _ _)
      | (with_reducible exact ih1 _ _ _ _ _ _ _ _ _ _ _ _ _ _ _)
      | (with_reducible exact ih2 _ _ _ _ _ _ _ _ _ _ _ _ _ _ _)
      | (with_reducible exact LeO.refl _)
      | (with_reducible exact LeO.none _)
      | (with_reducible refine LeO.ite ?_ ?_)
      | (with_reducible refine LeO.bind ?_ (fun _ => ?_))
      | exact ih0 _ _ _ _ _ _ _ _ _ _ _ _ _ _ _ _ _
      | exact ih1 _ _ _ _ _ _ _ _ _ _ _ _ _ _ _
      | exact ih2 _ _ _ _ _ _ _ _ _ _ _ _ _ _ _
      | exact LeO.none _
      | refine LeO.ite ?_ ?_
      | refine LeO.bind ?_ (fun _ => ?_)
set_option maxHeartbeats 8000000 in
set_option maxRecDepth 100000 in
theorem rivetref03_Fit.calls (k : Nat) (a0_0 : Int) (a0_1 : Int) (a0_2 : Int) (a0_3 : Int) (a0_4 : Int) (a0_5 : Int) (a0_6 : Bool) (r1 : Int) (r2 : Int) (r3 : Int) (r4 : Int) (r5 : Int) (r6 : Int) (r7 : Bool) (w : World) (h : rivetref03_Fit.f k a0_0 a0_1 a0_2 a0_3 a0_4 a0_5 a0_6 = some (r1, r2, r3, r4, r5, r6, r7)) :
    Calls Try.prog 18 #[.agg #[.int .i64 a0_0, .int .i64 a0_1, .int .i64 a0_2, .int .i64 a0_3, .int .i64 a0_4, .int .i64 a0_5, .bool a0_6]] w fun e w' => e = .returned (.agg #[.int .i64 r1, .int .i64 r2, .int .i64 r3, .int .i64 r4, .int .i64 r5, .int .i64 r6, .bool r7]) ∧ Below w.heap.size w w' := by
  have hu23 := Try.underlying23
  have HB := Aside0.mk (Below.refl w.heap.size w)
  have H : (if (wrap64 (1 + (Int.tmod (wrap64 ((Int.tmod a0_0 7) + 7)) 7))) = 1 then (rivetref03_Fit.j0 k (Int.tmod (wrap64 ((Int.tmod a0_1 12) + 12)) 12) (wrap64 (1 + (Int.tmod (wrap64 ((Int.tmod a0_0 7) + 7)) 7))) ((wrap64 (1 + (Int.tmod (wrap64 ((Int.tmod a0_0 7) + 7)) 7))) == 1) a0_0 a0_1 a0_2 a0_3 a0_4 a0_5 a0_6 (wrap64 (1 + (Int.tmod (wrap64 ((Int.tmod a0_0 7) + 7)) 7))) 0 (Go.bits .and .i64 a0_2 15) 0 0 0 false) else (rivetref03_Fit.j0 k (Int.tmod (wrap64 ((Int.tmod a0_1 12) + 12)) 12) (wrap64 (1 + (Int.tmod (wrap64 ((Int.tmod a0_0 7) + 7)) 7))) ((wrap64 (1 + (Int.tmod (wrap64 ((Int.tmod a0_0 7) + 7)) 7))) == 2) a0_0 a0_1 a0_2 a0_3 a0_4 a0_5 a0_6 (wrap64 (1 + (Int.tmod (wrap64 ((Int.tmod a0_0 7) + 7)) 7))) 0 (Go.bits .and .i64 a0_2 15) 0 0 0 false)) = some (r1, r2, r3, r4, r5, r6, r7) := h
  clear h
  have HC2 := Aside0.mk H
  clear H
  go_enter Try.func18, Try.ntmps18
  go_upto_if 22 with (first | ((with_reducible refine gate_dst (N := 1) rfl ?_); refine box_event ?hg (N := 1) ?hd (cs := #[.int .i64 a0_0, .int .i64 a0_1, .int .i64 a0_2, .int .i64 a0_3, .int .i64 a0_4, .int .i64 a0_5, .bool a0_6]) (t := 23) ?hr ?_; (case hd => rfl); (case hg => rfl); (case hr => first | (go_simp; done) | (go_simp; rfl)); intro gb108 hg w3 hbox hb; have n0_ := Aside0.mk (below_step (by repeat (first | (with_reducible first | exact HB.out | apply below_alloc | apply pw_below_drewN | apply below_drew1) | exact HB.out)) hb); have n1_ := Aside0.mk (hbox); have n2_ := Aside0.mk ((by rw [hg]; exact (below_size (by repeat (first | (with_reducible first | exact HB.out | apply below_alloc | apply pw_below_drewN | apply below_drew1) | exact HB.out))) : w.heap.size ≤ gb108)); have n3_ := Aside0.mk ((by rw [hg]; exact (below_size (by repeat (first | (with_reducible first | exact HB.out | apply below_alloc | apply pw_below_drewN | apply below_drew1) | exact HB.out))) : w.heap.size ≤ gb108)); clear HB; have HB := n0_; have BK108 := n1_; have GW108 := n2_; have GE108 := n3_; clear n0_ n1_ n2_ n3_; clear hb hbox hg) | ((with_reducible refine gate_dst (N := 2) rfl ?_); refine box_event ?hg (N := 2) ?hd (cs := #[.int .i64 0, .int .i64 0, .int .i64 0, .int .i64 0, .int .i64 0, .int .i64 0, .bool false]) (t := 23) ?hr ?_; (case hd => rfl); (case hg => rfl); (case hr => first | (go_simp; done) | (go_simp; rfl)); intro gb109 hg w4 hbox hb; have n0_ := Aside0.mk (blk_below (g := gb108) (o := .cells #[.int .i64 a0_0, .int .i64 a0_1, .int .i64 a0_2, .int .i64 a0_3, .int .i64 a0_4, .int .i64 a0_5, .bool a0_6] 23 (0, 0)) (by (with_reducible repeat (first | refine blk_drewN ?_ _ | refine blk_drew ?_ | refine blk_alloc ?_ _)); exact BK108.out) hb); have n1_ := Aside0.mk (below_step (by repeat (first | (with_reducible first | exact HB.out | apply below_alloc | apply pw_below_drewN | apply below_drew1 | refine below_set ?_ GE108.out) | exact HB.out)) hb); have n2_ := Aside0.mk (hbox); have n3_ := Aside0.mk ((by rw [hg]; exact (below_size (by repeat (first | (with_reducible first | exact HB.out | apply below_alloc | apply pw_below_drewN | apply below_drew1 | refine below_set ?_ GE108.out) | exact HB.out))) : w.heap.size ≤ gb109)); have n4_ := Aside0.mk ((by rw [hg]; exact (below_size (by repeat (first | (with_reducible first | exact HB.out | apply below_alloc | apply pw_below_drewN | apply below_drew1 | refine below_set ?_ GE108.out) | exact HB.out))) : w.heap.size ≤ gb109)); have n5_ := Aside0.mk ((by rw [hg]; exact Nat.ne_of_lt (blk_lt (g := gb108) (o := .cells #[.int .i64 a0_0, .int .i64 a0_1, .int .i64 a0_2, .int .i64 a0_3, .int .i64 a0_4, .int .i64 a0_5, .bool a0_6] 23 (0, 0)) (by (with_reducible repeat (first | refine blk_drewN ?_ _ | refine blk_drew ?_ | refine blk_alloc ?_ _)); exact BK108.out)) : gb108 ≠ gb109)); have n6_ := Aside0.mk ((by rw [hg]; exact Nat.ne_of_gt (blk_lt (g := gb108) (o := .cells #[.int .i64 a0_0, .int .i64 a0_1, .int .i64 a0_2, .int .i64 a0_3, .int .i64 a0_4, .int .i64 a0_5, .bool a0_6] 23 (0, 0)) (by (with_reducible repeat (first | refine blk_drewN ?_ _ | refine blk_drew ?_ | refine blk_alloc ?_ _)); exact BK108.out)) : gb109 ≠ gb108)); clear BK108; clear HB; have BK108 := n0_; have HB := n1_; have BK109 := n2_; have GW109 := n3_; have GE109 := n4_; have NB108_109 := n5_; have NB109_108 := n6_; clear n0_ n1_ n2_ n3_ n4_ n5_ n6_; clear hb hbox hg; have hnb5 := NB108_109.out; have hnc5 := NB109_108.out; have hcz6_0 : w4.cell? ⟨gb108, 0, none⟩ = some (.int .i64 a0_0) := (blk_cell BK108.out 0).trans rfl; have hcz6_1 : w4.cell? ⟨gb108, 1, none⟩ = some (.int .i64 a0_1) := (blk_cell BK108.out 1).trans rfl; have hcz6_2 : w4.cell? ⟨gb108, 2, none⟩ = some (.int .i64 a0_2) := (blk_cell BK108.out 2).trans rfl; have hcz6_3 : w4.cell? ⟨gb108, 3, none⟩ = some (.int .i64 a0_3) := (blk_cell BK108.out 3).trans rfl; have hcz6_4 : w4.cell? ⟨gb108, 4, none⟩ = some (.int .i64 a0_4) := (blk_cell BK108.out 4).trans rfl; have hcz6_5 : w4.cell? ⟨gb108, 5, none⟩ = some (.int .i64 a0_5) := (blk_cell BK108.out 5).trans rfl; have hcz6_6 : w4.cell? ⟨gb108, 6, none⟩ = some (.bool a0_6) := (blk_cell BK108.out 6).trans rfl; have hfz6_0 := blk_frozen BK108.out 0; have hfz6_1 := blk_frozen BK108.out 1; have hfz6_2 := blk_frozen BK108.out 2; have hfz6_3 := blk_frozen BK108.out 3; have hfz6_4 := blk_frozen BK108.out 4; have hfz6_5 := blk_frozen BK108.out 5; have hfz6_6 := blk_frozen BK108.out 6) | ((with_reducible refine gate_dst (N := 3) rfl ?_); refine box_event ?hg (N := 3) ?hd (cs := #[.int .i64 0, .int .i64 0, .int .i64 0, .int .i64 0, .int .i64 0, .int .i64 0, .bool false]) (t := 23) ?hr ?_; (case hd => rfl); (case hg => rfl); (case hr => first | (go_simp; done) | (go_simp; rfl)); intro gb110 hg w7 hbox hb; have n0_ := Aside0.mk (blk_below (g := gb108) (o := .cells #[.int .i64 a0_0, .int .i64 a0_1, .int .i64 a0_2, .int .i64 a0_3, .int .i64 a0_4, .int .i64 a0_5, .bool a0_6] 23 (0, 0)) (by (with_reducible repeat (first | refine blk_drewN ?_ _ | refine blk_drew ?_ | refine blk_alloc ?_ _)); exact BK108.out) hb); have n1_ := Aside0.mk (blk_below (g := gb109) (o := .cells #[.int .i64 0, .int .i64 0, .int .i64 0, .int .i64 0, .int .i64 0, .int .i64 0, .bool false] 23 (0, 0)) (by (with_reducible repeat (first | refine blk_drewN ?_ _ | refine blk_drew ?_ | refine blk_alloc ?_ _)); exact BK109.out) hb); have n2_ := Aside0.mk (below_step (by repeat (first | (with_reducible first | exact HB.out | apply below_alloc | apply pw_below_drewN | apply below_drew1 | refine below_set ?_ GE108.out | refine below_set ?_ GE109.out) | exact HB.out)) hb); have n3_ := Aside0.mk (hbox); have n4_ := Aside0.mk ((by rw [hg]; exact (below_size (by repeat (first | (with_reducible first | exact HB.out | apply below_alloc | apply pw_below_drewN | apply below_drew1 | refine below_set ?_ GE108.out | refine below_set ?_ GE109.out) | exact HB.out))) : w.heap.size ≤ gb110)); have n5_ := Aside0.mk ((by rw [hg]; exact (below_size (by repeat (first | (with_reducible first | exact HB.out | apply below_alloc | apply pw_below_drewN | apply below_drew1 | refine below_set ?_ GE108.out | refine below_set ?_ GE109.out) | exact HB.out))) : w.heap.size ≤ gb110)); have n6_ := Aside0.mk ((by rw [hg]; exact Nat.ne_of_lt (blk_lt (g := gb108) (o := .cells #[.int .i64 a0_0, .int .i64 a0_1, .int .i64 a0_2, .int .i64 a0_3, .int .i64 a0_4, .int .i64 a0_5, .bool a0_6] 23 (0, 0)) (by (with_reducible repeat (first | refine blk_drewN ?_ _ | refine blk_drew ?_ | refine blk_alloc ?_ _)); exact BK108.out)) : gb108 ≠ gb110)); have n7_ := Aside0.mk ((by rw [hg]; exact Nat.ne_of_gt (blk_lt (g := gb108) (o := .cells #[.int .i64 a0_0, .int .i64 a0_1, .int .i64 a0_2, .int .i64 a0_3, .int .i64 a0_4, .int .i64 a0_5, .bool a0_6] 23 (0, 0)) (by (with_reducible repeat (first | refine blk_drewN ?_ _ | refine blk_drew ?_ | refine blk_alloc ?_ _)); exact BK108.out)) : gb110 ≠ gb108)); have n8_ := Aside0.mk ((by rw [hg]; exact Nat.ne_of_lt (blk_lt (g := gb109) (o := .cells #[.int .i64 0, .int .i64 0, .int .i64 0, .int .i64 0, .int .i64 0, .int .i64 0, .bool false] 23 (0, 0)) (by (with_reducible repeat (first | refine blk_drewN ?_ _ | refine blk_drew ?_ | refine blk_alloc ?_ _)); exact BK109.out)) : gb109 ≠ gb110)); have n9_ := Aside0.mk ((by rw [hg]; exact Nat.ne_of_gt (blk_lt (g := gb109) (o := .cells #[.int .i64 0, .int .i64 0, .int .i64 0, .int .i64 0, .int .i64 0, .int .i64 0, .bool false] 23 (0, 0)) (by (with_reducible repeat (first | refine blk_drewN ?_ _ | refine blk_drew ?_ | refine blk_alloc ?_ _)); exact BK109.out)) : gb110 ≠ gb109)); clear BK108; clear BK109; clear HB; have BK108 := n0_; have BK109 := n1_; have HB := n2_; have BK110 := n3_; have GW110 := n4_; have GE110 := n5_; have NB108_110 := n6_; have NB110_108 := n7_; have NB109_110 := n8_; have NB110_109 := n9_; clear n0_ n1_ n2_ n3_ n4_ n5_ n6_ n7_ n8_ n9_; clear hb hbox hg; have hnb8 := NB110_108.out; have hnc8 := NB108_110.out; have hnb9 := NB110_109.out; have hnc9 := NB109_110.out; have hcz10_0 : w7.cell? ⟨gb110, 0, none⟩ = some (.int .i64 0) := (blk_cell BK110.out 0).trans rfl; have hcz10_1 : w7.cell? ⟨gb110, 1, none⟩ = some (.int .i64 0) := (blk_cell BK110.out 1).trans rfl; have hcz10_2 : w7.cell? ⟨gb110, 2, none⟩ = some (.int .i64 0) := (blk_cell BK110.out 2).trans rfl; have hcz10_3 : w7.cell? ⟨gb110, 3, none⟩ = some (.int .i64 0) := (blk_cell BK110.out 3).trans rfl; have hcz10_4 : w7.cell? ⟨gb110, 4, none⟩ = some (.int .i64 0) := (blk_cell BK110.out 4).trans rfl; have hcz10_5 : w7.cell? ⟨gb110, 5, none⟩ = some (.int .i64 0) := (blk_cell BK110.out 5).trans rfl; have hcz10_6 : w7.cell? ⟨gb110, 6, none⟩ = some (.bool false) := (blk_cell BK110.out 6).trans rfl; have hfz10_0 := blk_frozen BK110.out 0; have hfz10_1 := blk_frozen BK110.out 1; have hfz10_2 := blk_frozen BK110.out 2; have hfz10_3 := blk_frozen BK110.out 3; have hfz10_4 := blk_frozen BK110.out 4; have hfz10_5 := blk_frozen BK110.out 5; have hfz10_6 := blk_frozen BK110.out 6; have hcz11_0 : w7.cell? ⟨gb108, 0, none⟩ = some (.int .i64 a0_0) := (blk_cell BK108.out 0).trans rfl; have hcz11_1 : w7.cell? ⟨gb108, 1, none⟩ = some (.int .i64 a0_1) := (blk_cell BK108.out 1).trans rfl; have hcz11_2 : w7.cell? ⟨gb108, 2, none⟩ = some (.int .i64 a0_2) := (blk_cell BK108.out 2).trans rfl; have hcz11_3 : w7.cell? ⟨gb108, 3, none⟩ = some (.int .i64 a0_3) := (blk_cell BK108.out 3).trans rfl; have hcz11_4 : w7.cell? ⟨gb108, 4, none⟩ = some (.int .i64 a0_4) := (blk_cell BK108.out 4).trans rfl; have hcz11_5 : w7.cell? ⟨gb108, 5, none⟩ = some (.int .i64 a0_5) := (blk_cell BK108.out 5).trans rfl; have hcz11_6 : w7.cell? ⟨gb108, 6, none⟩ = some (.bool a0_6) := (blk_cell BK108.out 6).trans rfl; have hfz11_0 := blk_frozen BK108.out 0; have hfz11_1 := blk_frozen BK108.out 1; have hfz11_2 := blk_frozen BK108.out 2; have hfz11_3 := blk_frozen BK108.out 3; have hfz11_4 := blk_frozen BK108.out 4; have hfz11_5 := blk_frozen BK108.out 5; have hfz11_6 := blk_frozen BK108.out 6))
  (try simp only [Act.put, List.setIfInBounds_toArray, List.set_cons_zero, List.set_cons_succ])
  go_cut [22] (fun v22 wc => ∃ (kq : Nat) (x22_1 : Bool), v22 = .bool x22_1 ∧ Aside0 (rivetref03_Fit.j0 kq (Int.tmod (wrap64 ((Int.tmod a0_1 12) + 12)) 12) (wrap64 (1 + (Int.tmod (wrap64 ((Int.tmod a0_0 7) + 7)) 7))) x22_1 a0_0 a0_1 a0_2 a0_3 a0_4 a0_5 a0_6 (wrap64 (1 + (Int.tmod (wrap64 ((Int.tmod a0_0 7) + 7)) 7))) 0 (Go.bits .and .i64 a0_2 15) 0 0 0 false = some (r1, r2, r3, r4, r5, r6, r7)) ∧ Aside0 (kq ≤ k) ∧ Aside0 (wc.heap[gb108]? = some (.cells #[.int .i64 a0_0, .int .i64 a0_1, .int .i64 a0_2, .int .i64 a0_3, .int .i64 a0_4, .int .i64 a0_5, .bool a0_6] 23 (0, 0))) ∧ Aside0 (wc.heap[gb109]? = some (.cells #[.int .i64 0, .int .i64 0, .int .i64 0, .int .i64 0, .int .i64 0, .int .i64 0, .bool false] 23 (0, 0))) ∧ Aside0 (wc.heap[gb110]? = some (.cells #[.int .i64 (wrap64 (1 + (Int.tmod (wrap64 ((Int.tmod a0_0 7) + 7)) 7))), .int .i64 0, .int .i64 (Go.bits .and .i64 a0_2 15), .int .i64 0, .int .i64 0, .int .i64 0, .bool false] 23 (0, 0))) ∧ Aside0 (Below w.heap.size w wc))
  case first =>
    have H := HC2.out
    clear HC2
    by_cases c12 : (wrap64 (1 + (Int.tmod (wrap64 ((Int.tmod a0_0 7) + 7)) 7))) = 1
    · rw [if_pos c12] at H
      have c12b0 : ((wrap64 (1 + (Int.tmod (wrap64 ((Int.tmod a0_0 7) + 7)) 7))) == 1) = true := beq_iff_eq.mpr c12
      have c12b1 : ((wrap64 (1 + (Int.tmod (wrap64 ((Int.tmod a0_0 7) + 7)) 7))) != 1) = false := bne_eq_false_iff_eq.mpr c12
      clear c12
      (first | rw [c12b0] | (simp only [i64_w, i32_w]; rw [c12b0]) | skip)
      have H' := Aside0.mk H
      clear H
      go_wp2
      go_meet
      case rel => exact ⟨_, (((wrap64 (1 + (Int.tmod (wrap64 ((Int.tmod a0_0 7) + 7)) 7))) == 1)), (by first | rfl | (simp; done) | (simp [*]; done)), H', ⟨by first | omega | exact Nat.le_refl _⟩, ⟨by (with_reducible repeat (first | refine blk_drewN ?_ _ | refine blk_drew ?_ | refine blk_alloc ?_ _)); refine blk_far ?_ NB108_110.out _; (with_reducible repeat (first | refine blk_drewN ?_ _ | refine blk_drew ?_ | refine blk_alloc ?_ _)); refine blk_far ?_ NB108_110.out _; (with_reducible repeat (first | refine blk_drewN ?_ _ | refine blk_drew ?_ | refine blk_alloc ?_ _)); refine blk_far ?_ NB108_110.out _; (with_reducible repeat (first | refine blk_drewN ?_ _ | refine blk_drew ?_ | refine blk_alloc ?_ _)); refine blk_far ?_ NB108_110.out _; (with_reducible repeat (first | refine blk_drewN ?_ _ | refine blk_drew ?_ | refine blk_alloc ?_ _)); refine blk_far ?_ NB108_110.out _; (with_reducible repeat (first | refine blk_drewN ?_ _ | refine blk_drew ?_ | refine blk_alloc ?_ _)); refine blk_far ?_ NB108_110.out _; (with_reducible repeat (first | refine blk_drewN ?_ _ | refine blk_drew ?_ | refine blk_alloc ?_ _)); refine blk_far ?_ NB108_110.out _; (with_reducible repeat (first | refine blk_drewN ?_ _ | refine blk_drew ?_ | refine blk_alloc ?_ _)); exact BK108.out⟩, ⟨by (with_reducible repeat (first | refine blk_drewN ?_ _ | refine blk_drew ?_ | refine blk_alloc ?_ _)); refine blk_far ?_ NB109_110.out _; (with_reducible repeat (first | refine blk_drewN ?_ _ | refine blk_drew ?_ | refine blk_alloc ?_ _)); refine blk_far ?_ NB109_110.out _; (with_reducible repeat (first | refine blk_drewN ?_ _ | refine blk_drew ?_ | refine blk_alloc ?_ _)); refine blk_far ?_ NB109_110.out _; (with_reducible repeat (first | refine blk_drewN ?_ _ | refine blk_drew ?_ | refine blk_alloc ?_ _)); refine blk_far ?_ NB109_110.out _; (with_reducible repeat (first | refine blk_drewN ?_ _ | refine blk_drew ?_ | refine blk_alloc ?_ _)); refine blk_far ?_ NB109_110.out _; (with_reducible repeat (first | refine blk_drewN ?_ _ | refine blk_drew ?_ | refine blk_alloc ?_ _)); refine blk_far ?_ NB109_110.out _; (with_reducible repeat (first | refine blk_drewN ?_ _ | refine blk_drew ?_ | refine blk_alloc ?_ _)); refine blk_far ?_ NB109_110.out _; (with_reducible repeat (first | refine blk_drewN ?_ _ | refine blk_drew ?_ | refine blk_alloc ?_ _)); exact BK109.out⟩, ⟨by (with_reducible repeat (first | refine blk_drewN ?_ _ | refine blk_drew ?_ | refine blk_alloc ?_ _)); refine blk_put (cs := #[.int .i64 (wrap64 (1 + (Int.tmod (wrap64 ((Int.tmod a0_0 7) + 7)) 7))), .int .i64 0, .int .i64 (Go.bits .and .i64 a0_2 15), .int .i64 0, .int .i64 0, .int .i64 0, .bool false]) ?_ 6 _ rfl; (with_reducible repeat (first | refine blk_drewN ?_ _ | refine blk_drew ?_ | refine blk_alloc ?_ _)); refine blk_put (cs := #[.int .i64 (wrap64 (1 + (Int.tmod (wrap64 ((Int.tmod a0_0 7) + 7)) 7))), .int .i64 0, .int .i64 (Go.bits .and .i64 a0_2 15), .int .i64 0, .int .i64 0, .int .i64 0, .bool false]) ?_ 5 _ rfl; (with_reducible repeat (first | refine blk_drewN ?_ _ | refine blk_drew ?_ | refine blk_alloc ?_ _)); refine blk_put (cs := #[.int .i64 (wrap64 (1 + (Int.tmod (wrap64 ((Int.tmod a0_0 7) + 7)) 7))), .int .i64 0, .int .i64 (Go.bits .and .i64 a0_2 15), .int .i64 0, .int .i64 0, .int .i64 0, .bool false]) ?_ 4 _ rfl; (with_reducible repeat (first | refine blk_drewN ?_ _ | refine blk_drew ?_ | refine blk_alloc ?_ _)); refine blk_put (cs := #[.int .i64 (wrap64 (1 + (Int.tmod (wrap64 ((Int.tmod a0_0 7) + 7)) 7))), .int .i64 0, .int .i64 (Go.bits .and .i64 a0_2 15), .int .i64 0, .int .i64 0, .int .i64 0, .bool false]) ?_ 3 _ rfl; (with_reducible repeat (first | refine blk_drewN ?_ _ | refine blk_drew ?_ | refine blk_alloc ?_ _)); refine blk_put (cs := #[.int .i64 (wrap64 (1 + (Int.tmod (wrap64 ((Int.tmod a0_0 7) + 7)) 7))), .int .i64 0, .int .i64 0, .int .i64 0, .int .i64 0, .int .i64 0, .bool false]) ?_ 2 _ rfl; (with_reducible repeat (first | refine blk_drewN ?_ _ | refine blk_drew ?_ | refine blk_alloc ?_ _)); refine blk_put (cs := #[.int .i64 (wrap64 (1 + (Int.tmod (wrap64 ((Int.tmod a0_0 7) + 7)) 7))), .int .i64 0, .int .i64 0, .int .i64 0, .int .i64 0, .int .i64 0, .bool false]) ?_ 1 _ rfl; (with_reducible repeat (first | refine blk_drewN ?_ _ | refine blk_drew ?_ | refine blk_alloc ?_ _)); refine blk_put (cs := #[.int .i64 0, .int .i64 0, .int .i64 0, .int .i64 0, .int .i64 0, .int .i64 0, .bool false]) ?_ 0 _ rfl; (with_reducible repeat (first | refine blk_drewN ?_ _ | refine blk_drew ?_ | refine blk_alloc ?_ _)); exact BK110.out⟩, ⟨by repeat (first | (with_reducible first | exact HB.out | apply below_alloc | apply pw_below_drewN | apply below_drew1 | refine below_set ?_ GE108.out | refine below_set ?_ GE109.out | refine below_set ?_ GE110.out) | exact HB.out)⟩⟩
    · rw [if_neg c12] at H
      have c12b0 : ((wrap64 (1 + (Int.tmod (wrap64 ((Int.tmod a0_0 7) + 7)) 7))) == 1) = false := beq_eq_false_iff_ne.mpr c12
      have c12b1 : ((wrap64 (1 + (Int.tmod (wrap64 ((Int.tmod a0_0 7) + 7)) 7))) != 1) = true := bne_iff_ne.mpr c12
      (first | rw [c12b0] | (simp only [i64_w, i32_w]; rw [c12b0]) | skip)
      have H' := Aside0.mk H
      clear H
      go_wp2
      go_meet
      case rel => exact ⟨_, (((wrap64 (1 + (Int.tmod (wrap64 ((Int.tmod a0_0 7) + 7)) 7))) == 2)), (by first | rfl | (simp; done) | (simp [*]; done)), H', ⟨by first | omega | exact Nat.le_refl _⟩, ⟨by (with_reducible repeat (first | refine blk_drewN ?_ _ | refine blk_drew ?_ | refine blk_alloc ?_ _)); refine blk_far ?_ NB108_110.out _; (with_reducible repeat (first | refine blk_drewN ?_ _ | refine blk_drew ?_ | refine blk_alloc ?_ _)); refine blk_far ?_ NB108_110.out _; (with_reducible repeat (first | refine blk_drewN ?_ _ | refine blk_drew ?_ | refine blk_alloc ?_ _)); refine blk_far ?_ NB108_110.out _; (with_reducible repeat (first | refine blk_drewN ?_ _ | refine blk_drew ?_ | refine blk_alloc ?_ _)); refine blk_far ?_ NB108_110.out _; (with_reducible repeat (first | refine blk_drewN ?_ _ | refine blk_drew ?_ | refine blk_alloc ?_ _)); refine blk_far ?_ NB108_110.out _; (with_reducible repeat (first | refine blk_drewN ?_ _ | refine blk_drew ?_ | refine blk_alloc ?_ _)); refine blk_far ?_ NB108_110.out _; (with_reducible repeat (first | refine blk_drewN ?_ _ | refine blk_drew ?_ | refine blk_alloc ?_ _)); refine blk_far ?_ NB108_110.out _; (with_reducible repeat (first | refine blk_drewN ?_ _ | refine blk_drew ?_ | refine blk_alloc ?_ _)); exact BK108.out⟩, ⟨by (with_reducible repeat (first | refine blk_drewN ?_ _ | refine blk_drew ?_ | refine blk_alloc ?_ _)); refine blk_far ?_ NB109_110.out _; (with_reducible repeat (first | refine blk_drewN ?_ _ | refine blk_drew ?_ | refine blk_alloc ?_ _)); refine blk_far ?_ NB109_110.out _; (with_reducible repeat (first | refine blk_drewN ?_ _ | refine blk_drew ?_ | refine blk_alloc ?_ _)); refine blk_far ?_ NB109_110.out _; (with_reducible repeat (first | refine blk_drewN ?_ _ | refine blk_drew ?_ | refine blk_alloc ?_ _)); refine blk_far ?_ NB109_110.out _; (with_reducible repeat (first | refine blk_drewN ?_ _ | refine blk_drew ?_ | refine blk_alloc ?_ _)); refine blk_far ?_ NB109_110.out _; (with_reducible repeat (first | refine blk_drewN ?_ _ | refine blk_drew ?_ | refine blk_alloc ?_ _)); refine blk_far ?_ NB109_110.out _; (with_reducible repeat (first | refine blk_drewN ?_ _ | refine blk_drew ?_ | refine blk_alloc ?_ _)); refine blk_far ?_ NB109_110.out _; (with_reducible repeat (first | refine blk_drewN ?_ _ | refine blk_drew ?_ | refine blk_alloc ?_ _)); exact BK109.out⟩, ⟨by (with_reducible repeat (first | refine blk_drewN ?_ _ | refine blk_drew ?_ | refine blk_alloc ?_ _)); refine blk_put (cs := #[.int .i64 (wrap64 (1 + (Int.tmod (wrap64 ((Int.tmod a0_0 7) + 7)) 7))), .int .i64 0, .int .i64 (Go.bits .and .i64 a0_2 15), .int .i64 0, .int .i64 0, .int .i64 0, .bool false]) ?_ 6 _ rfl; (with_reducible repeat (first | refine blk_drewN ?_ _ | refine blk_drew ?_ | refine blk_alloc ?_ _)); refine blk_put (cs := #[.int .i64 (wrap64 (1 + (Int.tmod (wrap64 ((Int.tmod a0_0 7) + 7)) 7))), .int .i64 0, .int .i64 (Go.bits .and .i64 a0_2 15), .int .i64 0, .int .i64 0, .int .i64 0, .bool false]) ?_ 5 _ rfl; (with_reducible repeat (first | refine blk_drewN ?_ _ | refine blk_drew ?_ | refine blk_alloc ?_ _)); refine blk_put (cs := #[.int .i64 (wrap64 (1 + (Int.tmod (wrap64 ((Int.tmod a0_0 7) + 7)) 7))), .int .i64 0, .int .i64 (Go.bits .and .i64 a0_2 15), .int .i64 0, .int .i64 0, .int .i64 0, .bool false]) ?_ 4 _ rfl; (with_reducible repeat (first | refine blk_drewN ?_ _ | refine blk_drew ?_ | refine blk_alloc ?_ _)); refine blk_put (cs := #[.int .i64 (wrap64 (1 + (Int.tmod (wrap64 ((Int.tmod a0_0 7) + 7)) 7))), .int .i64 0, .int .i64 (Go.bits .and .i64 a0_2 15), .int .i64 0, .int .i64 0, .int .i64 0, .bool false]) ?_ 3 _ rfl; (with_reducible repeat (first | refine blk_drewN ?_ _ | refine blk_drew ?_ | refine blk_alloc ?_ _)); refine blk_put (cs := #[.int .i64 (wrap64 (1 + (Int.tmod (wrap64 ((Int.tmod a0_0 7) + 7)) 7))), .int .i64 0, .int .i64 0, .int .i64 0, .int .i64 0, .int .i64 0, .bool false]) ?_ 2 _ rfl; (with_reducible repeat (first | refine blk_drewN ?_ _ | refine blk_drew ?_ | refine blk_alloc ?_ _)); refine blk_put (cs := #[.int .i64 (wrap64 (1 + (Int.tmod (wrap64 ((Int.tmod a0_0 7) + 7)) 7))), .int .i64 0, .int .i64 0, .int .i64 0, .int .i64 0, .int .i64 0, .bool false]) ?_ 1 _ rfl; (with_reducible repeat (first | refine blk_drewN ?_ _ | refine blk_drew ?_ | refine blk_alloc ?_ _)); refine blk_put (cs := #[.int .i64 0, .int .i64 0, .int .i64 0, .int .i64 0, .int .i64 0, .int .i64 0, .bool false]) ?_ 0 _ rfl; (with_reducible repeat (first | refine blk_drewN ?_ _ | refine blk_drew ?_ | refine blk_alloc ?_ _)); exact BK110.out⟩, ⟨by repeat (first | (with_reducible first | exact HB.out | apply below_alloc | apply pw_below_drewN | apply below_drew1 | refine below_set ?_ GE108.out | refine below_set ?_ GE109.out | refine below_set ?_ GE110.out) | exact HB.out)⟩⟩
  case rest =>
    clear HC2
    try clear c1
    try clear p2
    try clear c5
    try clear p6
    try clear c8
    try clear c9
    try clear c12
    try clear c12b0
    try clear c12b1
    try clear hcz10_0
    try clear hcz10_1
    try clear hcz10_2
    try clear hcz10_3
    try clear hcz10_4
    try clear hcz10_5
    try clear hcz10_6
    try clear hcz11_0
    try clear hcz11_1
    try clear hcz11_2
    try clear hcz11_3
    try clear hcz11_4
    try clear hcz11_5
    try clear hcz11_6
    try clear hcz6_0
    try clear hcz6_1
    try clear hcz6_2
    try clear hcz6_3
    try clear hcz6_4
    try clear hcz6_5
    try clear hcz6_6
    try clear hfz10_0
    try clear hfz10_1
    try clear hfz10_2
    try clear hfz10_3
    try clear hfz10_4
    try clear hfz10_5
    try clear hfz10_6
    try clear hfz11_0
    try clear hfz11_1
    try clear hfz11_2
    try clear hfz11_3
    try clear hfz11_4
    try clear hfz11_5
    try clear hfz11_6
    try clear hfz6_0
    try clear hfz6_1
    try clear hfz6_2
    try clear hfz6_3
    try clear hfz6_4
    try clear hfz6_5
    try clear hfz6_6
    obtain ⟨kq, x22_1, rfl, HA, HJ1, BK108, BK109, BK110, HB⟩ := hcut
    cases kq with
    | zero => exact absurd HA.out (by simp [rivetref03_Fit.j0])
    | succ kj1 =>
      have H := HA.out
      clear HA
      simp only [rivetref03_Fit.j0] at H
      by_cases c13 : x22_1 = true
      · subst c13
        have H1 : (if (Int.tmod (wrap64 ((Int.tmod a0_1 12) + 12)) 12) = 0 then (rivetref03_Fit.j1 kj1 (Int.tmod (wrap64 ((Int.tmod a0_1 12) + 12)) 12) a0_0 a0_1 a0_2 a0_3 a0_4 a0_5 a0_6 (wrap64 (1 + (Int.tmod (wrap64 ((Int.tmod a0_0 7) + 7)) 7))) (Int.tmod (wrap64 ((Int.tmod a0_1 12) + 12)) 12) (Go.bits .and .i64 a0_2 15) 0 0 0 false) else (rivetref03_Fit.j1 kj1 (Int.tmod (wrap64 ((Int.tmod a0_1 12) + 12)) 12) a0_0 a0_1 a0_2 a0_3 a0_4 a0_5 a0_6 (wrap64 (1 + (Int.tmod (wrap64 ((Int.tmod a0_0 7) + 7)) 7))) (Int.tmod (wrap64 ((Int.tmod a0_1 12) + 12)) 12) (Go.bits .and .i64 a0_2 15) (Go.bits .and .i64 a0_3 15) 0 0 false)) = some (r1, r2, r3, r4, r5, r6, r7) := by rw [if_pos rfl] at H; exact H
        clear H
        have H := H1
        clear H1
        have HC14 := Aside0.mk H
        clear H
        have hnb15 := NB110_108.out
        have hnc15 := NB108_110.out
        have hnb16 := NB110_109.out
        have hnc16 := NB109_110.out
        have hcz17_0 : wc.cell? ⟨gb110, 0, none⟩ = some (.int .i64 (wrap64 (1 + (Int.tmod (wrap64 ((Int.tmod a0_0 7) + 7)) 7)))) := (blk_cell BK110.out 0).trans rfl
        have hcz17_1 : wc.cell? ⟨gb110, 1, none⟩ = some (.int .i64 0) := (blk_cell BK110.out 1).trans rfl
        have hcz17_2 : wc.cell? ⟨gb110, 2, none⟩ = some (.int .i64 (Go.bits .and .i64 a0_2 15)) := (blk_cell BK110.out 2).trans rfl
        have hcz17_3 : wc.cell? ⟨gb110, 3, none⟩ = some (.int .i64 0) := (blk_cell BK110.out 3).trans rfl
        have hcz17_4 : wc.cell? ⟨gb110, 4, none⟩ = some (.int .i64 0) := (blk_cell BK110.out 4).trans rfl
        have hcz17_5 : wc.cell? ⟨gb110, 5, none⟩ = some (.int .i64 0) := (blk_cell BK110.out 5).trans rfl
        have hcz17_6 : wc.cell? ⟨gb110, 6, none⟩ = some (.bool false) := (blk_cell BK110.out 6).trans rfl
        have hfz17_0 := blk_frozen BK110.out 0
        have hfz17_1 := blk_frozen BK110.out 1
        have hfz17_2 := blk_frozen BK110.out 2
        have hfz17_3 := blk_frozen BK110.out 3
        have hfz17_4 := blk_frozen BK110.out 4
        have hfz17_5 := blk_frozen BK110.out 5
        have hfz17_6 := blk_frozen BK110.out 6
        go_upto_if 28 with (fail)
        go_cut [] (fun wc => ∃ (kq : Nat) (x111003_13 : Int), Aside0 (rivetref03_Fit.j1 kq (Int.tmod (wrap64 ((Int.tmod a0_1 12) + 12)) 12) a0_0 a0_1 a0_2 a0_3 a0_4 a0_5 a0_6 (wrap64 (1 + (Int.tmod (wrap64 ((Int.tmod a0_0 7) + 7)) 7))) (Int.tmod (wrap64 ((Int.tmod a0_1 12) + 12)) 12) (Go.bits .and .i64 a0_2 15) x111003_13 0 0 false = some (r1, r2, r3, r4, r5, r6, r7)) ∧ Aside0 (kq ≤ kj1) ∧ Aside0 (wc.heap[gb108]? = some (.cells #[.int .i64 a0_0, .int .i64 a0_1, .int .i64 a0_2, .int .i64 a0_3, .int .i64 a0_4, .int .i64 a0_5, .bool a0_6] 23 (0, 0))) ∧ Aside0 (wc.heap[gb109]? = some (.cells #[.int .i64 0, .int .i64 0, .int .i64 0, .int .i64 0, .int .i64 0, .int .i64 0, .bool false] 23 (0, 0))) ∧ Aside0 (wc.heap[gb110]? = some (.cells #[.int .i64 (wrap64 (1 + (Int.tmod (wrap64 ((Int.tmod a0_0 7) + 7)) 7))), .int .i64 (Int.tmod (wrap64 ((Int.tmod a0_1 12) + 12)) 12), .int .i64 (Go.bits .and .i64 a0_2 15), .int .i64 x111003_13, .int .i64 0, .int .i64 0, .bool false] 23 (0, 0))) ∧ Aside0 (Below w.heap.size w wc))
        case first =>
          have H := HC14.out
          clear HC14
          by_cases c18 : (Int.tmod (wrap64 ((Int.tmod a0_1 12) + 12)) 12) = 0
          · rw [if_pos c18] at H
            have c18b0 : ((Int.tmod (wrap64 ((Int.tmod a0_1 12) + 12)) 12) == 0) = true := beq_iff_eq.mpr c18
            have c18b1 : ((Int.tmod (wrap64 ((Int.tmod a0_1 12) + 12)) 12) != 0) = false := bne_eq_false_iff_eq.mpr c18
            clear c18
            (first | rw [c18b0] | (simp only [i64_w, i32_w]; rw [c18b0]) | skip)
            have H' := Aside0.mk H
            clear H
            go_wp2
            go_meet
            case rel => exact ⟨_, (0), H', ⟨by have := HJ1.out; first | omega | exact Nat.le_refl _⟩, ⟨by (with_reducible repeat (first | refine blk_drewN ?_ _ | refine blk_drew ?_ | refine blk_alloc ?_ _)); refine blk_far ?_ NB108_110.out _; (with_reducible repeat (first | refine blk_drewN ?_ _ | refine blk_drew ?_ | refine blk_alloc ?_ _)); exact BK108.out⟩, ⟨by (with_reducible repeat (first | refine blk_drewN ?_ _ | refine blk_drew ?_ | refine blk_alloc ?_ _)); refine blk_far ?_ NB109_110.out _; (with_reducible repeat (first | refine blk_drewN ?_ _ | refine blk_drew ?_ | refine blk_alloc ?_ _)); exact BK109.out⟩, ⟨by (with_reducible repeat (first | refine blk_drewN ?_ _ | refine blk_drew ?_ | refine blk_alloc ?_ _)); refine blk_put (cs := #[.int .i64 (wrap64 (1 + (Int.tmod (wrap64 ((Int.tmod a0_0 7) + 7)) 7))), .int .i64 0, .int .i64 (Go.bits .and .i64 a0_2 15), .int .i64 0, .int .i64 0, .int .i64 0, .bool false]) ?_ 1 _ rfl; (with_reducible repeat (first | refine blk_drewN ?_ _ | refine blk_drew ?_ | refine blk_alloc ?_ _)); exact BK110.out⟩, ⟨by repeat (first | (with_reducible first | exact HB.out | apply below_alloc | apply pw_below_drewN | apply below_drew1 | refine below_set ?_ GE108.out | refine below_set ?_ GE109.out | refine below_set ?_ GE110.out) | exact HB.out)⟩⟩
          · rw [if_neg c18] at H
            have c18b0 : ((Int.tmod (wrap64 ((Int.tmod a0_1 12) + 12)) 12) == 0) = false := beq_eq_false_iff_ne.mpr c18
            have c18b1 : ((Int.tmod (wrap64 ((Int.tmod a0_1 12) + 12)) 12) != 0) = true := bne_iff_ne.mpr c18
            (first | rw [c18b0] | (simp only [i64_w, i32_w]; rw [c18b0]) | skip)
            have H' := Aside0.mk H
            clear H
            have hnb19 := NB108_109.out
            have hnc19 := NB109_108.out
            have hnb20 := NB108_110.out
            have hnc20 := NB110_108.out
            have hcz21_0 : wc.cell? ⟨gb108, 0, none⟩ = some (.int .i64 a0_0) := (blk_cell BK108.out 0).trans rfl
            have hcz21_1 : wc.cell? ⟨gb108, 1, none⟩ = some (.int .i64 a0_1) := (blk_cell BK108.out 1).trans rfl
            have hcz21_2 : wc.cell? ⟨gb108, 2, none⟩ = some (.int .i64 a0_2) := (blk_cell BK108.out 2).trans rfl
            have hcz21_3 : wc.cell? ⟨gb108, 3, none⟩ = some (.int .i64 a0_3) := (blk_cell BK108.out 3).trans rfl
            have hcz21_4 : wc.cell? ⟨gb108, 4, none⟩ = some (.int .i64 a0_4) := (blk_cell BK108.out 4).trans rfl
            have hcz21_5 : wc.cell? ⟨gb108, 5, none⟩ = some (.int .i64 a0_5) := (blk_cell BK108.out 5).trans rfl
            have hcz21_6 : wc.cell? ⟨gb108, 6, none⟩ = some (.bool a0_6) := (blk_cell BK108.out 6).trans rfl
            have hfz21_0 := blk_frozen BK108.out 0
            have hfz21_1 := blk_frozen BK108.out 1
            have hfz21_2 := blk_frozen BK108.out 2
            have hfz21_3 := blk_frozen BK108.out 3
            have hfz21_4 := blk_frozen BK108.out 4
            have hfz21_5 := blk_frozen BK108.out 5
            have hfz21_6 := blk_frozen BK108.out 6
            have hnb22 := NB110_109.out
            have hnc22 := NB109_110.out
            have hcz23_0 : wc.cell? ⟨gb110, 0, none⟩ = some (.int .i64 (wrap64 (1 + (Int.tmod (wrap64 ((Int.tmod a0_0 7) + 7)) 7)))) := (blk_cell BK110.out 0).trans rfl
            have hcz23_1 : wc.cell? ⟨gb110, 1, none⟩ = some (.int .i64 0) := (blk_cell BK110.out 1).trans rfl
            have hcz23_2 : wc.cell? ⟨gb110, 2, none⟩ = some (.int .i64 (Go.bits .and .i64 a0_2 15)) := (blk_cell BK110.out 2).trans rfl
            have hcz23_3 : wc.cell? ⟨gb110, 3, none⟩ = some (.int .i64 0) := (blk_cell BK110.out 3).trans rfl
            have hcz23_4 : wc.cell? ⟨gb110, 4, none⟩ = some (.int .i64 0) := (blk_cell BK110.out 4).trans rfl
            have hcz23_5 : wc.cell? ⟨gb110, 5, none⟩ = some (.int .i64 0) := (blk_cell BK110.out 5).trans rfl
            have hcz23_6 : wc.cell? ⟨gb110, 6, none⟩ = some (.bool false) := (blk_cell BK110.out 6).trans rfl
            have hfz23_0 := blk_frozen BK110.out 0
            have hfz23_1 := blk_frozen BK110.out 1
            have hfz23_2 := blk_frozen BK110.out 2
            have hfz23_3 := blk_frozen BK110.out 3
            have hfz23_4 := blk_frozen BK110.out 4
            have hfz23_5 := blk_frozen BK110.out 5
            have hfz23_6 := blk_frozen BK110.out 6
            go_wp2
            go_meet
            case rel => exact ⟨_, (Go.bits .and .i64 a0_3 15), H', ⟨by have := HJ1.out; first | omega | exact Nat.le_refl _⟩, ⟨by (with_reducible repeat (first | refine blk_drewN ?_ _ | refine blk_drew ?_ | refine blk_alloc ?_ _)); refine blk_far ?_ NB108_110.out _; (with_reducible repeat (first | refine blk_drewN ?_ _ | refine blk_drew ?_ | refine blk_alloc ?_ _)); refine blk_far ?_ NB108_110.out _; (with_reducible repeat (first | refine blk_drewN ?_ _ | refine blk_drew ?_ | refine blk_alloc ?_ _)); exact BK108.out⟩, ⟨by (with_reducible repeat (first | refine blk_drewN ?_ _ | refine blk_drew ?_ | refine blk_alloc ?_ _)); refine blk_far ?_ NB109_110.out _; (with_reducible repeat (first | refine blk_drewN ?_ _ | refine blk_drew ?_ | refine blk_alloc ?_ _)); refine blk_far ?_ NB109_110.out _; (with_reducible repeat (first | refine blk_drewN ?_ _ | refine blk_drew ?_ | refine blk_alloc ?_ _)); exact BK109.out⟩, ⟨by (with_reducible repeat (first | refine blk_drewN ?_ _ | refine blk_drew ?_ | refine blk_alloc ?_ _)); refine blk_put (cs := #[.int .i64 (wrap64 (1 + (Int.tmod (wrap64 ((Int.tmod a0_0 7) + 7)) 7))), .int .i64 (Int.tmod (wrap64 ((Int.tmod a0_1 12) + 12)) 12), .int .i64 (Go.bits .and .i64 a0_2 15), .int .i64 0, .int .i64 0, .int .i64 0, .bool false]) ?_ 3 _ rfl; (with_reducible repeat (first | refine blk_drewN ?_ _ | refine blk_drew ?_ | refine blk_alloc ?_ _)); refine blk_put (cs := #[.int .i64 (wrap64 (1 + (Int.tmod (wrap64 ((Int.tmod a0_0 7) + 7)) 7))), .int .i64 0, .int .i64 (Go.bits .and .i64 a0_2 15), .int .i64 0, .int .i64 0, .int .i64 0, .bool false]) ?_ 1 _ rfl; (with_reducible repeat (first | refine blk_drewN ?_ _ | refine blk_drew ?_ | refine blk_alloc ?_ _)); exact BK110.out⟩, ⟨by repeat (first | (with_reducible first | exact HB.out | apply below_alloc | apply pw_below_drewN | apply below_drew1 | refine below_set ?_ GE108.out | refine below_set ?_ GE109.out | refine below_set ?_ GE110.out) | exact HB.out)⟩⟩
        case rest =>
          clear HC14
          try clear c1
          try clear c2
          try clear p2
          try clear c5
          try clear p6
          try clear c8
          try clear c9
          try clear c12
          try clear c12b0
          try clear c12b1
          try clear c13
          try clear c15
          try clear c16
          try clear c18
          try clear c18b0
          try clear c18b1
          try clear c19
          try clear c20
          try clear c22
          try clear hcz10_0
          try clear hcz10_1
          try clear hcz10_2
          try clear hcz10_3
          try clear hcz10_4
          try clear hcz10_5
          try clear hcz10_6
          try clear hcz11_0
          try clear hcz11_1
          try clear hcz11_2
          try clear hcz11_3
          try clear hcz11_4
          try clear hcz11_5
          try clear hcz11_6
          try clear hcz17_0
          try clear hcz17_1
          try clear hcz17_2
          try clear hcz17_3
          try clear hcz17_4
          try clear hcz17_5
          try clear hcz17_6
          try clear hcz21_0
          try clear hcz21_1
          try clear hcz21_2
          try clear hcz21_3
          try clear hcz21_4
          try clear hcz21_5
          try clear hcz21_6
          try clear hcz23_0
          try clear hcz23_1
          try clear hcz23_2
          try clear hcz23_3
          try clear hcz23_4
          try clear hcz23_5
          try clear hcz23_6
          try clear hcz6_0
          try clear hcz6_1
          try clear hcz6_2
          try clear hcz6_3
          try clear hcz6_4
          try clear hcz6_5
          try clear hcz6_6
          try clear hfz10_0
          try clear hfz10_1
          try clear hfz10_2
          try clear hfz10_3
          try clear hfz10_4
          try clear hfz10_5
          try clear hfz10_6
          try clear hfz11_0
          try clear hfz11_1
          try clear hfz11_2
          try clear hfz11_3
          try clear hfz11_4
          try clear hfz11_5
          try clear hfz11_6
          try clear hfz17_0
          try clear hfz17_1
          try clear hfz17_2
          try clear hfz17_3
          try clear hfz17_4
          try clear hfz17_5
          try clear hfz17_6
          try clear hfz21_0
          try clear hfz21_1
          try clear hfz21_2
          try clear hfz21_3
          try clear hfz21_4
          try clear hfz21_5
          try clear hfz21_6
          try clear hfz23_0
          try clear hfz23_1
          try clear hfz23_2
          try clear hfz23_3
          try clear hfz23_4
          try clear hfz23_5
          try clear hfz23_6
          try clear hfz6_0
          try clear hfz6_1
          try clear hfz6_2
          try clear hfz6_3
          try clear hfz6_4
          try clear hfz6_5
          try clear hfz6_6
          try clear p2
          try clear p6
          obtain ⟨kq, x111003_13, HA, HJ13, BK108, BK109, BK110, HB⟩ := hcut
          cases kq with
          | zero => exact absurd HA.out (by simp [rivetref03_Fit.j1])
          | succ kj13 =>
            have H := HA.out
            clear HA
            simp only [rivetref03_Fit.j1] at H
            have HC24 := Aside0.mk H
            clear H
            go_upto_region 9 with (fail)
            go_cut [] (fun wc => ∃ (kq : Nat) (x111006_23 : Bool), Aside0 (rivetref03_Fit.j2 kq (Int.tmod (wrap64 ((Int.tmod a0_1 12) + 12)) 12) a0_0 a0_1 a0_2 a0_3 a0_4 a0_5 a0_6 (wrap64 (1 + (Int.tmod (wrap64 ((Int.tmod a0_0 7) + 7)) 7))) (Int.tmod (wrap64 ((Int.tmod a0_1 12) + 12)) 12) (Go.bits .and .i64 a0_2 15) x111003_13 0 0 x111006_23 = some (r1, r2, r3, r4, r5, r6, r7)) ∧ Aside0 (kq ≤ kj13) ∧ Aside0 (wc.heap[gb108]? = some (.cells #[.int .i64 a0_0, .int .i64 a0_1, .int .i64 a0_2, .int .i64 a0_3, .int .i64 a0_4, .int .i64 a0_5, .bool a0_6] 23 (0, 0))) ∧ Aside0 (wc.heap[gb109]? = some (.cells #[.int .i64 0, .int .i64 0, .int .i64 0, .int .i64 0, .int .i64 0, .int .i64 0, .bool false] 23 (0, 0))) ∧ Aside0 (wc.heap[gb110]? = some (.cells #[.int .i64 (wrap64 (1 + (Int.tmod (wrap64 ((Int.tmod a0_0 7) + 7)) 7))), .int .i64 (Int.tmod (wrap64 ((Int.tmod a0_1 12) + 12)) 12), .int .i64 (Go.bits .and .i64 a0_2 15), .int .i64 x111003_13, .int .i64 0, .int .i64 0, .bool x111006_23] 23 (0, 0))) ∧ Aside0 (Below w.heap.size w wc))
            case first =>
              have H := HC24.out
              clear HC24
              by_cases c25 : a0_6 = true
              · subst c25
                have H1 : (if (Int.tmod (wrap64 ((Int.tmod a0_1 12) + 12)) 12) ≥ 8 then (rivetref03_Fit.j2 kj13 (Int.tmod (wrap64 ((Int.tmod a0_1 12) + 12)) 12) a0_0 a0_1 a0_2 a0_3 a0_4 a0_5 true (wrap64 (1 + (Int.tmod (wrap64 ((Int.tmod a0_0 7) + 7)) 7))) (Int.tmod (wrap64 ((Int.tmod a0_1 12) + 12)) 12) (Go.bits .and .i64 a0_2 15) x111003_13 0 0 (decide ((Int.tmod (wrap64 ((Int.tmod a0_1 12) + 12)) 12) ≤ 10))) else (rivetref03_Fit.j2 kj13 (Int.tmod (wrap64 ((Int.tmod a0_1 12) + 12)) 12) a0_0 a0_1 a0_2 a0_3 a0_4 a0_5 true (wrap64 (1 + (Int.tmod (wrap64 ((Int.tmod a0_0 7) + 7)) 7))) (Int.tmod (wrap64 ((Int.tmod a0_1 12) + 12)) 12) (Go.bits .and .i64 a0_2 15) x111003_13 0 0 false)) = some (r1, r2, r3, r4, r5, r6, r7) := by rw [if_pos rfl] at H; exact H
                clear H
                have H := H1
                clear H1
                by_cases c26 : (Int.tmod (wrap64 ((Int.tmod a0_1 12) + 12)) 12) ≥ 8
                · rw [if_pos c26] at H
                  have c26b0 : decide (8 ≤ (Int.tmod (wrap64 ((Int.tmod a0_1 12) + 12)) 12)) = true := decide_eq_true c26
                  clear c26
                  (first | rw [c26b0] | (simp only [i64_w, i32_w]; rw [c26b0]) | skip)
                  have H' := Aside0.mk H
                  clear H
                  have hnb27 := NB108_109.out
                  have hnc27 := NB109_108.out
                  have hnb28 := NB108_110.out
                  have hnc28 := NB110_108.out
                  have hcz29_0 : wc.cell? ⟨gb108, 0, none⟩ = some (.int .i64 a0_0) := (blk_cell BK108.out 0).trans rfl
                  have hcz29_1 : wc.cell? ⟨gb108, 1, none⟩ = some (.int .i64 a0_1) := (blk_cell BK108.out 1).trans rfl
                  have hcz29_2 : wc.cell? ⟨gb108, 2, none⟩ = some (.int .i64 a0_2) := (blk_cell BK108.out 2).trans rfl
                  have hcz29_3 : wc.cell? ⟨gb108, 3, none⟩ = some (.int .i64 a0_3) := (blk_cell BK108.out 3).trans rfl
                  have hcz29_4 : wc.cell? ⟨gb108, 4, none⟩ = some (.int .i64 a0_4) := (blk_cell BK108.out 4).trans rfl
                  have hcz29_5 : wc.cell? ⟨gb108, 5, none⟩ = some (.int .i64 a0_5) := (blk_cell BK108.out 5).trans rfl
                  have hcz29_6 : wc.cell? ⟨gb108, 6, none⟩ = some (.bool true) := (blk_cell BK108.out 6).trans rfl
                  have hfz29_0 := blk_frozen BK108.out 0
                  have hfz29_1 := blk_frozen BK108.out 1
                  have hfz29_2 := blk_frozen BK108.out 2
                  have hfz29_3 := blk_frozen BK108.out 3
                  have hfz29_4 := blk_frozen BK108.out 4
                  have hfz29_5 := blk_frozen BK108.out 5
                  have hfz29_6 := blk_frozen BK108.out 6
                  have hnb30 := NB110_109.out
                  have hnc30 := NB109_110.out
                  have hcz31_0 : wc.cell? ⟨gb110, 0, none⟩ = some (.int .i64 (wrap64 (1 + (Int.tmod (wrap64 ((Int.tmod a0_0 7) + 7)) 7)))) := (blk_cell BK110.out 0).trans rfl
                  have hcz31_1 : wc.cell? ⟨gb110, 1, none⟩ = some (.int .i64 (Int.tmod (wrap64 ((Int.tmod a0_1 12) + 12)) 12)) := (blk_cell BK110.out 1).trans rfl
                  have hcz31_2 : wc.cell? ⟨gb110, 2, none⟩ = some (.int .i64 (Go.bits .and .i64 a0_2 15)) := (blk_cell BK110.out 2).trans rfl
                  have hcz31_3 : wc.cell? ⟨gb110, 3, none⟩ = some (.int .i64 x111003_13) := (blk_cell BK110.out 3).trans rfl
                  have hcz31_4 : wc.cell? ⟨gb110, 4, none⟩ = some (.int .i64 0) := (blk_cell BK110.out 4).trans rfl
                  have hcz31_5 : wc.cell? ⟨gb110, 5, none⟩ = some (.int .i64 0) := (blk_cell BK110.out 5).trans rfl
                  have hcz31_6 : wc.cell? ⟨gb110, 6, none⟩ = some (.bool false) := (blk_cell BK110.out 6).trans rfl
                  have hfz31_0 := blk_frozen BK110.out 0
                  have hfz31_1 := blk_frozen BK110.out 1
                  have hfz31_2 := blk_frozen BK110.out 2
                  have hfz31_3 := blk_frozen BK110.out 3
                  have hfz31_4 := blk_frozen BK110.out 4
                  have hfz31_5 := blk_frozen BK110.out 5
                  have hfz31_6 := blk_frozen BK110.out 6
                  go_wp2
                  go_meet
                  case rel => exact ⟨_, (decide ((Int.tmod (wrap64 ((Int.tmod a0_1 12) + 12)) 12) ≤ 10)), H', ⟨by have := HJ1.out; have := HJ13.out; first | omega | exact Nat.le_refl _⟩, ⟨by (with_reducible repeat (first | refine blk_drewN ?_ _ | refine blk_drew ?_ | refine blk_alloc ?_ _)); refine blk_far ?_ NB108_110.out _; (with_reducible repeat (first | refine blk_drewN ?_ _ | refine blk_drew ?_ | refine blk_alloc ?_ _)); exact BK108.out⟩, ⟨by (with_reducible repeat (first | refine blk_drewN ?_ _ | refine blk_drew ?_ | refine blk_alloc ?_ _)); refine blk_far ?_ NB109_110.out _; (with_reducible repeat (first | refine blk_drewN ?_ _ | refine blk_drew ?_ | refine blk_alloc ?_ _)); exact BK109.out⟩, ⟨by (with_reducible repeat (first | refine blk_drewN ?_ _ | refine blk_drew ?_ | refine blk_alloc ?_ _)); refine blk_put (cs := #[.int .i64 (wrap64 (1 + (Int.tmod (wrap64 ((Int.tmod a0_0 7) + 7)) 7))), .int .i64 (Int.tmod (wrap64 ((Int.tmod a0_1 12) + 12)) 12), .int .i64 (Go.bits .and .i64 a0_2 15), .int .i64 x111003_13, .int .i64 0, .int .i64 0, .bool false]) ?_ 6 _ rfl; (with_reducible repeat (first | refine blk_drewN ?_ _ | refine blk_drew ?_ | refine blk_alloc ?_ _)); exact BK110.out⟩, ⟨by repeat (first | (with_reducible first | exact HB.out | apply below_alloc | apply pw_below_drewN | apply below_drew1 | refine below_set ?_ GE108.out | refine below_set ?_ GE109.out | refine below_set ?_ GE110.out) | exact HB.out)⟩⟩
                · rw [if_neg c26] at H
                  have c26b0 : decide (8 ≤ (Int.tmod (wrap64 ((Int.tmod a0_1 12) + 12)) 12)) = false := decide_eq_false c26
                  clear c26
                  (first | rw [c26b0] | (simp only [i64_w, i32_w]; rw [c26b0]) | skip)
                  have H' := Aside0.mk H
                  clear H
                  have hnb32 := NB108_109.out
                  have hnc32 := NB109_108.out
                  have hnb33 := NB108_110.out
                  have hnc33 := NB110_108.out
                  have hcz34_0 : wc.cell? ⟨gb108, 0, none⟩ = some (.int .i64 a0_0) := (blk_cell BK108.out 0).trans rfl
                  have hcz34_1 : wc.cell? ⟨gb108, 1, none⟩ = some (.int .i64 a0_1) := (blk_cell BK108.out 1).trans rfl
                  have hcz34_2 : wc.cell? ⟨gb108, 2, none⟩ = some (.int .i64 a0_2) := (blk_cell BK108.out 2).trans rfl
                  have hcz34_3 : wc.cell? ⟨gb108, 3, none⟩ = some (.int .i64 a0_3) := (blk_cell BK108.out 3).trans rfl
                  have hcz34_4 : wc.cell? ⟨gb108, 4, none⟩ = some (.int .i64 a0_4) := (blk_cell BK108.out 4).trans rfl
                  have hcz34_5 : wc.cell? ⟨gb108, 5, none⟩ = some (.int .i64 a0_5) := (blk_cell BK108.out 5).trans rfl
                  have hcz34_6 : wc.cell? ⟨gb108, 6, none⟩ = some (.bool true) := (blk_cell BK108.out 6).trans rfl
                  have hfz34_0 := blk_frozen BK108.out 0
                  have hfz34_1 := blk_frozen BK108.out 1
                  have hfz34_2 := blk_frozen BK108.out 2
                  have hfz34_3 := blk_frozen BK108.out 3
                  have hfz34_4 := blk_frozen BK108.out 4
                  have hfz34_5 := blk_frozen BK108.out 5
                  have hfz34_6 := blk_frozen BK108.out 6
                  have hnb35 := NB110_109.out
                  have hnc35 := NB109_110.out
                  have hcz36_0 : wc.cell? ⟨gb110, 0, none⟩ = some (.int .i64 (wrap64 (1 + (Int.tmod (wrap64 ((Int.tmod a0_0 7) + 7)) 7)))) := (blk_cell BK110.out 0).trans rfl
                  have hcz36_1 : wc.cell? ⟨gb110, 1, none⟩ = some (.int .i64 (Int.tmod (wrap64 ((Int.tmod a0_1 12) + 12)) 12)) := (blk_cell BK110.out 1).trans rfl
                  have hcz36_2 : wc.cell? ⟨gb110, 2, none⟩ = some (.int .i64 (Go.bits .and .i64 a0_2 15)) := (blk_cell BK110.out 2).trans rfl
                  have hcz36_3 : wc.cell? ⟨gb110, 3, none⟩ = some (.int .i64 x111003_13) := (blk_cell BK110.out 3).trans rfl
                  have hcz36_4 : wc.cell? ⟨gb110, 4, none⟩ = some (.int .i64 0) := (blk_cell BK110.out 4).trans rfl
                  have hcz36_5 : wc.cell? ⟨gb110, 5, none⟩ = some (.int .i64 0) := (blk_cell BK110.out 5).trans rfl
                  have hcz36_6 : wc.cell? ⟨gb110, 6, none⟩ = some (.bool false) := (blk_cell BK110.out 6).trans rfl
                  have hfz36_0 := blk_frozen BK110.out 0
                  have hfz36_1 := blk_frozen BK110.out 1
                  have hfz36_2 := blk_frozen BK110.out 2
                  have hfz36_3 := blk_frozen BK110.out 3
                  have hfz36_4 := blk_frozen BK110.out 4
                  have hfz36_5 := blk_frozen BK110.out 5
                  have hfz36_6 := blk_frozen BK110.out 6
                  go_wp2
                  go_meet
                  case rel => exact ⟨_, (false), H', ⟨by have := HJ1.out; have := HJ13.out; first | omega | exact Nat.le_refl _⟩, ⟨by (with_reducible repeat (first | refine blk_drewN ?_ _ | refine blk_drew ?_ | refine blk_alloc ?_ _)); refine blk_far ?_ NB108_110.out _; (with_reducible repeat (first | refine blk_drewN ?_ _ | refine blk_drew ?_ | refine blk_alloc ?_ _)); exact BK108.out⟩, ⟨by (with_reducible repeat (first | refine blk_drewN ?_ _ | refine blk_drew ?_ | refine blk_alloc ?_ _)); refine blk_far ?_ NB109_110.out _; (with_reducible repeat (first | refine blk_drewN ?_ _ | refine blk_drew ?_ | refine blk_alloc ?_ _)); exact BK109.out⟩, ⟨by (with_reducible repeat (first | refine blk_drewN ?_ _ | refine blk_drew ?_ | refine blk_alloc ?_ _)); refine blk_put (cs := #[.int .i64 (wrap64 (1 + (Int.tmod (wrap64 ((Int.tmod a0_0 7) + 7)) 7))), .int .i64 (Int.tmod (wrap64 ((Int.tmod a0_1 12) + 12)) 12), .int .i64 (Go.bits .and .i64 a0_2 15), .int .i64 x111003_13, .int .i64 0, .int .i64 0, .bool false]) ?_ 6 _ rfl; (with_reducible repeat (first | refine blk_drewN ?_ _ | refine blk_drew ?_ | refine blk_alloc ?_ _)); exact BK110.out⟩, ⟨by repeat (first | (with_reducible first | exact HB.out | apply below_alloc | apply pw_below_drewN | apply below_drew1 | refine below_set ?_ GE108.out | refine below_set ?_ GE109.out | refine below_set ?_ GE110.out) | exact HB.out)⟩⟩
              · replace c25 := Bool.eq_false_iff.mpr c25
                subst c25
                have H1 : (rivetref03_Fit.j2 kj13 (Int.tmod (wrap64 ((Int.tmod a0_1 12) + 12)) 12) a0_0 a0_1 a0_2 a0_3 a0_4 a0_5 false (wrap64 (1 + (Int.tmod (wrap64 ((Int.tmod a0_0 7) + 7)) 7))) (Int.tmod (wrap64 ((Int.tmod a0_1 12) + 12)) 12) (Go.bits .and .i64 a0_2 15) x111003_13 0 0 false) = some (r1, r2, r3, r4, r5, r6, r7) := by rw [if_neg (show ¬ (false = true) by decide)] at H; exact H
                clear H
                have H := H1
                clear H1
                have H' := Aside0.mk H
                clear H
                have hnb37 := NB108_109.out
                have hnc37 := NB109_108.out
                have hnb38 := NB108_110.out
                have hnc38 := NB110_108.out
                have hcz39_0 : wc.cell? ⟨gb108, 0, none⟩ = some (.int .i64 a0_0) := (blk_cell BK108.out 0).trans rfl
                have hcz39_1 : wc.cell? ⟨gb108, 1, none⟩ = some (.int .i64 a0_1) := (blk_cell BK108.out 1).trans rfl
                have hcz39_2 : wc.cell? ⟨gb108, 2, none⟩ = some (.int .i64 a0_2) := (blk_cell BK108.out 2).trans rfl
                have hcz39_3 : wc.cell? ⟨gb108, 3, none⟩ = some (.int .i64 a0_3) := (blk_cell BK108.out 3).trans rfl
                have hcz39_4 : wc.cell? ⟨gb108, 4, none⟩ = some (.int .i64 a0_4) := (blk_cell BK108.out 4).trans rfl
                have hcz39_5 : wc.cell? ⟨gb108, 5, none⟩ = some (.int .i64 a0_5) := (blk_cell BK108.out 5).trans rfl
                have hcz39_6 : wc.cell? ⟨gb108, 6, none⟩ = some (.bool false) := (blk_cell BK108.out 6).trans rfl
                have hfz39_0 := blk_frozen BK108.out 0
                have hfz39_1 := blk_frozen BK108.out 1
                have hfz39_2 := blk_frozen BK108.out 2
                have hfz39_3 := blk_frozen BK108.out 3
                have hfz39_4 := blk_frozen BK108.out 4
                have hfz39_5 := blk_frozen BK108.out 5
                have hfz39_6 := blk_frozen BK108.out 6
                have hnb40 := NB110_109.out
                have hnc40 := NB109_110.out
                have hcz41_0 : wc.cell? ⟨gb110, 0, none⟩ = some (.int .i64 (wrap64 (1 + (Int.tmod (wrap64 ((Int.tmod a0_0 7) + 7)) 7)))) := (blk_cell BK110.out 0).trans rfl
                have hcz41_1 : wc.cell? ⟨gb110, 1, none⟩ = some (.int .i64 (Int.tmod (wrap64 ((Int.tmod a0_1 12) + 12)) 12)) := (blk_cell BK110.out 1).trans rfl
                have hcz41_2 : wc.cell? ⟨gb110, 2, none⟩ = some (.int .i64 (Go.bits .and .i64 a0_2 15)) := (blk_cell BK110.out 2).trans rfl
                have hcz41_3 : wc.cell? ⟨gb110, 3, none⟩ = some (.int .i64 x111003_13) := (blk_cell BK110.out 3).trans rfl
                have hcz41_4 : wc.cell? ⟨gb110, 4, none⟩ = some (.int .i64 0) := (blk_cell BK110.out 4).trans rfl
                have hcz41_5 : wc.cell? ⟨gb110, 5, none⟩ = some (.int .i64 0) := (blk_cell BK110.out 5).trans rfl
                have hcz41_6 : wc.cell? ⟨gb110, 6, none⟩ = some (.bool false) := (blk_cell BK110.out 6).trans rfl
                have hfz41_0 := blk_frozen BK110.out 0
                have hfz41_1 := blk_frozen BK110.out 1
                have hfz41_2 := blk_frozen BK110.out 2
                have hfz41_3 := blk_frozen BK110.out 3
                have hfz41_4 := blk_frozen BK110.out 4
                have hfz41_5 := blk_frozen BK110.out 5
                have hfz41_6 := blk_frozen BK110.out 6
                go_wp2
                go_meet
                case rel => exact ⟨_, (false), H', ⟨by have := HJ1.out; have := HJ13.out; first | omega | exact Nat.le_refl _⟩, ⟨by (with_reducible repeat (first | refine blk_drewN ?_ _ | refine blk_drew ?_ | refine blk_alloc ?_ _)); refine blk_far ?_ NB108_110.out _; (with_reducible repeat (first | refine blk_drewN ?_ _ | refine blk_drew ?_ | refine blk_alloc ?_ _)); exact BK108.out⟩, ⟨by (with_reducible repeat (first | refine blk_drewN ?_ _ | refine blk_drew ?_ | refine blk_alloc ?_ _)); refine blk_far ?_ NB109_110.out _; (with_reducible repeat (first | refine blk_drewN ?_ _ | refine blk_drew ?_ | refine blk_alloc ?_ _)); exact BK109.out⟩, ⟨by (with_reducible repeat (first | refine blk_drewN ?_ _ | refine blk_drew ?_ | refine blk_alloc ?_ _)); refine blk_put (cs := #[.int .i64 (wrap64 (1 + (Int.tmod (wrap64 ((Int.tmod a0_0 7) + 7)) 7))), .int .i64 (Int.tmod (wrap64 ((Int.tmod a0_1 12) + 12)) 12), .int .i64 (Go.bits .and .i64 a0_2 15), .int .i64 x111003_13, .int .i64 0, .int .i64 0, .bool false]) ?_ 6 _ rfl; (with_reducible repeat (first | refine blk_drewN ?_ _ | refine blk_drew ?_ | refine blk_alloc ?_ _)); exact BK110.out⟩, ⟨by repeat (first | (with_reducible first | exact HB.out | apply below_alloc | apply pw_below_drewN | apply below_drew1 | refine below_set ?_ GE108.out | refine below_set ?_ GE109.out | refine below_set ?_ GE110.out) | exact HB.out)⟩⟩
            case rest =>
              clear HC24
              try clear c1
              try clear c2
              try clear p2
              try clear c3
              try clear c4
              try clear c5
              try clear p6
              try clear c8
              try clear c9
              try clear c12
              try clear c12b0
              try clear c12b1
              try clear c13
              try clear c15
              try clear c16
              try clear c18
              try clear c18b0
              try clear c18b1
              try clear c19
              try clear c20
              try clear c22
              try clear c25
              try clear c26
              try clear c26b0
              try clear c27
              try clear c28
              try clear c30
              try clear c32
              try clear c33
              try clear c35
              try clear c37
              try clear c38
              try clear c40
              try clear hcz10_0
              try clear hcz10_1
              try clear hcz10_2
              try clear hcz10_3
              try clear hcz10_4
              try clear hcz10_5
              try clear hcz10_6
              try clear hcz11_0
              try clear hcz11_1
              try clear hcz11_2
              try clear hcz11_3
              try clear hcz11_4
              try clear hcz11_5
              try clear hcz11_6
              try clear hcz17_0
              try clear hcz17_1
              try clear hcz17_2
              try clear hcz17_3
              try clear hcz17_4
              try clear hcz17_5
              try clear hcz17_6
              try clear hcz21_0
              try clear hcz21_1
              try clear hcz21_2
              try clear hcz21_3
              try clear hcz21_4
              try clear hcz21_5
              try clear hcz21_6
              try clear hcz23_0
              try clear hcz23_1
              try clear hcz23_2
              try clear hcz23_3
              try clear hcz23_4
              try clear hcz23_5
              try clear hcz23_6
              try clear hcz29_0
              try clear hcz29_1
              try clear hcz29_2
              try clear hcz29_3
              try clear hcz29_4
              try clear hcz29_5
              try clear hcz29_6
              try clear hcz31_0
              try clear hcz31_1
              try clear hcz31_2
              try clear hcz31_3
              try clear hcz31_4
              try clear hcz31_5
              try clear hcz31_6
              try clear hcz34_0
              try clear hcz34_1
              try clear hcz34_2
              try clear hcz34_3
              try clear hcz34_4
              try clear hcz34_5
              try clear hcz34_6
              try clear hcz36_0
              try clear hcz36_1
              try clear hcz36_2
              try clear hcz36_3
              try clear hcz36_4
              try clear hcz36_5
              try clear hcz36_6
              try clear hcz39_0
              try clear hcz39_1
              try clear hcz39_2
              try clear hcz39_3
              try clear hcz39_4
              try clear hcz39_5
              try clear hcz39_6
              try clear hcz41_0
              try clear hcz41_1
              try clear hcz41_2
              try clear hcz41_3
              try clear hcz41_4
              try clear hcz41_5
              try clear hcz41_6
              try clear hcz6_0
              try clear hcz6_1
              try clear hcz6_2
              try clear hcz6_3
              try clear hcz6_4
              try clear hcz6_5
              try clear hcz6_6
              try clear hfz10_0
              try clear hfz10_1
              try clear hfz10_2
              try clear hfz10_3
              try clear hfz10_4
              try clear hfz10_5
              try clear hfz10_6
              try clear hfz11_0
              try clear hfz11_1
              try clear hfz11_2
              try clear hfz11_3
              try clear hfz11_4
              try clear hfz11_5
              try clear hfz11_6
              try clear hfz17_0
              try clear hfz17_1
              try clear hfz17_2
              try clear hfz17_3
              try clear hfz17_4
              try clear hfz17_5
              try clear hfz17_6
              try clear hfz21_0
              try clear hfz21_1
              try clear hfz21_2
              try clear hfz21_3
              try clear hfz21_4
              try clear hfz21_5
              try clear hfz21_6
              try clear hfz23_0
              try clear hfz23_1
              try clear hfz23_2
              try clear hfz23_3
              try clear hfz23_4
              try clear hfz23_5
              try clear hfz23_6
              try clear hfz29_0
              try clear hfz29_1
              try clear hfz29_2
              try clear hfz29_3
              try clear hfz29_4
              try clear hfz29_5
              try clear hfz29_6
              try clear hfz31_0
              try clear hfz31_1
              try clear hfz31_2
              try clear hfz31_3
              try clear hfz31_4
              try clear hfz31_5
              try clear hfz31_6
              try clear hfz34_0
              try clear hfz34_1
              try clear hfz34_2
              try clear hfz34_3
              try clear hfz34_4
              try clear hfz34_5
              try clear hfz34_6
              try clear hfz36_0
              try clear hfz36_1
              try clear hfz36_2
              try clear hfz36_3
              try clear hfz36_4
              try clear hfz36_5
              try clear hfz36_6
              try clear hfz39_0
              try clear hfz39_1
              try clear hfz39_2
              try clear hfz39_3
              try clear hfz39_4
              try clear hfz39_5
              try clear hfz39_6
              try clear hfz41_0
              try clear hfz41_1
              try clear hfz41_2
              try clear hfz41_3
              try clear hfz41_4
              try clear hfz41_5
              try clear hfz41_6
              try clear hfz6_0
              try clear hfz6_1
              try clear hfz6_2
              try clear hfz6_3
              try clear hfz6_4
              try clear hfz6_5
              try clear hfz6_6
              try clear p2
              try clear p6
              obtain ⟨kq, x111006_23, HA, HJ23, BK108, BK109, BK110, HB⟩ := hcut
              cases kq with
              | zero => exact absurd HA.out (by simp [rivetref03_Fit.j2])
              | succ kj23 =>
                have H := HA.out
                clear HA
                simp only [rivetref03_Fit.j2] at H
                by_cases c42 : (wrap64 (1 + (Int.tmod (wrap64 ((Int.tmod a0_0 7) + 7)) 7))) = 1
                · rw [if_pos c42] at H
                  have c42b0 : ((wrap64 (1 + (Int.tmod (wrap64 ((Int.tmod a0_0 7) + 7)) 7))) == 1) = true := beq_iff_eq.mpr c42
                  have c42b1 : ((wrap64 (1 + (Int.tmod (wrap64 ((Int.tmod a0_0 7) + 7)) 7))) != 1) = false := bne_eq_false_iff_eq.mpr c42
                  clear c42
                  simp only [Option.some.injEq, Prod.mk.injEq] at H
                  obtain ⟨rfl, rfl, rfl, rfl, rfl, rfl, rfl⟩ := H
                  have hnb43 := NB110_108.out
                  have hnc43 := NB108_110.out
                  have hnb44 := NB110_109.out
                  have hnc44 := NB109_110.out
                  have hcz45_0 : wc.cell? ⟨gb110, 0, none⟩ = some (.int .i64 (wrap64 (1 + (Int.tmod (wrap64 ((Int.tmod a0_0 7) + 7)) 7)))) := (blk_cell BK110.out 0).trans rfl
                  have hcz45_1 : wc.cell? ⟨gb110, 1, none⟩ = some (.int .i64 (Int.tmod (wrap64 ((Int.tmod a0_1 12) + 12)) 12)) := (blk_cell BK110.out 1).trans rfl
                  have hcz45_2 : wc.cell? ⟨gb110, 2, none⟩ = some (.int .i64 (Go.bits .and .i64 a0_2 15)) := (blk_cell BK110.out 2).trans rfl
                  have hcz45_3 : wc.cell? ⟨gb110, 3, none⟩ = some (.int .i64 x111003_13) := (blk_cell BK110.out 3).trans rfl
                  have hcz45_4 : wc.cell? ⟨gb110, 4, none⟩ = some (.int .i64 0) := (blk_cell BK110.out 4).trans rfl
                  have hcz45_5 : wc.cell? ⟨gb110, 5, none⟩ = some (.int .i64 0) := (blk_cell BK110.out 5).trans rfl
                  have hcz45_6 : wc.cell? ⟨gb110, 6, none⟩ = some (.bool x111006_23) := (blk_cell BK110.out 6).trans rfl
                  have hfz45_0 := blk_frozen BK110.out 0
                  have hfz45_1 := blk_frozen BK110.out 1
                  have hfz45_2 := blk_frozen BK110.out 2
                  have hfz45_3 := blk_frozen BK110.out 3
                  have hfz45_4 := blk_frozen BK110.out 4
                  have hfz45_5 := blk_frozen BK110.out 5
                  have hfz45_6 := blk_frozen BK110.out 6
                  have hnb46 := NB108_109.out
                  have hnc46 := NB109_108.out
                  have hcz47_0 : wc.cell? ⟨gb108, 0, none⟩ = some (.int .i64 a0_0) := (blk_cell BK108.out 0).trans rfl
                  have hcz47_1 : wc.cell? ⟨gb108, 1, none⟩ = some (.int .i64 a0_1) := (blk_cell BK108.out 1).trans rfl
                  have hcz47_2 : wc.cell? ⟨gb108, 2, none⟩ = some (.int .i64 a0_2) := (blk_cell BK108.out 2).trans rfl
                  have hcz47_3 : wc.cell? ⟨gb108, 3, none⟩ = some (.int .i64 a0_3) := (blk_cell BK108.out 3).trans rfl
                  have hcz47_4 : wc.cell? ⟨gb108, 4, none⟩ = some (.int .i64 a0_4) := (blk_cell BK108.out 4).trans rfl
                  have hcz47_5 : wc.cell? ⟨gb108, 5, none⟩ = some (.int .i64 a0_5) := (blk_cell BK108.out 5).trans rfl
                  have hcz47_6 : wc.cell? ⟨gb108, 6, none⟩ = some (.bool a0_6) := (blk_cell BK108.out 6).trans rfl
                  have hfz47_0 := blk_frozen BK108.out 0
                  have hfz47_1 := blk_frozen BK108.out 1
                  have hfz47_2 := blk_frozen BK108.out 2
                  have hfz47_3 := blk_frozen BK108.out 3
                  have hfz47_4 := blk_frozen BK108.out 4
                  have hfz47_5 := blk_frozen BK108.out 5
                  have hfz47_6 := blk_frozen BK108.out 6
                  have hcz48_0 : wc.cell? ⟨gb109, 0, none⟩ = some (.int .i64 0) := (blk_cell BK109.out 0).trans rfl
                  have hcz48_1 : wc.cell? ⟨gb109, 1, none⟩ = some (.int .i64 0) := (blk_cell BK109.out 1).trans rfl
                  have hcz48_2 : wc.cell? ⟨gb109, 2, none⟩ = some (.int .i64 0) := (blk_cell BK109.out 2).trans rfl
                  have hcz48_3 : wc.cell? ⟨gb109, 3, none⟩ = some (.int .i64 0) := (blk_cell BK109.out 3).trans rfl
                  have hcz48_4 : wc.cell? ⟨gb109, 4, none⟩ = some (.int .i64 0) := (blk_cell BK109.out 4).trans rfl
                  have hcz48_5 : wc.cell? ⟨gb109, 5, none⟩ = some (.int .i64 0) := (blk_cell BK109.out 5).trans rfl
                  have hcz48_6 : wc.cell? ⟨gb109, 6, none⟩ = some (.bool false) := (blk_cell BK109.out 6).trans rfl
                  have hfz48_0 := blk_frozen BK109.out 0
                  have hfz48_1 := blk_frozen BK109.out 1
                  have hfz48_2 := blk_frozen BK109.out 2
                  have hfz48_3 := blk_frozen BK109.out 3
                  have hfz48_4 := blk_frozen BK109.out 4
                  have hfz48_5 := blk_frozen BK109.out 5
                  have hfz48_6 := blk_frozen BK109.out 6
                  go_wp2
                  refine bodyPost_ret (results_cell_row rfl _ _ gb109 23 #[.int .i64 (wrap64 (1 + (Int.tmod (wrap64 ((Int.tmod a0_0 7) + 7)) 7))), .int .i64 (Int.tmod (wrap64 ((Int.tmod a0_1 12) + 12)) 12), .int .i64 (Go.bits .and .i64 a0_2 15), .int .i64 x111003_13, .int .i64 (Go.bits .and .i64 a0_4 15), .int .i64 0, .bool x111006_23] (0, 0) _ rfl (by (with_reducible repeat (first | refine blk_drewN ?_ _ | refine blk_drew ?_ | refine blk_alloc ?_ _)); refine blk_put (cs := #[.int .i64 (wrap64 (1 + (Int.tmod (wrap64 ((Int.tmod a0_0 7) + 7)) 7))), .int .i64 (Int.tmod (wrap64 ((Int.tmod a0_1 12) + 12)) 12), .int .i64 (Go.bits .and .i64 a0_2 15), .int .i64 x111003_13, .int .i64 (Go.bits .and .i64 a0_4 15), .int .i64 0, .bool false]) ?_ 6 _ rfl; (with_reducible repeat (first | refine blk_drewN ?_ _ | refine blk_drew ?_ | refine blk_alloc ?_ _)); refine blk_put (cs := #[.int .i64 (wrap64 (1 + (Int.tmod (wrap64 ((Int.tmod a0_0 7) + 7)) 7))), .int .i64 (Int.tmod (wrap64 ((Int.tmod a0_1 12) + 12)) 12), .int .i64 (Go.bits .and .i64 a0_2 15), .int .i64 x111003_13, .int .i64 (Go.bits .and .i64 a0_4 15), .int .i64 0, .bool false]) ?_ 5 _ rfl; (with_reducible repeat (first | refine blk_drewN ?_ _ | refine blk_drew ?_ | refine blk_alloc ?_ _)); refine blk_put (cs := #[.int .i64 (wrap64 (1 + (Int.tmod (wrap64 ((Int.tmod a0_0 7) + 7)) 7))), .int .i64 (Int.tmod (wrap64 ((Int.tmod a0_1 12) + 12)) 12), .int .i64 (Go.bits .and .i64 a0_2 15), .int .i64 x111003_13, .int .i64 0, .int .i64 0, .bool false]) ?_ 4 _ rfl; (with_reducible repeat (first | refine blk_drewN ?_ _ | refine blk_drew ?_ | refine blk_alloc ?_ _)); refine blk_put (cs := #[.int .i64 (wrap64 (1 + (Int.tmod (wrap64 ((Int.tmod a0_0 7) + 7)) 7))), .int .i64 (Int.tmod (wrap64 ((Int.tmod a0_1 12) + 12)) 12), .int .i64 (Go.bits .and .i64 a0_2 15), .int .i64 0, .int .i64 0, .int .i64 0, .bool false]) ?_ 3 _ rfl; (with_reducible repeat (first | refine blk_drewN ?_ _ | refine blk_drew ?_ | refine blk_alloc ?_ _)); refine blk_put (cs := #[.int .i64 (wrap64 (1 + (Int.tmod (wrap64 ((Int.tmod a0_0 7) + 7)) 7))), .int .i64 (Int.tmod (wrap64 ((Int.tmod a0_1 12) + 12)) 12), .int .i64 0, .int .i64 0, .int .i64 0, .int .i64 0, .bool false]) ?_ 2 _ rfl; (with_reducible repeat (first | refine blk_drewN ?_ _ | refine blk_drew ?_ | refine blk_alloc ?_ _)); refine blk_put (cs := #[.int .i64 (wrap64 (1 + (Int.tmod (wrap64 ((Int.tmod a0_0 7) + 7)) 7))), .int .i64 0, .int .i64 0, .int .i64 0, .int .i64 0, .int .i64 0, .bool false]) ?_ 1 _ rfl; (with_reducible repeat (first | refine blk_drewN ?_ _ | refine blk_drew ?_ | refine blk_alloc ?_ _)); refine blk_put (cs := #[.int .i64 0, .int .i64 0, .int .i64 0, .int .i64 0, .int .i64 0, .int .i64 0, .bool false]) ?_ 0 _ rfl; (with_reducible repeat (first | refine blk_drewN ?_ _ | refine blk_drew ?_ | refine blk_alloc ?_ _)); refine blk_far ?_ NB109_110.out _; (with_reducible repeat (first | refine blk_drewN ?_ _ | refine blk_drew ?_ | refine blk_alloc ?_ _)); exact BK109.out) Try.underlying23 rfl (by kernel_rfl)) rfl ?_
                  exact ⟨by first | rfl | (simp [errW_none, errW_some] <;> rfl) | (simp [*, errW_none, errW_some] <;> rfl), by repeat (first | (with_reducible first | exact HB.out | apply below_alloc | apply pw_below_drewN | apply below_drew1 | refine below_set ?_ GE108.out | refine below_set ?_ GE109.out | refine below_set ?_ GE110.out) | exact HB.out)⟩
                · rw [if_neg c42] at H
                  have c42b0 : ((wrap64 (1 + (Int.tmod (wrap64 ((Int.tmod a0_0 7) + 7)) 7))) == 1) = false := beq_eq_false_iff_ne.mpr c42
                  have c42b1 : ((wrap64 (1 + (Int.tmod (wrap64 ((Int.tmod a0_0 7) + 7)) 7))) != 1) = true := bne_iff_ne.mpr c42
                  by_cases c49 : (Int.tmod (wrap64 ((Int.tmod a0_1 12) + 12)) 12) = 0
                  · rw [if_pos c49] at H
                    have c49b0 : ((Int.tmod (wrap64 ((Int.tmod a0_1 12) + 12)) 12) == 0) = true := beq_iff_eq.mpr c49
                    have c49b1 : ((Int.tmod (wrap64 ((Int.tmod a0_1 12) + 12)) 12) != 0) = false := bne_eq_false_iff_eq.mpr c49
                    clear c49
                    by_cases c50 : a0_6 = true
                    · subst c50
                      have H1 : (some ((wrap64 (1 + (Int.tmod (wrap64 ((Int.tmod a0_0 7) + 7)) 7))), (Int.tmod (wrap64 ((Int.tmod a0_1 12) + 12)) 12), (Go.bits .and .i64 a0_2 15), x111003_13, 0, Go.bits .and .i64 a0_5 65535, true)) = some (r1, r2, r3, r4, r5, r6, r7) := by rw [if_pos rfl] at H; exact H
                      clear H
                      have H := H1
                      clear H1
                      simp only [Option.some.injEq, Prod.mk.injEq] at H
                      obtain ⟨rfl, rfl, rfl, rfl, rfl, rfl, rfl⟩ := H
                      have hnb51 := NB110_108.out
                      have hnc51 := NB108_110.out
                      have hnb52 := NB110_109.out
                      have hnc52 := NB109_110.out
                      have hcz53_0 : wc.cell? ⟨gb110, 0, none⟩ = some (.int .i64 (wrap64 (1 + (Int.tmod (wrap64 ((Int.tmod a0_0 7) + 7)) 7)))) := (blk_cell BK110.out 0).trans rfl
                      have hcz53_1 : wc.cell? ⟨gb110, 1, none⟩ = some (.int .i64 (Int.tmod (wrap64 ((Int.tmod a0_1 12) + 12)) 12)) := (blk_cell BK110.out 1).trans rfl
                      have hcz53_2 : wc.cell? ⟨gb110, 2, none⟩ = some (.int .i64 (Go.bits .and .i64 a0_2 15)) := (blk_cell BK110.out 2).trans rfl
                      have hcz53_3 : wc.cell? ⟨gb110, 3, none⟩ = some (.int .i64 x111003_13) := (blk_cell BK110.out 3).trans rfl
                      have hcz53_4 : wc.cell? ⟨gb110, 4, none⟩ = some (.int .i64 0) := (blk_cell BK110.out 4).trans rfl
                      have hcz53_5 : wc.cell? ⟨gb110, 5, none⟩ = some (.int .i64 0) := (blk_cell BK110.out 5).trans rfl
                      have hcz53_6 : wc.cell? ⟨gb110, 6, none⟩ = some (.bool x111006_23) := (blk_cell BK110.out 6).trans rfl
                      have hfz53_0 := blk_frozen BK110.out 0
                      have hfz53_1 := blk_frozen BK110.out 1
                      have hfz53_2 := blk_frozen BK110.out 2
                      have hfz53_3 := blk_frozen BK110.out 3
                      have hfz53_4 := blk_frozen BK110.out 4
                      have hfz53_5 := blk_frozen BK110.out 5
                      have hfz53_6 := blk_frozen BK110.out 6
                      have hnb54 := NB108_109.out
                      have hnc54 := NB109_108.out
                      have hcz55_0 : wc.cell? ⟨gb108, 0, none⟩ = some (.int .i64 a0_0) := (blk_cell BK108.out 0).trans rfl
                      have hcz55_1 : wc.cell? ⟨gb108, 1, none⟩ = some (.int .i64 a0_1) := (blk_cell BK108.out 1).trans rfl
                      have hcz55_2 : wc.cell? ⟨gb108, 2, none⟩ = some (.int .i64 a0_2) := (blk_cell BK108.out 2).trans rfl
                      have hcz55_3 : wc.cell? ⟨gb108, 3, none⟩ = some (.int .i64 a0_3) := (blk_cell BK108.out 3).trans rfl
                      have hcz55_4 : wc.cell? ⟨gb108, 4, none⟩ = some (.int .i64 a0_4) := (blk_cell BK108.out 4).trans rfl
                      have hcz55_5 : wc.cell? ⟨gb108, 5, none⟩ = some (.int .i64 a0_5) := (blk_cell BK108.out 5).trans rfl
                      have hcz55_6 : wc.cell? ⟨gb108, 6, none⟩ = some (.bool true) := (blk_cell BK108.out 6).trans rfl
                      have hfz55_0 := blk_frozen BK108.out 0
                      have hfz55_1 := blk_frozen BK108.out 1
                      have hfz55_2 := blk_frozen BK108.out 2
                      have hfz55_3 := blk_frozen BK108.out 3
                      have hfz55_4 := blk_frozen BK108.out 4
                      have hfz55_5 := blk_frozen BK108.out 5
                      have hfz55_6 := blk_frozen BK108.out 6
                      have hcz56_0 : wc.cell? ⟨gb109, 0, none⟩ = some (.int .i64 0) := (blk_cell BK109.out 0).trans rfl
                      have hcz56_1 : wc.cell? ⟨gb109, 1, none⟩ = some (.int .i64 0) := (blk_cell BK109.out 1).trans rfl
                      have hcz56_2 : wc.cell? ⟨gb109, 2, none⟩ = some (.int .i64 0) := (blk_cell BK109.out 2).trans rfl
                      have hcz56_3 : wc.cell? ⟨gb109, 3, none⟩ = some (.int .i64 0) := (blk_cell BK109.out 3).trans rfl
                      have hcz56_4 : wc.cell? ⟨gb109, 4, none⟩ = some (.int .i64 0) := (blk_cell BK109.out 4).trans rfl
                      have hcz56_5 : wc.cell? ⟨gb109, 5, none⟩ = some (.int .i64 0) := (blk_cell BK109.out 5).trans rfl
                      have hcz56_6 : wc.cell? ⟨gb109, 6, none⟩ = some (.bool false) := (blk_cell BK109.out 6).trans rfl
                      have hfz56_0 := blk_frozen BK109.out 0
                      have hfz56_1 := blk_frozen BK109.out 1
                      have hfz56_2 := blk_frozen BK109.out 2
                      have hfz56_3 := blk_frozen BK109.out 3
                      have hfz56_4 := blk_frozen BK109.out 4
                      have hfz56_5 := blk_frozen BK109.out 5
                      have hfz56_6 := blk_frozen BK109.out 6
                      go_wp2
                      refine bodyPost_ret (results_cell_row rfl _ _ gb109 23 #[.int .i64 (wrap64 (1 + (Int.tmod (wrap64 ((Int.tmod a0_0 7) + 7)) 7))), .int .i64 (Int.tmod (wrap64 ((Int.tmod a0_1 12) + 12)) 12), .int .i64 (Go.bits .and .i64 a0_2 15), .int .i64 x111003_13, .int .i64 0, .int .i64 (Go.bits .and .i64 a0_5 65535), .bool true] (0, 0) _ rfl (by (with_reducible repeat (first | refine blk_drewN ?_ _ | refine blk_drew ?_ | refine blk_alloc ?_ _)); refine blk_put (cs := #[.int .i64 (wrap64 (1 + (Int.tmod (wrap64 ((Int.tmod a0_0 7) + 7)) 7))), .int .i64 (Int.tmod (wrap64 ((Int.tmod a0_1 12) + 12)) 12), .int .i64 (Go.bits .and .i64 a0_2 15), .int .i64 x111003_13, .int .i64 0, .int .i64 (Go.bits .and .i64 a0_5 65535), .bool false]) ?_ 6 _ rfl; (with_reducible repeat (first | refine blk_drewN ?_ _ | refine blk_drew ?_ | refine blk_alloc ?_ _)); refine blk_put (cs := #[.int .i64 (wrap64 (1 + (Int.tmod (wrap64 ((Int.tmod a0_0 7) + 7)) 7))), .int .i64 (Int.tmod (wrap64 ((Int.tmod a0_1 12) + 12)) 12), .int .i64 (Go.bits .and .i64 a0_2 15), .int .i64 x111003_13, .int .i64 0, .int .i64 0, .bool false]) ?_ 5 _ rfl; (with_reducible repeat (first | refine blk_drewN ?_ _ | refine blk_drew ?_ | refine blk_alloc ?_ _)); refine blk_put (cs := #[.int .i64 (wrap64 (1 + (Int.tmod (wrap64 ((Int.tmod a0_0 7) + 7)) 7))), .int .i64 (Int.tmod (wrap64 ((Int.tmod a0_1 12) + 12)) 12), .int .i64 (Go.bits .and .i64 a0_2 15), .int .i64 x111003_13, .int .i64 0, .int .i64 0, .bool false]) ?_ 4 _ rfl; (with_reducible repeat (first | refine blk_drewN ?_ _ | refine blk_drew ?_ | refine blk_alloc ?_ _)); refine blk_put (cs := #[.int .i64 (wrap64 (1 + (Int.tmod (wrap64 ((Int.tmod a0_0 7) + 7)) 7))), .int .i64 (Int.tmod (wrap64 ((Int.tmod a0_1 12) + 12)) 12), .int .i64 (Go.bits .and .i64 a0_2 15), .int .i64 0, .int .i64 0, .int .i64 0, .bool false]) ?_ 3 _ rfl; (with_reducible repeat (first | refine blk_drewN ?_ _ | refine blk_drew ?_ | refine blk_alloc ?_ _)); refine blk_put (cs := #[.int .i64 (wrap64 (1 + (Int.tmod (wrap64 ((Int.tmod a0_0 7) + 7)) 7))), .int .i64 (Int.tmod (wrap64 ((Int.tmod a0_1 12) + 12)) 12), .int .i64 0, .int .i64 0, .int .i64 0, .int .i64 0, .bool false]) ?_ 2 _ rfl; (with_reducible repeat (first | refine blk_drewN ?_ _ | refine blk_drew ?_ | refine blk_alloc ?_ _)); refine blk_put (cs := #[.int .i64 (wrap64 (1 + (Int.tmod (wrap64 ((Int.tmod a0_0 7) + 7)) 7))), .int .i64 0, .int .i64 0, .int .i64 0, .int .i64 0, .int .i64 0, .bool false]) ?_ 1 _ rfl; (with_reducible repeat (first | refine blk_drewN ?_ _ | refine blk_drew ?_ | refine blk_alloc ?_ _)); refine blk_put (cs := #[.int .i64 0, .int .i64 0, .int .i64 0, .int .i64 0, .int .i64 0, .int .i64 0, .bool false]) ?_ 0 _ rfl; (with_reducible repeat (first | refine blk_drewN ?_ _ | refine blk_drew ?_ | refine blk_alloc ?_ _)); refine blk_far ?_ NB109_110.out _; (with_reducible repeat (first | refine blk_drewN ?_ _ | refine blk_drew ?_ | refine blk_alloc ?_ _)); refine blk_far ?_ NB109_110.out _; (with_reducible repeat (first | refine blk_drewN ?_ _ | refine blk_drew ?_ | refine blk_alloc ?_ _)); refine blk_far ?_ NB109_110.out _; (with_reducible repeat (first | refine blk_drewN ?_ _ | refine blk_drew ?_ | refine blk_alloc ?_ _)); exact BK109.out) Try.underlying23 rfl (by kernel_rfl)) rfl ?_
                      exact ⟨by first | rfl | (simp [errW_none, errW_some] <;> rfl) | (simp [*, errW_none, errW_some] <;> rfl), by repeat (first | (with_reducible first | exact HB.out | apply below_alloc | apply pw_below_drewN | apply below_drew1 | refine below_set ?_ GE108.out | refine below_set ?_ GE109.out | refine below_set ?_ GE110.out) | exact HB.out)⟩
                    · replace c50 := Bool.eq_false_iff.mpr c50
                      subst c50
                      have H1 : (some ((wrap64 (1 + (Int.tmod (wrap64 ((Int.tmod a0_0 7) + 7)) 7))), (Int.tmod (wrap64 ((Int.tmod a0_1 12) + 12)) 12), (Go.bits .and .i64 a0_2 15), x111003_13, 0, wrap64 ((Go.bits .and .i64 a0_5 131071) - 65536), x111006_23)) = some (r1, r2, r3, r4, r5, r6, r7) := by rw [if_neg (show ¬ (false = true) by decide)] at H; exact H
                      clear H
                      have H := H1
                      clear H1
                      simp only [Option.some.injEq, Prod.mk.injEq] at H
                      obtain ⟨rfl, rfl, rfl, rfl, rfl, rfl, rfl⟩ := H
                      have hnb57 := NB110_108.out
                      have hnc57 := NB108_110.out
                      have hnb58 := NB110_109.out
                      have hnc58 := NB109_110.out
                      have hcz59_0 : wc.cell? ⟨gb110, 0, none⟩ = some (.int .i64 (wrap64 (1 + (Int.tmod (wrap64 ((Int.tmod a0_0 7) + 7)) 7)))) := (blk_cell BK110.out 0).trans rfl
                      have hcz59_1 : wc.cell? ⟨gb110, 1, none⟩ = some (.int .i64 (Int.tmod (wrap64 ((Int.tmod a0_1 12) + 12)) 12)) := (blk_cell BK110.out 1).trans rfl
                      have hcz59_2 : wc.cell? ⟨gb110, 2, none⟩ = some (.int .i64 (Go.bits .and .i64 a0_2 15)) := (blk_cell BK110.out 2).trans rfl
                      have hcz59_3 : wc.cell? ⟨gb110, 3, none⟩ = some (.int .i64 x111003_13) := (blk_cell BK110.out 3).trans rfl
                      have hcz59_4 : wc.cell? ⟨gb110, 4, none⟩ = some (.int .i64 0) := (blk_cell BK110.out 4).trans rfl
                      have hcz59_5 : wc.cell? ⟨gb110, 5, none⟩ = some (.int .i64 0) := (blk_cell BK110.out 5).trans rfl
                      have hcz59_6 : wc.cell? ⟨gb110, 6, none⟩ = some (.bool x111006_23) := (blk_cell BK110.out 6).trans rfl
                      have hfz59_0 := blk_frozen BK110.out 0
                      have hfz59_1 := blk_frozen BK110.out 1
                      have hfz59_2 := blk_frozen BK110.out 2
                      have hfz59_3 := blk_frozen BK110.out 3
                      have hfz59_4 := blk_frozen BK110.out 4
                      have hfz59_5 := blk_frozen BK110.out 5
                      have hfz59_6 := blk_frozen BK110.out 6
                      have hnb60 := NB108_109.out
                      have hnc60 := NB109_108.out
                      have hcz61_0 : wc.cell? ⟨gb108, 0, none⟩ = some (.int .i64 a0_0) := (blk_cell BK108.out 0).trans rfl
                      have hcz61_1 : wc.cell? ⟨gb108, 1, none⟩ = some (.int .i64 a0_1) := (blk_cell BK108.out 1).trans rfl
                      have hcz61_2 : wc.cell? ⟨gb108, 2, none⟩ = some (.int .i64 a0_2) := (blk_cell BK108.out 2).trans rfl
                      have hcz61_3 : wc.cell? ⟨gb108, 3, none⟩ = some (.int .i64 a0_3) := (blk_cell BK108.out 3).trans rfl
                      have hcz61_4 : wc.cell? ⟨gb108, 4, none⟩ = some (.int .i64 a0_4) := (blk_cell BK108.out 4).trans rfl
                      have hcz61_5 : wc.cell? ⟨gb108, 5, none⟩ = some (.int .i64 a0_5) := (blk_cell BK108.out 5).trans rfl
                      have hcz61_6 : wc.cell? ⟨gb108, 6, none⟩ = some (.bool false) := (blk_cell BK108.out 6).trans rfl
                      have hfz61_0 := blk_frozen BK108.out 0
                      have hfz61_1 := blk_frozen BK108.out 1
                      have hfz61_2 := blk_frozen BK108.out 2
                      have hfz61_3 := blk_frozen BK108.out 3
                      have hfz61_4 := blk_frozen BK108.out 4
                      have hfz61_5 := blk_frozen BK108.out 5
                      have hfz61_6 := blk_frozen BK108.out 6
                      have hcz62_0 : wc.cell? ⟨gb109, 0, none⟩ = some (.int .i64 0) := (blk_cell BK109.out 0).trans rfl
                      have hcz62_1 : wc.cell? ⟨gb109, 1, none⟩ = some (.int .i64 0) := (blk_cell BK109.out 1).trans rfl
                      have hcz62_2 : wc.cell? ⟨gb109, 2, none⟩ = some (.int .i64 0) := (blk_cell BK109.out 2).trans rfl
                      have hcz62_3 : wc.cell? ⟨gb109, 3, none⟩ = some (.int .i64 0) := (blk_cell BK109.out 3).trans rfl
                      have hcz62_4 : wc.cell? ⟨gb109, 4, none⟩ = some (.int .i64 0) := (blk_cell BK109.out 4).trans rfl
                      have hcz62_5 : wc.cell? ⟨gb109, 5, none⟩ = some (.int .i64 0) := (blk_cell BK109.out 5).trans rfl
                      have hcz62_6 : wc.cell? ⟨gb109, 6, none⟩ = some (.bool false) := (blk_cell BK109.out 6).trans rfl
                      have hfz62_0 := blk_frozen BK109.out 0
                      have hfz62_1 := blk_frozen BK109.out 1
                      have hfz62_2 := blk_frozen BK109.out 2
                      have hfz62_3 := blk_frozen BK109.out 3
                      have hfz62_4 := blk_frozen BK109.out 4
                      have hfz62_5 := blk_frozen BK109.out 5
                      have hfz62_6 := blk_frozen BK109.out 6
                      go_wp2
                      refine bodyPost_ret (results_cell_row rfl _ _ gb109 23 #[.int .i64 (wrap64 (1 + (Int.tmod (wrap64 ((Int.tmod a0_0 7) + 7)) 7))), .int .i64 (Int.tmod (wrap64 ((Int.tmod a0_1 12) + 12)) 12), .int .i64 (Go.bits .and .i64 a0_2 15), .int .i64 x111003_13, .int .i64 0, .int .i64 (wrap64 ((Go.bits .and .i64 a0_5 131071) - 65536)), .bool x111006_23] (0, 0) _ rfl (by (with_reducible repeat (first | refine blk_drewN ?_ _ | refine blk_drew ?_ | refine blk_alloc ?_ _)); refine blk_put (cs := #[.int .i64 (wrap64 (1 + (Int.tmod (wrap64 ((Int.tmod a0_0 7) + 7)) 7))), .int .i64 (Int.tmod (wrap64 ((Int.tmod a0_1 12) + 12)) 12), .int .i64 (Go.bits .and .i64 a0_2 15), .int .i64 x111003_13, .int .i64 0, .int .i64 (wrap64 ((Go.bits .and .i64 a0_5 131071) - 65536)), .bool false]) ?_ 6 _ rfl; (with_reducible repeat (first | refine blk_drewN ?_ _ | refine blk_drew ?_ | refine blk_alloc ?_ _)); refine blk_put (cs := #[.int .i64 (wrap64 (1 + (Int.tmod (wrap64 ((Int.tmod a0_0 7) + 7)) 7))), .int .i64 (Int.tmod (wrap64 ((Int.tmod a0_1 12) + 12)) 12), .int .i64 (Go.bits .and .i64 a0_2 15), .int .i64 x111003_13, .int .i64 0, .int .i64 0, .bool false]) ?_ 5 _ rfl; (with_reducible repeat (first | refine blk_drewN ?_ _ | refine blk_drew ?_ | refine blk_alloc ?_ _)); refine blk_put (cs := #[.int .i64 (wrap64 (1 + (Int.tmod (wrap64 ((Int.tmod a0_0 7) + 7)) 7))), .int .i64 (Int.tmod (wrap64 ((Int.tmod a0_1 12) + 12)) 12), .int .i64 (Go.bits .and .i64 a0_2 15), .int .i64 x111003_13, .int .i64 0, .int .i64 0, .bool false]) ?_ 4 _ rfl; (with_reducible repeat (first | refine blk_drewN ?_ _ | refine blk_drew ?_ | refine blk_alloc ?_ _)); refine blk_put (cs := #[.int .i64 (wrap64 (1 + (Int.tmod (wrap64 ((Int.tmod a0_0 7) + 7)) 7))), .int .i64 (Int.tmod (wrap64 ((Int.tmod a0_1 12) + 12)) 12), .int .i64 (Go.bits .and .i64 a0_2 15), .int .i64 0, .int .i64 0, .int .i64 0, .bool false]) ?_ 3 _ rfl; (with_reducible repeat (first | refine blk_drewN ?_ _ | refine blk_drew ?_ | refine blk_alloc ?_ _)); refine blk_put (cs := #[.int .i64 (wrap64 (1 + (Int.tmod (wrap64 ((Int.tmod a0_0 7) + 7)) 7))), .int .i64 (Int.tmod (wrap64 ((Int.tmod a0_1 12) + 12)) 12), .int .i64 0, .int .i64 0, .int .i64 0, .int .i64 0, .bool false]) ?_ 2 _ rfl; (with_reducible repeat (first | refine blk_drewN ?_ _ | refine blk_drew ?_ | refine blk_alloc ?_ _)); refine blk_put (cs := #[.int .i64 (wrap64 (1 + (Int.tmod (wrap64 ((Int.tmod a0_0 7) + 7)) 7))), .int .i64 0, .int .i64 0, .int .i64 0, .int .i64 0, .int .i64 0, .bool false]) ?_ 1 _ rfl; (with_reducible repeat (first | refine blk_drewN ?_ _ | refine blk_drew ?_ | refine blk_alloc ?_ _)); refine blk_put (cs := #[.int .i64 0, .int .i64 0, .int .i64 0, .int .i64 0, .int .i64 0, .int .i64 0, .bool false]) ?_ 0 _ rfl; (with_reducible repeat (first | refine blk_drewN ?_ _ | refine blk_drew ?_ | refine blk_alloc ?_ _)); refine blk_far ?_ NB109_110.out _; (with_reducible repeat (first | refine blk_drewN ?_ _ | refine blk_drew ?_ | refine blk_alloc ?_ _)); exact BK109.out) Try.underlying23 rfl (by kernel_rfl)) rfl ?_
                      exact ⟨by first | rfl | (simp [errW_none, errW_some] <;> rfl) | (simp [*, errW_none, errW_some] <;> rfl), by repeat (first | (with_reducible first | exact HB.out | apply below_alloc | apply pw_below_drewN | apply below_drew1 | refine below_set ?_ GE108.out | refine below_set ?_ GE109.out | refine below_set ?_ GE110.out) | exact HB.out)⟩
                  · rw [if_neg c49] at H
                    have c49b0 : ((Int.tmod (wrap64 ((Int.tmod a0_1 12) + 12)) 12) == 0) = false := beq_eq_false_iff_ne.mpr c49
                    have c49b1 : ((Int.tmod (wrap64 ((Int.tmod a0_1 12) + 12)) 12) != 0) = true := bne_iff_ne.mpr c49
                    simp only [Option.some.injEq, Prod.mk.injEq] at H
                    obtain ⟨rfl, rfl, rfl, rfl, rfl, rfl, rfl⟩ := H
                    have hnb63 := NB110_108.out
                    have hnc63 := NB108_110.out
                    have hnb64 := NB110_109.out
                    have hnc64 := NB109_110.out
                    have hcz65_0 : wc.cell? ⟨gb110, 0, none⟩ = some (.int .i64 (wrap64 (1 + (Int.tmod (wrap64 ((Int.tmod a0_0 7) + 7)) 7)))) := (blk_cell BK110.out 0).trans rfl
                    have hcz65_1 : wc.cell? ⟨gb110, 1, none⟩ = some (.int .i64 (Int.tmod (wrap64 ((Int.tmod a0_1 12) + 12)) 12)) := (blk_cell BK110.out 1).trans rfl
                    have hcz65_2 : wc.cell? ⟨gb110, 2, none⟩ = some (.int .i64 (Go.bits .and .i64 a0_2 15)) := (blk_cell BK110.out 2).trans rfl
                    have hcz65_3 : wc.cell? ⟨gb110, 3, none⟩ = some (.int .i64 x111003_13) := (blk_cell BK110.out 3).trans rfl
                    have hcz65_4 : wc.cell? ⟨gb110, 4, none⟩ = some (.int .i64 0) := (blk_cell BK110.out 4).trans rfl
                    have hcz65_5 : wc.cell? ⟨gb110, 5, none⟩ = some (.int .i64 0) := (blk_cell BK110.out 5).trans rfl
                    have hcz65_6 : wc.cell? ⟨gb110, 6, none⟩ = some (.bool x111006_23) := (blk_cell BK110.out 6).trans rfl
                    have hfz65_0 := blk_frozen BK110.out 0
                    have hfz65_1 := blk_frozen BK110.out 1
                    have hfz65_2 := blk_frozen BK110.out 2
                    have hfz65_3 := blk_frozen BK110.out 3
                    have hfz65_4 := blk_frozen BK110.out 4
                    have hfz65_5 := blk_frozen BK110.out 5
                    have hfz65_6 := blk_frozen BK110.out 6
                    have hnb66 := NB108_109.out
                    have hnc66 := NB109_108.out
                    have hcz67_0 : wc.cell? ⟨gb108, 0, none⟩ = some (.int .i64 a0_0) := (blk_cell BK108.out 0).trans rfl
                    have hcz67_1 : wc.cell? ⟨gb108, 1, none⟩ = some (.int .i64 a0_1) := (blk_cell BK108.out 1).trans rfl
                    have hcz67_2 : wc.cell? ⟨gb108, 2, none⟩ = some (.int .i64 a0_2) := (blk_cell BK108.out 2).trans rfl
                    have hcz67_3 : wc.cell? ⟨gb108, 3, none⟩ = some (.int .i64 a0_3) := (blk_cell BK108.out 3).trans rfl
                    have hcz67_4 : wc.cell? ⟨gb108, 4, none⟩ = some (.int .i64 a0_4) := (blk_cell BK108.out 4).trans rfl
                    have hcz67_5 : wc.cell? ⟨gb108, 5, none⟩ = some (.int .i64 a0_5) := (blk_cell BK108.out 5).trans rfl
                    have hcz67_6 : wc.cell? ⟨gb108, 6, none⟩ = some (.bool a0_6) := (blk_cell BK108.out 6).trans rfl
                    have hfz67_0 := blk_frozen BK108.out 0
                    have hfz67_1 := blk_frozen BK108.out 1
                    have hfz67_2 := blk_frozen BK108.out 2
                    have hfz67_3 := blk_frozen BK108.out 3
                    have hfz67_4 := blk_frozen BK108.out 4
                    have hfz67_5 := blk_frozen BK108.out 5
                    have hfz67_6 := blk_frozen BK108.out 6
                    have hcz68_0 : wc.cell? ⟨gb109, 0, none⟩ = some (.int .i64 0) := (blk_cell BK109.out 0).trans rfl
                    have hcz68_1 : wc.cell? ⟨gb109, 1, none⟩ = some (.int .i64 0) := (blk_cell BK109.out 1).trans rfl
                    have hcz68_2 : wc.cell? ⟨gb109, 2, none⟩ = some (.int .i64 0) := (blk_cell BK109.out 2).trans rfl
                    have hcz68_3 : wc.cell? ⟨gb109, 3, none⟩ = some (.int .i64 0) := (blk_cell BK109.out 3).trans rfl
                    have hcz68_4 : wc.cell? ⟨gb109, 4, none⟩ = some (.int .i64 0) := (blk_cell BK109.out 4).trans rfl
                    have hcz68_5 : wc.cell? ⟨gb109, 5, none⟩ = some (.int .i64 0) := (blk_cell BK109.out 5).trans rfl
                    have hcz68_6 : wc.cell? ⟨gb109, 6, none⟩ = some (.bool false) := (blk_cell BK109.out 6).trans rfl
                    have hfz68_0 := blk_frozen BK109.out 0
                    have hfz68_1 := blk_frozen BK109.out 1
                    have hfz68_2 := blk_frozen BK109.out 2
                    have hfz68_3 := blk_frozen BK109.out 3
                    have hfz68_4 := blk_frozen BK109.out 4
                    have hfz68_5 := blk_frozen BK109.out 5
                    have hfz68_6 := blk_frozen BK109.out 6
                    go_wp2
                    refine bodyPost_ret (results_cell_row rfl _ _ gb109 23 #[.int .i64 (wrap64 (1 + (Int.tmod (wrap64 ((Int.tmod a0_0 7) + 7)) 7))), .int .i64 (Int.tmod (wrap64 ((Int.tmod a0_1 12) + 12)) 12), .int .i64 (Go.bits .and .i64 a0_2 15), .int .i64 x111003_13, .int .i64 0, .int .i64 (wrap64 ((Go.bits .and .i64 a0_5 131071) - 65536)), .bool x111006_23] (0, 0) _ rfl (by (with_reducible repeat (first | refine blk_drewN ?_ _ | refine blk_drew ?_ | refine blk_alloc ?_ _)); refine blk_put (cs := #[.int .i64 (wrap64 (1 + (Int.tmod (wrap64 ((Int.tmod a0_0 7) + 7)) 7))), .int .i64 (Int.tmod (wrap64 ((Int.tmod a0_1 12) + 12)) 12), .int .i64 (Go.bits .and .i64 a0_2 15), .int .i64 x111003_13, .int .i64 0, .int .i64 (wrap64 ((Go.bits .and .i64 a0_5 131071) - 65536)), .bool false]) ?_ 6 _ rfl; (with_reducible repeat (first | refine blk_drewN ?_ _ | refine blk_drew ?_ | refine blk_alloc ?_ _)); refine blk_put (cs := #[.int .i64 (wrap64 (1 + (Int.tmod (wrap64 ((Int.tmod a0_0 7) + 7)) 7))), .int .i64 (Int.tmod (wrap64 ((Int.tmod a0_1 12) + 12)) 12), .int .i64 (Go.bits .and .i64 a0_2 15), .int .i64 x111003_13, .int .i64 0, .int .i64 0, .bool false]) ?_ 5 _ rfl; (with_reducible repeat (first | refine blk_drewN ?_ _ | refine blk_drew ?_ | refine blk_alloc ?_ _)); refine blk_put (cs := #[.int .i64 (wrap64 (1 + (Int.tmod (wrap64 ((Int.tmod a0_0 7) + 7)) 7))), .int .i64 (Int.tmod (wrap64 ((Int.tmod a0_1 12) + 12)) 12), .int .i64 (Go.bits .and .i64 a0_2 15), .int .i64 x111003_13, .int .i64 0, .int .i64 0, .bool false]) ?_ 4 _ rfl; (with_reducible repeat (first | refine blk_drewN ?_ _ | refine blk_drew ?_ | refine blk_alloc ?_ _)); refine blk_put (cs := #[.int .i64 (wrap64 (1 + (Int.tmod (wrap64 ((Int.tmod a0_0 7) + 7)) 7))), .int .i64 (Int.tmod (wrap64 ((Int.tmod a0_1 12) + 12)) 12), .int .i64 (Go.bits .and .i64 a0_2 15), .int .i64 0, .int .i64 0, .int .i64 0, .bool false]) ?_ 3 _ rfl; (with_reducible repeat (first | refine blk_drewN ?_ _ | refine blk_drew ?_ | refine blk_alloc ?_ _)); refine blk_put (cs := #[.int .i64 (wrap64 (1 + (Int.tmod (wrap64 ((Int.tmod a0_0 7) + 7)) 7))), .int .i64 (Int.tmod (wrap64 ((Int.tmod a0_1 12) + 12)) 12), .int .i64 0, .int .i64 0, .int .i64 0, .int .i64 0, .bool false]) ?_ 2 _ rfl; (with_reducible repeat (first | refine blk_drewN ?_ _ | refine blk_drew ?_ | refine blk_alloc ?_ _)); refine blk_put (cs := #[.int .i64 (wrap64 (1 + (Int.tmod (wrap64 ((Int.tmod a0_0 7) + 7)) 7))), .int .i64 0, .int .i64 0, .int .i64 0, .int .i64 0, .int .i64 0, .bool false]) ?_ 1 _ rfl; (with_reducible repeat (first | refine blk_drewN ?_ _ | refine blk_drew ?_ | refine blk_alloc ?_ _)); refine blk_put (cs := #[.int .i64 0, .int .i64 0, .int .i64 0, .int .i64 0, .int .i64 0, .int .i64 0, .bool false]) ?_ 0 _ rfl; (with_reducible repeat (first | refine blk_drewN ?_ _ | refine blk_drew ?_ | refine blk_alloc ?_ _)); refine blk_far ?_ NB109_110.out _; (with_reducible repeat (first | refine blk_drewN ?_ _ | refine blk_drew ?_ | refine blk_alloc ?_ _)); exact BK109.out) Try.underlying23 rfl (by kernel_rfl)) rfl ?_
                    exact ⟨by first | rfl | (simp [errW_none, errW_some] <;> rfl) | (simp [*, errW_none, errW_some] <;> rfl), by repeat (first | (with_reducible first | exact HB.out | apply below_alloc | apply pw_below_drewN | apply below_drew1 | refine below_set ?_ GE108.out | refine below_set ?_ GE109.out | refine below_set ?_ GE110.out) | exact HB.out)⟩
      · replace c13 := Bool.eq_false_iff.mpr c13
        subst c13
        have H1 : (if (wrap64 (1 + (Int.tmod (wrap64 ((Int.tmod a0_0 7) + 7)) 7))) = 5 then (some ((wrap64 (1 + (Int.tmod (wrap64 ((Int.tmod a0_0 7) + 7)) 7))), Go.bits .and .i64 a0_1 3, (Go.bits .and .i64 a0_2 15), Go.bits .and .i64 a0_3 15, 0, wrap64 ((Go.bits .and .i64 a0_5 1048575) - 524288), false)) else (if (wrap64 (1 + (Int.tmod (wrap64 ((Int.tmod a0_0 7) + 7)) 7))) = 6 then (some ((wrap64 (1 + (Int.tmod (wrap64 ((Int.tmod a0_0 7) + 7)) 7))), Go.bits .and .i64 a0_1 15, 0, 0, Go.bits .and .i64 a0_4 15, 0, a0_6)) else (if (wrap64 (1 + (Int.tmod (wrap64 ((Int.tmod a0_0 7) + 7)) 7))) = 7 then (some ((wrap64 (1 + (Int.tmod (wrap64 ((Int.tmod a0_0 7) + 7)) 7))), Go.bits .and .i64 a0_1 15, 0, 0, 0, wrap64 ((Go.bits .and .i64 a0_5 16777215) - 8388608), a0_6)) else (some ((wrap64 (1 + (Int.tmod (wrap64 ((Int.tmod a0_0 7) + 7)) 7))), 0, (Go.bits .and .i64 a0_2 15), 0, 0, 0, false))))) = some (r1, r2, r3, r4, r5, r6, r7) := by rw [if_neg (show ¬ (false = true) by decide)] at H; exact H
        clear H
        have H := H1
        clear H1
        by_cases c69 : (wrap64 (1 + (Int.tmod (wrap64 ((Int.tmod a0_0 7) + 7)) 7))) = 5
        · rw [if_pos c69] at H
          have c69b0 : ((wrap64 (1 + (Int.tmod (wrap64 ((Int.tmod a0_0 7) + 7)) 7))) == 5) = true := beq_iff_eq.mpr c69
          have c69b1 : ((wrap64 (1 + (Int.tmod (wrap64 ((Int.tmod a0_0 7) + 7)) 7))) != 5) = false := bne_eq_false_iff_eq.mpr c69
          clear c69
          simp only [Option.some.injEq, Prod.mk.injEq] at H
          obtain ⟨rfl, rfl, rfl, rfl, rfl, rfl, rfl⟩ := H
          have hnb70 := NB108_109.out
          have hnc70 := NB109_108.out
          have hnb71 := NB108_110.out
          have hnc71 := NB110_108.out
          have hcz72_0 : wc.cell? ⟨gb108, 0, none⟩ = some (.int .i64 a0_0) := (blk_cell BK108.out 0).trans rfl
          have hcz72_1 : wc.cell? ⟨gb108, 1, none⟩ = some (.int .i64 a0_1) := (blk_cell BK108.out 1).trans rfl
          have hcz72_2 : wc.cell? ⟨gb108, 2, none⟩ = some (.int .i64 a0_2) := (blk_cell BK108.out 2).trans rfl
          have hcz72_3 : wc.cell? ⟨gb108, 3, none⟩ = some (.int .i64 a0_3) := (blk_cell BK108.out 3).trans rfl
          have hcz72_4 : wc.cell? ⟨gb108, 4, none⟩ = some (.int .i64 a0_4) := (blk_cell BK108.out 4).trans rfl
          have hcz72_5 : wc.cell? ⟨gb108, 5, none⟩ = some (.int .i64 a0_5) := (blk_cell BK108.out 5).trans rfl
          have hcz72_6 : wc.cell? ⟨gb108, 6, none⟩ = some (.bool a0_6) := (blk_cell BK108.out 6).trans rfl
          have hfz72_0 := blk_frozen BK108.out 0
          have hfz72_1 := blk_frozen BK108.out 1
          have hfz72_2 := blk_frozen BK108.out 2
          have hfz72_3 := blk_frozen BK108.out 3
          have hfz72_4 := blk_frozen BK108.out 4
          have hfz72_5 := blk_frozen BK108.out 5
          have hfz72_6 := blk_frozen BK108.out 6
          have hnb73 := NB110_109.out
          have hnc73 := NB109_110.out
          have hcz74_0 : wc.cell? ⟨gb110, 0, none⟩ = some (.int .i64 (wrap64 (1 + (Int.tmod (wrap64 ((Int.tmod a0_0 7) + 7)) 7)))) := (blk_cell BK110.out 0).trans rfl
          have hcz74_1 : wc.cell? ⟨gb110, 1, none⟩ = some (.int .i64 0) := (blk_cell BK110.out 1).trans rfl
          have hcz74_2 : wc.cell? ⟨gb110, 2, none⟩ = some (.int .i64 (Go.bits .and .i64 a0_2 15)) := (blk_cell BK110.out 2).trans rfl
          have hcz74_3 : wc.cell? ⟨gb110, 3, none⟩ = some (.int .i64 0) := (blk_cell BK110.out 3).trans rfl
          have hcz74_4 : wc.cell? ⟨gb110, 4, none⟩ = some (.int .i64 0) := (blk_cell BK110.out 4).trans rfl
          have hcz74_5 : wc.cell? ⟨gb110, 5, none⟩ = some (.int .i64 0) := (blk_cell BK110.out 5).trans rfl
          have hcz74_6 : wc.cell? ⟨gb110, 6, none⟩ = some (.bool false) := (blk_cell BK110.out 6).trans rfl
          have hfz74_0 := blk_frozen BK110.out 0
          have hfz74_1 := blk_frozen BK110.out 1
          have hfz74_2 := blk_frozen BK110.out 2
          have hfz74_3 := blk_frozen BK110.out 3
          have hfz74_4 := blk_frozen BK110.out 4
          have hfz74_5 := blk_frozen BK110.out 5
          have hfz74_6 := blk_frozen BK110.out 6
          have hcz75_0 : wc.cell? ⟨gb109, 0, none⟩ = some (.int .i64 0) := (blk_cell BK109.out 0).trans rfl
          have hcz75_1 : wc.cell? ⟨gb109, 1, none⟩ = some (.int .i64 0) := (blk_cell BK109.out 1).trans rfl
          have hcz75_2 : wc.cell? ⟨gb109, 2, none⟩ = some (.int .i64 0) := (blk_cell BK109.out 2).trans rfl
          have hcz75_3 : wc.cell? ⟨gb109, 3, none⟩ = some (.int .i64 0) := (blk_cell BK109.out 3).trans rfl
          have hcz75_4 : wc.cell? ⟨gb109, 4, none⟩ = some (.int .i64 0) := (blk_cell BK109.out 4).trans rfl
          have hcz75_5 : wc.cell? ⟨gb109, 5, none⟩ = some (.int .i64 0) := (blk_cell BK109.out 5).trans rfl
          have hcz75_6 : wc.cell? ⟨gb109, 6, none⟩ = some (.bool false) := (blk_cell BK109.out 6).trans rfl
          have hfz75_0 := blk_frozen BK109.out 0
          have hfz75_1 := blk_frozen BK109.out 1
          have hfz75_2 := blk_frozen BK109.out 2
          have hfz75_3 := blk_frozen BK109.out 3
          have hfz75_4 := blk_frozen BK109.out 4
          have hfz75_5 := blk_frozen BK109.out 5
          have hfz75_6 := blk_frozen BK109.out 6
          go_wp2
          refine bodyPost_ret (results_cell_row rfl _ _ gb109 23 #[.int .i64 (wrap64 (1 + (Int.tmod (wrap64 ((Int.tmod a0_0 7) + 7)) 7))), .int .i64 (Go.bits .and .i64 a0_1 3), .int .i64 (Go.bits .and .i64 a0_2 15), .int .i64 (Go.bits .and .i64 a0_3 15), .int .i64 0, .int .i64 (wrap64 ((Go.bits .and .i64 a0_5 1048575) - 524288)), .bool false] (0, 0) _ rfl (by (with_reducible repeat (first | refine blk_drewN ?_ _ | refine blk_drew ?_ | refine blk_alloc ?_ _)); refine blk_put (cs := #[.int .i64 (wrap64 (1 + (Int.tmod (wrap64 ((Int.tmod a0_0 7) + 7)) 7))), .int .i64 (Go.bits .and .i64 a0_1 3), .int .i64 (Go.bits .and .i64 a0_2 15), .int .i64 (Go.bits .and .i64 a0_3 15), .int .i64 0, .int .i64 (wrap64 ((Go.bits .and .i64 a0_5 1048575) - 524288)), .bool false]) ?_ 6 _ rfl; (with_reducible repeat (first | refine blk_drewN ?_ _ | refine blk_drew ?_ | refine blk_alloc ?_ _)); refine blk_put (cs := #[.int .i64 (wrap64 (1 + (Int.tmod (wrap64 ((Int.tmod a0_0 7) + 7)) 7))), .int .i64 (Go.bits .and .i64 a0_1 3), .int .i64 (Go.bits .and .i64 a0_2 15), .int .i64 (Go.bits .and .i64 a0_3 15), .int .i64 0, .int .i64 0, .bool false]) ?_ 5 _ rfl; (with_reducible repeat (first | refine blk_drewN ?_ _ | refine blk_drew ?_ | refine blk_alloc ?_ _)); refine blk_put (cs := #[.int .i64 (wrap64 (1 + (Int.tmod (wrap64 ((Int.tmod a0_0 7) + 7)) 7))), .int .i64 (Go.bits .and .i64 a0_1 3), .int .i64 (Go.bits .and .i64 a0_2 15), .int .i64 (Go.bits .and .i64 a0_3 15), .int .i64 0, .int .i64 0, .bool false]) ?_ 4 _ rfl; (with_reducible repeat (first | refine blk_drewN ?_ _ | refine blk_drew ?_ | refine blk_alloc ?_ _)); refine blk_put (cs := #[.int .i64 (wrap64 (1 + (Int.tmod (wrap64 ((Int.tmod a0_0 7) + 7)) 7))), .int .i64 (Go.bits .and .i64 a0_1 3), .int .i64 (Go.bits .and .i64 a0_2 15), .int .i64 0, .int .i64 0, .int .i64 0, .bool false]) ?_ 3 _ rfl; (with_reducible repeat (first | refine blk_drewN ?_ _ | refine blk_drew ?_ | refine blk_alloc ?_ _)); refine blk_put (cs := #[.int .i64 (wrap64 (1 + (Int.tmod (wrap64 ((Int.tmod a0_0 7) + 7)) 7))), .int .i64 (Go.bits .and .i64 a0_1 3), .int .i64 0, .int .i64 0, .int .i64 0, .int .i64 0, .bool false]) ?_ 2 _ rfl; (with_reducible repeat (first | refine blk_drewN ?_ _ | refine blk_drew ?_ | refine blk_alloc ?_ _)); refine blk_put (cs := #[.int .i64 (wrap64 (1 + (Int.tmod (wrap64 ((Int.tmod a0_0 7) + 7)) 7))), .int .i64 0, .int .i64 0, .int .i64 0, .int .i64 0, .int .i64 0, .bool false]) ?_ 1 _ rfl; (with_reducible repeat (first | refine blk_drewN ?_ _ | refine blk_drew ?_ | refine blk_alloc ?_ _)); refine blk_put (cs := #[.int .i64 0, .int .i64 0, .int .i64 0, .int .i64 0, .int .i64 0, .int .i64 0, .bool false]) ?_ 0 _ rfl; (with_reducible repeat (first | refine blk_drewN ?_ _ | refine blk_drew ?_ | refine blk_alloc ?_ _)); refine blk_far ?_ NB109_110.out _; (with_reducible repeat (first | refine blk_drewN ?_ _ | refine blk_drew ?_ | refine blk_alloc ?_ _)); refine blk_far ?_ NB109_110.out _; (with_reducible repeat (first | refine blk_drewN ?_ _ | refine blk_drew ?_ | refine blk_alloc ?_ _)); refine blk_far ?_ NB109_110.out _; (with_reducible repeat (first | refine blk_drewN ?_ _ | refine blk_drew ?_ | refine blk_alloc ?_ _)); exact BK109.out) Try.underlying23 rfl (by kernel_rfl)) rfl ?_
          exact ⟨by first | rfl | (simp [errW_none, errW_some] <;> rfl) | (simp [*, errW_none, errW_some] <;> rfl), by repeat (first | (with_reducible first | exact HB.out | apply below_alloc | apply pw_below_drewN | apply below_drew1 | refine below_set ?_ GE108.out | refine below_set ?_ GE109.out | refine below_set ?_ GE110.out) | exact HB.out)⟩
        · rw [if_neg c69] at H
          have c69b0 : ((wrap64 (1 + (Int.tmod (wrap64 ((Int.tmod a0_0 7) + 7)) 7))) == 5) = false := beq_eq_false_iff_ne.mpr c69
          have c69b1 : ((wrap64 (1 + (Int.tmod (wrap64 ((Int.tmod a0_0 7) + 7)) 7))) != 5) = true := bne_iff_ne.mpr c69
          by_cases c76 : (wrap64 (1 + (Int.tmod (wrap64 ((Int.tmod a0_0 7) + 7)) 7))) = 6
          · rw [if_pos c76] at H
            have c76b0 : ((wrap64 (1 + (Int.tmod (wrap64 ((Int.tmod a0_0 7) + 7)) 7))) == 6) = true := beq_iff_eq.mpr c76
            have c76b1 : ((wrap64 (1 + (Int.tmod (wrap64 ((Int.tmod a0_0 7) + 7)) 7))) != 6) = false := bne_eq_false_iff_eq.mpr c76
            clear c76
            simp only [Option.some.injEq, Prod.mk.injEq] at H
            obtain ⟨rfl, rfl, rfl, rfl, rfl, rfl, rfl⟩ := H
            have hnb77 := NB110_108.out
            have hnc77 := NB108_110.out
            have hnb78 := NB110_109.out
            have hnc78 := NB109_110.out
            have hcz79_0 : wc.cell? ⟨gb110, 0, none⟩ = some (.int .i64 (wrap64 (1 + (Int.tmod (wrap64 ((Int.tmod a0_0 7) + 7)) 7)))) := (blk_cell BK110.out 0).trans rfl
            have hcz79_1 : wc.cell? ⟨gb110, 1, none⟩ = some (.int .i64 0) := (blk_cell BK110.out 1).trans rfl
            have hcz79_2 : wc.cell? ⟨gb110, 2, none⟩ = some (.int .i64 (Go.bits .and .i64 a0_2 15)) := (blk_cell BK110.out 2).trans rfl
            have hcz79_3 : wc.cell? ⟨gb110, 3, none⟩ = some (.int .i64 0) := (blk_cell BK110.out 3).trans rfl
            have hcz79_4 : wc.cell? ⟨gb110, 4, none⟩ = some (.int .i64 0) := (blk_cell BK110.out 4).trans rfl
            have hcz79_5 : wc.cell? ⟨gb110, 5, none⟩ = some (.int .i64 0) := (blk_cell BK110.out 5).trans rfl
            have hcz79_6 : wc.cell? ⟨gb110, 6, none⟩ = some (.bool false) := (blk_cell BK110.out 6).trans rfl
            have hfz79_0 := blk_frozen BK110.out 0
            have hfz79_1 := blk_frozen BK110.out 1
            have hfz79_2 := blk_frozen BK110.out 2
            have hfz79_3 := blk_frozen BK110.out 3
            have hfz79_4 := blk_frozen BK110.out 4
            have hfz79_5 := blk_frozen BK110.out 5
            have hfz79_6 := blk_frozen BK110.out 6
            have hnb80 := NB108_109.out
            have hnc80 := NB109_108.out
            have hcz81_0 : wc.cell? ⟨gb108, 0, none⟩ = some (.int .i64 a0_0) := (blk_cell BK108.out 0).trans rfl
            have hcz81_1 : wc.cell? ⟨gb108, 1, none⟩ = some (.int .i64 a0_1) := (blk_cell BK108.out 1).trans rfl
            have hcz81_2 : wc.cell? ⟨gb108, 2, none⟩ = some (.int .i64 a0_2) := (blk_cell BK108.out 2).trans rfl
            have hcz81_3 : wc.cell? ⟨gb108, 3, none⟩ = some (.int .i64 a0_3) := (blk_cell BK108.out 3).trans rfl
            have hcz81_4 : wc.cell? ⟨gb108, 4, none⟩ = some (.int .i64 a0_4) := (blk_cell BK108.out 4).trans rfl
            have hcz81_5 : wc.cell? ⟨gb108, 5, none⟩ = some (.int .i64 a0_5) := (blk_cell BK108.out 5).trans rfl
            have hcz81_6 : wc.cell? ⟨gb108, 6, none⟩ = some (.bool a0_6) := (blk_cell BK108.out 6).trans rfl
            have hfz81_0 := blk_frozen BK108.out 0
            have hfz81_1 := blk_frozen BK108.out 1
            have hfz81_2 := blk_frozen BK108.out 2
            have hfz81_3 := blk_frozen BK108.out 3
            have hfz81_4 := blk_frozen BK108.out 4
            have hfz81_5 := blk_frozen BK108.out 5
            have hfz81_6 := blk_frozen BK108.out 6
            have hcz82_0 : wc.cell? ⟨gb109, 0, none⟩ = some (.int .i64 0) := (blk_cell BK109.out 0).trans rfl
            have hcz82_1 : wc.cell? ⟨gb109, 1, none⟩ = some (.int .i64 0) := (blk_cell BK109.out 1).trans rfl
            have hcz82_2 : wc.cell? ⟨gb109, 2, none⟩ = some (.int .i64 0) := (blk_cell BK109.out 2).trans rfl
            have hcz82_3 : wc.cell? ⟨gb109, 3, none⟩ = some (.int .i64 0) := (blk_cell BK109.out 3).trans rfl
            have hcz82_4 : wc.cell? ⟨gb109, 4, none⟩ = some (.int .i64 0) := (blk_cell BK109.out 4).trans rfl
            have hcz82_5 : wc.cell? ⟨gb109, 5, none⟩ = some (.int .i64 0) := (blk_cell BK109.out 5).trans rfl
            have hcz82_6 : wc.cell? ⟨gb109, 6, none⟩ = some (.bool false) := (blk_cell BK109.out 6).trans rfl
            have hfz82_0 := blk_frozen BK109.out 0
            have hfz82_1 := blk_frozen BK109.out 1
            have hfz82_2 := blk_frozen BK109.out 2
            have hfz82_3 := blk_frozen BK109.out 3
            have hfz82_4 := blk_frozen BK109.out 4
            have hfz82_5 := blk_frozen BK109.out 5
            have hfz82_6 := blk_frozen BK109.out 6
            go_wp2
            refine bodyPost_ret (results_cell_row rfl _ _ gb109 23 #[.int .i64 (wrap64 (1 + (Int.tmod (wrap64 ((Int.tmod a0_0 7) + 7)) 7))), .int .i64 (Go.bits .and .i64 a0_1 15), .int .i64 0, .int .i64 0, .int .i64 (Go.bits .and .i64 a0_4 15), .int .i64 0, .bool a0_6] (0, 0) _ rfl (by (with_reducible repeat (first | refine blk_drewN ?_ _ | refine blk_drew ?_ | refine blk_alloc ?_ _)); refine blk_put (cs := #[.int .i64 (wrap64 (1 + (Int.tmod (wrap64 ((Int.tmod a0_0 7) + 7)) 7))), .int .i64 (Go.bits .and .i64 a0_1 15), .int .i64 0, .int .i64 0, .int .i64 (Go.bits .and .i64 a0_4 15), .int .i64 0, .bool false]) ?_ 6 _ rfl; (with_reducible repeat (first | refine blk_drewN ?_ _ | refine blk_drew ?_ | refine blk_alloc ?_ _)); refine blk_put (cs := #[.int .i64 (wrap64 (1 + (Int.tmod (wrap64 ((Int.tmod a0_0 7) + 7)) 7))), .int .i64 (Go.bits .and .i64 a0_1 15), .int .i64 0, .int .i64 0, .int .i64 (Go.bits .and .i64 a0_4 15), .int .i64 0, .bool false]) ?_ 5 _ rfl; (with_reducible repeat (first | refine blk_drewN ?_ _ | refine blk_drew ?_ | refine blk_alloc ?_ _)); refine blk_put (cs := #[.int .i64 (wrap64 (1 + (Int.tmod (wrap64 ((Int.tmod a0_0 7) + 7)) 7))), .int .i64 (Go.bits .and .i64 a0_1 15), .int .i64 0, .int .i64 0, .int .i64 0, .int .i64 0, .bool false]) ?_ 4 _ rfl; (with_reducible repeat (first | refine blk_drewN ?_ _ | refine blk_drew ?_ | refine blk_alloc ?_ _)); refine blk_put (cs := #[.int .i64 (wrap64 (1 + (Int.tmod (wrap64 ((Int.tmod a0_0 7) + 7)) 7))), .int .i64 (Go.bits .and .i64 a0_1 15), .int .i64 0, .int .i64 0, .int .i64 0, .int .i64 0, .bool false]) ?_ 3 _ rfl; (with_reducible repeat (first | refine blk_drewN ?_ _ | refine blk_drew ?_ | refine blk_alloc ?_ _)); refine blk_put (cs := #[.int .i64 (wrap64 (1 + (Int.tmod (wrap64 ((Int.tmod a0_0 7) + 7)) 7))), .int .i64 (Go.bits .and .i64 a0_1 15), .int .i64 0, .int .i64 0, .int .i64 0, .int .i64 0, .bool false]) ?_ 2 _ rfl; (with_reducible repeat (first | refine blk_drewN ?_ _ | refine blk_drew ?_ | refine blk_alloc ?_ _)); refine blk_put (cs := #[.int .i64 (wrap64 (1 + (Int.tmod (wrap64 ((Int.tmod a0_0 7) + 7)) 7))), .int .i64 0, .int .i64 0, .int .i64 0, .int .i64 0, .int .i64 0, .bool false]) ?_ 1 _ rfl; (with_reducible repeat (first | refine blk_drewN ?_ _ | refine blk_drew ?_ | refine blk_alloc ?_ _)); refine blk_put (cs := #[.int .i64 0, .int .i64 0, .int .i64 0, .int .i64 0, .int .i64 0, .int .i64 0, .bool false]) ?_ 0 _ rfl; (with_reducible repeat (first | refine blk_drewN ?_ _ | refine blk_drew ?_ | refine blk_alloc ?_ _)); refine blk_far ?_ NB109_110.out _; (with_reducible repeat (first | refine blk_drewN ?_ _ | refine blk_drew ?_ | refine blk_alloc ?_ _)); refine blk_far ?_ NB109_110.out _; (with_reducible repeat (first | refine blk_drewN ?_ _ | refine blk_drew ?_ | refine blk_alloc ?_ _)); refine blk_far ?_ NB109_110.out _; (with_reducible repeat (first | refine blk_drewN ?_ _ | refine blk_drew ?_ | refine blk_alloc ?_ _)); refine blk_far ?_ NB109_110.out _; (with_reducible repeat (first | refine blk_drewN ?_ _ | refine blk_drew ?_ | refine blk_alloc ?_ _)); refine blk_far ?_ NB109_110.out _; (with_reducible repeat (first | refine blk_drewN ?_ _ | refine blk_drew ?_ | refine blk_alloc ?_ _)); refine blk_far ?_ NB109_110.out _; (with_reducible repeat (first | refine blk_drewN ?_ _ | refine blk_drew ?_ | refine blk_alloc ?_ _)); refine blk_far ?_ NB109_110.out _; (with_reducible repeat (first | refine blk_drewN ?_ _ | refine blk_drew ?_ | refine blk_alloc ?_ _)); exact BK109.out) Try.underlying23 rfl (by kernel_rfl)) rfl ?_
            exact ⟨by first | rfl | (simp [errW_none, errW_some] <;> rfl) | (simp [*, errW_none, errW_some] <;> rfl), by repeat (first | (with_reducible first | exact HB.out | apply below_alloc | apply pw_below_drewN | apply below_drew1 | refine below_set ?_ GE108.out | refine below_set ?_ GE109.out | refine below_set ?_ GE110.out) | exact HB.out)⟩
          · rw [if_neg c76] at H
            have c76b0 : ((wrap64 (1 + (Int.tmod (wrap64 ((Int.tmod a0_0 7) + 7)) 7))) == 6) = false := beq_eq_false_iff_ne.mpr c76
            have c76b1 : ((wrap64 (1 + (Int.tmod (wrap64 ((Int.tmod a0_0 7) + 7)) 7))) != 6) = true := bne_iff_ne.mpr c76
            by_cases c83 : (wrap64 (1 + (Int.tmod (wrap64 ((Int.tmod a0_0 7) + 7)) 7))) = 7
            · rw [if_pos c83] at H
              have c83b0 : ((wrap64 (1 + (Int.tmod (wrap64 ((Int.tmod a0_0 7) + 7)) 7))) == 7) = true := beq_iff_eq.mpr c83
              have c83b1 : ((wrap64 (1 + (Int.tmod (wrap64 ((Int.tmod a0_0 7) + 7)) 7))) != 7) = false := bne_eq_false_iff_eq.mpr c83
              clear c83
              simp only [Option.some.injEq, Prod.mk.injEq] at H
              obtain ⟨rfl, rfl, rfl, rfl, rfl, rfl, rfl⟩ := H
              have hnb84 := NB110_108.out
              have hnc84 := NB108_110.out
              have hnb85 := NB110_109.out
              have hnc85 := NB109_110.out
              have hcz86_0 : wc.cell? ⟨gb110, 0, none⟩ = some (.int .i64 (wrap64 (1 + (Int.tmod (wrap64 ((Int.tmod a0_0 7) + 7)) 7)))) := (blk_cell BK110.out 0).trans rfl
              have hcz86_1 : wc.cell? ⟨gb110, 1, none⟩ = some (.int .i64 0) := (blk_cell BK110.out 1).trans rfl
              have hcz86_2 : wc.cell? ⟨gb110, 2, none⟩ = some (.int .i64 (Go.bits .and .i64 a0_2 15)) := (blk_cell BK110.out 2).trans rfl
              have hcz86_3 : wc.cell? ⟨gb110, 3, none⟩ = some (.int .i64 0) := (blk_cell BK110.out 3).trans rfl
              have hcz86_4 : wc.cell? ⟨gb110, 4, none⟩ = some (.int .i64 0) := (blk_cell BK110.out 4).trans rfl
              have hcz86_5 : wc.cell? ⟨gb110, 5, none⟩ = some (.int .i64 0) := (blk_cell BK110.out 5).trans rfl
              have hcz86_6 : wc.cell? ⟨gb110, 6, none⟩ = some (.bool false) := (blk_cell BK110.out 6).trans rfl
              have hfz86_0 := blk_frozen BK110.out 0
              have hfz86_1 := blk_frozen BK110.out 1
              have hfz86_2 := blk_frozen BK110.out 2
              have hfz86_3 := blk_frozen BK110.out 3
              have hfz86_4 := blk_frozen BK110.out 4
              have hfz86_5 := blk_frozen BK110.out 5
              have hfz86_6 := blk_frozen BK110.out 6
              have hnb87 := NB108_109.out
              have hnc87 := NB109_108.out
              have hcz88_0 : wc.cell? ⟨gb108, 0, none⟩ = some (.int .i64 a0_0) := (blk_cell BK108.out 0).trans rfl
              have hcz88_1 : wc.cell? ⟨gb108, 1, none⟩ = some (.int .i64 a0_1) := (blk_cell BK108.out 1).trans rfl
              have hcz88_2 : wc.cell? ⟨gb108, 2, none⟩ = some (.int .i64 a0_2) := (blk_cell BK108.out 2).trans rfl
              have hcz88_3 : wc.cell? ⟨gb108, 3, none⟩ = some (.int .i64 a0_3) := (blk_cell BK108.out 3).trans rfl
              have hcz88_4 : wc.cell? ⟨gb108, 4, none⟩ = some (.int .i64 a0_4) := (blk_cell BK108.out 4).trans rfl
              have hcz88_5 : wc.cell? ⟨gb108, 5, none⟩ = some (.int .i64 a0_5) := (blk_cell BK108.out 5).trans rfl
              have hcz88_6 : wc.cell? ⟨gb108, 6, none⟩ = some (.bool a0_6) := (blk_cell BK108.out 6).trans rfl
              have hfz88_0 := blk_frozen BK108.out 0
              have hfz88_1 := blk_frozen BK108.out 1
              have hfz88_2 := blk_frozen BK108.out 2
              have hfz88_3 := blk_frozen BK108.out 3
              have hfz88_4 := blk_frozen BK108.out 4
              have hfz88_5 := blk_frozen BK108.out 5
              have hfz88_6 := blk_frozen BK108.out 6
              have hcz89_0 : wc.cell? ⟨gb109, 0, none⟩ = some (.int .i64 0) := (blk_cell BK109.out 0).trans rfl
              have hcz89_1 : wc.cell? ⟨gb109, 1, none⟩ = some (.int .i64 0) := (blk_cell BK109.out 1).trans rfl
              have hcz89_2 : wc.cell? ⟨gb109, 2, none⟩ = some (.int .i64 0) := (blk_cell BK109.out 2).trans rfl
              have hcz89_3 : wc.cell? ⟨gb109, 3, none⟩ = some (.int .i64 0) := (blk_cell BK109.out 3).trans rfl
              have hcz89_4 : wc.cell? ⟨gb109, 4, none⟩ = some (.int .i64 0) := (blk_cell BK109.out 4).trans rfl
              have hcz89_5 : wc.cell? ⟨gb109, 5, none⟩ = some (.int .i64 0) := (blk_cell BK109.out 5).trans rfl
              have hcz89_6 : wc.cell? ⟨gb109, 6, none⟩ = some (.bool false) := (blk_cell BK109.out 6).trans rfl
              have hfz89_0 := blk_frozen BK109.out 0
              have hfz89_1 := blk_frozen BK109.out 1
              have hfz89_2 := blk_frozen BK109.out 2
              have hfz89_3 := blk_frozen BK109.out 3
              have hfz89_4 := blk_frozen BK109.out 4
              have hfz89_5 := blk_frozen BK109.out 5
              have hfz89_6 := blk_frozen BK109.out 6
              go_wp2
              refine bodyPost_ret (results_cell_row rfl _ _ gb109 23 #[.int .i64 (wrap64 (1 + (Int.tmod (wrap64 ((Int.tmod a0_0 7) + 7)) 7))), .int .i64 (Go.bits .and .i64 a0_1 15), .int .i64 0, .int .i64 0, .int .i64 0, .int .i64 (wrap64 ((Go.bits .and .i64 a0_5 16777215) - 8388608)), .bool a0_6] (0, 0) _ rfl (by (with_reducible repeat (first | refine blk_drewN ?_ _ | refine blk_drew ?_ | refine blk_alloc ?_ _)); refine blk_put (cs := #[.int .i64 (wrap64 (1 + (Int.tmod (wrap64 ((Int.tmod a0_0 7) + 7)) 7))), .int .i64 (Go.bits .and .i64 a0_1 15), .int .i64 0, .int .i64 0, .int .i64 0, .int .i64 (wrap64 ((Go.bits .and .i64 a0_5 16777215) - 8388608)), .bool false]) ?_ 6 _ rfl; (with_reducible repeat (first | refine blk_drewN ?_ _ | refine blk_drew ?_ | refine blk_alloc ?_ _)); refine blk_put (cs := #[.int .i64 (wrap64 (1 + (Int.tmod (wrap64 ((Int.tmod a0_0 7) + 7)) 7))), .int .i64 (Go.bits .and .i64 a0_1 15), .int .i64 0, .int .i64 0, .int .i64 0, .int .i64 0, .bool false]) ?_ 5 _ rfl; (with_reducible repeat (first | refine blk_drewN ?_ _ | refine blk_drew ?_ | refine blk_alloc ?_ _)); refine blk_put (cs := #[.int .i64 (wrap64 (1 + (Int.tmod (wrap64 ((Int.tmod a0_0 7) + 7)) 7))), .int .i64 (Go.bits .and .i64 a0_1 15), .int .i64 0, .int .i64 0, .int .i64 0, .int .i64 0, .bool false]) ?_ 4 _ rfl; (with_reducible repeat (first | refine blk_drewN ?_ _ | refine blk_drew ?_ | refine blk_alloc ?_ _)); refine blk_put (cs := #[.int .i64 (wrap64 (1 + (Int.tmod (wrap64 ((Int.tmod a0_0 7) + 7)) 7))), .int .i64 (Go.bits .and .i64 a0_1 15), .int .i64 0, .int .i64 0, .int .i64 0, .int .i64 0, .bool false]) ?_ 3 _ rfl; (with_reducible repeat (first | refine blk_drewN ?_ _ | refine blk_drew ?_ | refine blk_alloc ?_ _)); refine blk_put (cs := #[.int .i64 (wrap64 (1 + (Int.tmod (wrap64 ((Int.tmod a0_0 7) + 7)) 7))), .int .i64 (Go.bits .and .i64 a0_1 15), .int .i64 0, .int .i64 0, .int .i64 0, .int .i64 0, .bool false]) ?_ 2 _ rfl; (with_reducible repeat (first | refine blk_drewN ?_ _ | refine blk_drew ?_ | refine blk_alloc ?_ _)); refine blk_put (cs := #[.int .i64 (wrap64 (1 + (Int.tmod (wrap64 ((Int.tmod a0_0 7) + 7)) 7))), .int .i64 0, .int .i64 0, .int .i64 0, .int .i64 0, .int .i64 0, .bool false]) ?_ 1 _ rfl; (with_reducible repeat (first | refine blk_drewN ?_ _ | refine blk_drew ?_ | refine blk_alloc ?_ _)); refine blk_put (cs := #[.int .i64 0, .int .i64 0, .int .i64 0, .int .i64 0, .int .i64 0, .int .i64 0, .bool false]) ?_ 0 _ rfl; (with_reducible repeat (first | refine blk_drewN ?_ _ | refine blk_drew ?_ | refine blk_alloc ?_ _)); refine blk_far ?_ NB109_110.out _; (with_reducible repeat (first | refine blk_drewN ?_ _ | refine blk_drew ?_ | refine blk_alloc ?_ _)); refine blk_far ?_ NB109_110.out _; (with_reducible repeat (first | refine blk_drewN ?_ _ | refine blk_drew ?_ | refine blk_alloc ?_ _)); refine blk_far ?_ NB109_110.out _; (with_reducible repeat (first | refine blk_drewN ?_ _ | refine blk_drew ?_ | refine blk_alloc ?_ _)); refine blk_far ?_ NB109_110.out _; (with_reducible repeat (first | refine blk_drewN ?_ _ | refine blk_drew ?_ | refine blk_alloc ?_ _)); refine blk_far ?_ NB109_110.out _; (with_reducible repeat (first | refine blk_drewN ?_ _ | refine blk_drew ?_ | refine blk_alloc ?_ _)); refine blk_far ?_ NB109_110.out _; (with_reducible repeat (first | refine blk_drewN ?_ _ | refine blk_drew ?_ | refine blk_alloc ?_ _)); refine blk_far ?_ NB109_110.out _; (with_reducible repeat (first | refine blk_drewN ?_ _ | refine blk_drew ?_ | refine blk_alloc ?_ _)); exact BK109.out) Try.underlying23 rfl (by kernel_rfl)) rfl ?_
              exact ⟨by first | rfl | (simp [errW_none, errW_some] <;> rfl) | (simp [*, errW_none, errW_some] <;> rfl), by repeat (first | (with_reducible first | exact HB.out | apply below_alloc | apply pw_below_drewN | apply below_drew1 | refine below_set ?_ GE108.out | refine below_set ?_ GE109.out | refine below_set ?_ GE110.out) | exact HB.out)⟩
            · rw [if_neg c83] at H
              have c83b0 : ((wrap64 (1 + (Int.tmod (wrap64 ((Int.tmod a0_0 7) + 7)) 7))) == 7) = false := beq_eq_false_iff_ne.mpr c83
              have c83b1 : ((wrap64 (1 + (Int.tmod (wrap64 ((Int.tmod a0_0 7) + 7)) 7))) != 7) = true := bne_iff_ne.mpr c83
              simp only [Option.some.injEq, Prod.mk.injEq] at H
              obtain ⟨rfl, rfl, rfl, rfl, rfl, rfl, rfl⟩ := H
              have hnb90 := NB110_108.out
              have hnc90 := NB108_110.out
              have hnb91 := NB110_109.out
              have hnc91 := NB109_110.out
              have hcz92_0 : wc.cell? ⟨gb110, 0, none⟩ = some (.int .i64 (wrap64 (1 + (Int.tmod (wrap64 ((Int.tmod a0_0 7) + 7)) 7)))) := (blk_cell BK110.out 0).trans rfl
              have hcz92_1 : wc.cell? ⟨gb110, 1, none⟩ = some (.int .i64 0) := (blk_cell BK110.out 1).trans rfl
              have hcz92_2 : wc.cell? ⟨gb110, 2, none⟩ = some (.int .i64 (Go.bits .and .i64 a0_2 15)) := (blk_cell BK110.out 2).trans rfl
              have hcz92_3 : wc.cell? ⟨gb110, 3, none⟩ = some (.int .i64 0) := (blk_cell BK110.out 3).trans rfl
              have hcz92_4 : wc.cell? ⟨gb110, 4, none⟩ = some (.int .i64 0) := (blk_cell BK110.out 4).trans rfl
              have hcz92_5 : wc.cell? ⟨gb110, 5, none⟩ = some (.int .i64 0) := (blk_cell BK110.out 5).trans rfl
              have hcz92_6 : wc.cell? ⟨gb110, 6, none⟩ = some (.bool false) := (blk_cell BK110.out 6).trans rfl
              have hfz92_0 := blk_frozen BK110.out 0
              have hfz92_1 := blk_frozen BK110.out 1
              have hfz92_2 := blk_frozen BK110.out 2
              have hfz92_3 := blk_frozen BK110.out 3
              have hfz92_4 := blk_frozen BK110.out 4
              have hfz92_5 := blk_frozen BK110.out 5
              have hfz92_6 := blk_frozen BK110.out 6
              have hnb93 := NB109_108.out
              have hnc93 := NB108_109.out
              have hcz94_0 : wc.cell? ⟨gb109, 0, none⟩ = some (.int .i64 0) := (blk_cell BK109.out 0).trans rfl
              have hcz94_1 : wc.cell? ⟨gb109, 1, none⟩ = some (.int .i64 0) := (blk_cell BK109.out 1).trans rfl
              have hcz94_2 : wc.cell? ⟨gb109, 2, none⟩ = some (.int .i64 0) := (blk_cell BK109.out 2).trans rfl
              have hcz94_3 : wc.cell? ⟨gb109, 3, none⟩ = some (.int .i64 0) := (blk_cell BK109.out 3).trans rfl
              have hcz94_4 : wc.cell? ⟨gb109, 4, none⟩ = some (.int .i64 0) := (blk_cell BK109.out 4).trans rfl
              have hcz94_5 : wc.cell? ⟨gb109, 5, none⟩ = some (.int .i64 0) := (blk_cell BK109.out 5).trans rfl
              have hcz94_6 : wc.cell? ⟨gb109, 6, none⟩ = some (.bool false) := (blk_cell BK109.out 6).trans rfl
              have hfz94_0 := blk_frozen BK109.out 0
              have hfz94_1 := blk_frozen BK109.out 1
              have hfz94_2 := blk_frozen BK109.out 2
              have hfz94_3 := blk_frozen BK109.out 3
              have hfz94_4 := blk_frozen BK109.out 4
              have hfz94_5 := blk_frozen BK109.out 5
              have hfz94_6 := blk_frozen BK109.out 6
              go_wp2
              refine bodyPost_ret (results_cell_row rfl _ _ gb109 23 #[.int .i64 (wrap64 (1 + (Int.tmod (wrap64 ((Int.tmod a0_0 7) + 7)) 7))), .int .i64 0, .int .i64 (Go.bits .and .i64 a0_2 15), .int .i64 0, .int .i64 0, .int .i64 0, .bool false] (0, 0) _ rfl (by (with_reducible repeat (first | refine blk_drewN ?_ _ | refine blk_drew ?_ | refine blk_alloc ?_ _)); refine blk_put (cs := #[.int .i64 (wrap64 (1 + (Int.tmod (wrap64 ((Int.tmod a0_0 7) + 7)) 7))), .int .i64 0, .int .i64 (Go.bits .and .i64 a0_2 15), .int .i64 0, .int .i64 0, .int .i64 0, .bool false]) ?_ 6 _ rfl; (with_reducible repeat (first | refine blk_drewN ?_ _ | refine blk_drew ?_ | refine blk_alloc ?_ _)); refine blk_put (cs := #[.int .i64 (wrap64 (1 + (Int.tmod (wrap64 ((Int.tmod a0_0 7) + 7)) 7))), .int .i64 0, .int .i64 (Go.bits .and .i64 a0_2 15), .int .i64 0, .int .i64 0, .int .i64 0, .bool false]) ?_ 5 _ rfl; (with_reducible repeat (first | refine blk_drewN ?_ _ | refine blk_drew ?_ | refine blk_alloc ?_ _)); refine blk_put (cs := #[.int .i64 (wrap64 (1 + (Int.tmod (wrap64 ((Int.tmod a0_0 7) + 7)) 7))), .int .i64 0, .int .i64 (Go.bits .and .i64 a0_2 15), .int .i64 0, .int .i64 0, .int .i64 0, .bool false]) ?_ 4 _ rfl; (with_reducible repeat (first | refine blk_drewN ?_ _ | refine blk_drew ?_ | refine blk_alloc ?_ _)); refine blk_put (cs := #[.int .i64 (wrap64 (1 + (Int.tmod (wrap64 ((Int.tmod a0_0 7) + 7)) 7))), .int .i64 0, .int .i64 (Go.bits .and .i64 a0_2 15), .int .i64 0, .int .i64 0, .int .i64 0, .bool false]) ?_ 3 _ rfl; (with_reducible repeat (first | refine blk_drewN ?_ _ | refine blk_drew ?_ | refine blk_alloc ?_ _)); refine blk_put (cs := #[.int .i64 (wrap64 (1 + (Int.tmod (wrap64 ((Int.tmod a0_0 7) + 7)) 7))), .int .i64 0, .int .i64 0, .int .i64 0, .int .i64 0, .int .i64 0, .bool false]) ?_ 2 _ rfl; (with_reducible repeat (first | refine blk_drewN ?_ _ | refine blk_drew ?_ | refine blk_alloc ?_ _)); refine blk_put (cs := #[.int .i64 (wrap64 (1 + (Int.tmod (wrap64 ((Int.tmod a0_0 7) + 7)) 7))), .int .i64 0, .int .i64 0, .int .i64 0, .int .i64 0, .int .i64 0, .bool false]) ?_ 1 _ rfl; (with_reducible repeat (first | refine blk_drewN ?_ _ | refine blk_drew ?_ | refine blk_alloc ?_ _)); refine blk_put (cs := #[.int .i64 0, .int .i64 0, .int .i64 0, .int .i64 0, .int .i64 0, .int .i64 0, .bool false]) ?_ 0 _ rfl; (with_reducible repeat (first | refine blk_drewN ?_ _ | refine blk_drew ?_ | refine blk_alloc ?_ _)); exact BK109.out) Try.underlying23 rfl (by kernel_rfl)) rfl ?_
              exact ⟨by first | rfl | (simp [errW_none, errW_some] <;> rfl) | (simp [*, errW_none, errW_some] <;> rfl), by repeat (first | (with_reducible first | exact HB.out | apply below_alloc | apply pw_below_drewN | apply below_drew1 | refine below_set ?_ GE108.out | refine below_set ?_ GE109.out | refine below_set ?_ GE110.out) | exact HB.out)⟩

end Go.Proofs.Ytnilkljibdjjgaa.PIsaBack
