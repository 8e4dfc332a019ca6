import Derived.Test.YtjmiaemabhlnjaaGreatDoorTopRows
set_option linter.all false
set_option maxRecDepth 100000
/-! name.rows: its contract. -/
namespace Go.Proofs.YtjmiaemabhlnjaaGreatDoor.Top
open Go Go.RowKit Go.YtjmiaemabhlnjaaGreatDoorMap

theorem wpOp_val {P : Program} {ops : Array Oper} {Q : Exit → Act → World → Prop} {i : Nat} {o : Oper} {a : Act} {w w' : World} {v : Value} {K : Act → World → Prop} (ho : ops[i]? = some o) (hg : o.guard = none)
    (hrun : (execOp a.eval o).run P w = .ok (.value v) w') (h : K (a.put o.dst v) w') : wpOp P ops Q i K a w := by
  unfold Go.wpOp
  simp only [ho, Region.wanted, hg, if_true]
  left
  unfold Oper.wp
  rw [hrun]
  exact h
theorem wpOp_skip {P : Program} {ops : Array Oper} {Q : Exit → Act → World → Prop} {i : Nat} {o : Oper} {a : Act} {w w' : World} {K : Act → World → Prop} (ho : ops[i]? = some o) (hg : o.guard = none)
    (hrun : (execOp a.eval o).run P w = .ok .skip w') (h : K (a.put o.dst undef) w') : wpOp P ops Q i K a w := by
  unfold Go.wpOp
  simp only [ho, Region.wanted, hg, if_true]
  left
  unfold Oper.wp
  rw [hrun]
  exact h
theorem wpOp_call {P : Program} {ops : Array Oper} {Q : Exit → Act → World → Prop} {i f : Nat} {o : Oper} {args : Array Value} {a : Act} {w : World} {K : Act → World → Prop} (ho : ops[i]? = some o) (hg : o.guard = none)
    (hrun : (execOp a.eval o).run P w = .ok (.enter f args) w) (h : Calls P f args w fun e w' => ∃ v, e = .returned v ∧ K (a.put o.dst v) w') : wpOp P ops Q i K a w := by
  unfold Go.wpOp
  simp only [ho, Region.wanted, hg, if_true]
  left
  unfold Oper.wp
  rw [hrun, Oper.upon_enter]
  refine h.mono fun e w' he => ?_
  obtain ⟨v, rfl, hk⟩ := he
  exact hk

theorem wpOp_insert {P : Program} {ops : Array Oper} {Q : Exit → Act → World → Prop} {i t : Nat} {o : Oper} {m k v : Operand} {M Kv V : Value} {a : Act} {w w' : World} {K : Act → World → Prop} (ho : ops[i]? = some o) (hg : o.guard = none)
    (hop : o.op = .insert t m k v) (hdst : o.dst = none) (em : a.eval m = M) (ek : a.eval k = Kv) (ev : a.eval v = V) (hrun : (Instr.mapUpdate t M Kv V).run P w = .ok () w') (h : K a w') : wpOp P ops Q i K a w := by
  refine wpOp_skip (w' := w') ho hg ?_ (by rw [hdst]; exact h)
  simp [execOp, hop, em, ek, ev, hrun]

theorem run_call {P : Program} {a : Act} {w : World} {f : Nat} {o : Oper} {c : Call} {vs : Array Value} (hop : o.op = .call c) (hc : c.callee = .value (.func f)) (hv : c.args.map a.eval = vs) (he : (callFunc f vs).run P w = .ok (.enter f vs) w) :
    (execOp a.eval o).run P w = .ok (.enter f vs) w := by
  simp [execOp, hop, resolve, hc, Deferred.ofValue, Act.eval, invoke, hv, he]
theorem run_bin {P : Program} {a : Act} {w : World} {o : Oper} {b : BinOp} {t t' : TypeId} {x y : Operand} {X Y V : Value} (hop : o.op = .binOp b t x y t') (hx : a.eval x = X) (hy : a.eval y = Y) (hg : (eqGuard b t x y X Y).run P w = .ok () w) (he : (binOp b t X Y).run P w = .ok V w) :
    (execOp a.eval o).run P w = .ok (.value V) w := by
  simp [execOp, hop, hx, hy, hg, he]

theorem repF (n i : Nat) : (Array.replicate n false).getD i false = false := by
  rw [Array.getD_eq_getD_getElem?]
  by_cases h : i < n
  · simp [h]
  · simp [h]
theorem enters232 : ∀ args w, (callFunc 232 args).run Tryz.prog w = .ok (.enter 232 args) w := enters_of Tryz.func232 (by kernel_rfl) rfl

theorem rows_any (w : World) (m : Int) (hm : w.cell? ⟨0, 0, none⟩ = some (.int .i64 m)) : Calls Tryz.prog 208 #[] w fun e w' => ∃ A, e = .returned (.map (some A)) ∧ w.heap.size ≤ A ∧ MapIs w' A (rowsL.map pv) ∧ Below w.heap.size w w' := by
  go_enter Tryz.func208, Tryz.ntmps208
  go_wp2_with (fail)
  rename_i Q' K hK
  refine wp_region_any (by kernel_rfl) ?_
  refine wpAny_inv (I := fun l a w' => ∃ A, Inv w A l a w') ?_ ?_ _ _ _ _ (by decide) ⟨w.heap.size, ?_⟩
  · rintro l a w' ⟨A, hI⟩ hr
    have hall : ∀ i, i < 31 → l.getD i false = true := by
      refine all_listed ?_ hI.sz hr
      intro i o ho
      have hi : i < 31 := (Array.getElem?_eq_some_iff.1 ho).1
      have hc2 : i = 0 ∨ i = 1 ∨ i = 2 ∨ i = 3 ∨ i = 4 ∨ i = 5 ∨ i = 6 ∨ i = 7 ∨ i = 8 ∨ i = 9 ∨ i = 10 ∨ i = 11 ∨ i = 12 ∨ i = 13 ∨ i = 14 ∨ i = 15 ∨ i = 16 ∨ i = 17 ∨ i = 18 ∨ i = 19 ∨ i = 20 ∨ i = 21 ∨ i = 22 ∨ i = 23 ∨ i = 24 ∨ i = 25 ∨ i = 26 ∨ i = 27 ∨ i = 28 ∨ i = 29 ∨ i = 30 := by omega
      rcases hc2 with rfl | rfl | rfl | rfl | rfl | rfl | rfl | rfl | rfl | rfl | rfl | rfl | rfl | rfl | rfl | rfl | rfl | rfl | rfl | rfl | rfl | rfl | rfl | rfl | rfl | rfl | rfl | rfl | rfl | rfl | rfl <;> (cases ho; decide)
    have e : a.eval (.tmp 0) = .map (some A) := hI.vs (30, 0, .map (some A)) (by simp [dv]) (hall 30 (by decide))
    refine hK a w' (wp_ret ⟨hI.df, .map (some A), ?_, A, rfl, hI.hA, ?_, hI.bw⟩)
    · have e' : a.tmps.getD 0 undef = .map (some A) := e
      have hr : Tryz.f208.results = #[.tmp 0] := rfl
      rw [Array.getD_eq_getD_getElem?] at e'
      simp [results, hr, e']
    · have := (hI.mp (hall 0 (by decide))).2
      have hin : ∀ p ∈ rowsAt, l.getD p.1 false = true := fun p hp => by
        refine hall _ ?_
        have h1 : p.1 ∈ rowsAt.map (·.1) := List.mem_map_of_mem hp
        have e3 : rowsAt.map (·.1) = [2, 4, 6, 8, 10, 12, 17, 22, 24, 26, 28] := rfl
        rw [e3] at h1
        simp only [List.mem_cons, List.not_mem_nil, or_false] at h1
        omega
      rwa [laidIn_all hin] at this
  · rintro l a w' ⟨A, hI⟩ i o ho h0 hd
    have hi : i < 31 := (Array.getElem?_eq_some_iff.1 ho).1
    have hcs : i = 0 ∨ i = 1 ∨ i = 2 ∨ i = 3 ∨ i = 4 ∨ i = 5 ∨ i = 6 ∨ i = 7 ∨ i = 8 ∨ i = 9 ∨ i = 10 ∨ i = 11 ∨ i = 12 ∨ i = 13 ∨ i = 14 ∨ i = 15 ∨ i = 16 ∨ i = 17 ∨ i = 18 ∨ i = 19 ∨ i = 20 ∨ i = 21 ∨ i = 22 ∨ i = 23 ∨ i = 24 ∨ i = 25 ∨ i = 26 ∨ i = 27 ∨ i = 28 ∨ i = 29 ∨ i = 30 := by omega
    rcases hcs with rfl | rfl | rfl | rfl | rfl | rfl | rfl | rfl | rfl | rfl | rfl | rfl | rfl | rfl | rfl | rfl | rfl | rfl | rfl | rfl | rfl | rfl | rfl | rfl | rfl | rfl | rfl | rfl | rfl | rfl | rfl
    · cases ho
      refine wpOp_val rfl rfl (by simp [execOp, Instr.makeMap]) ⟨w'.heap.size, hI.make h0⟩
    · cases ho
      refine wpOp_val (v := kv (1, 0, false)) rfl rfl (by kernel_rfl) ⟨A, hI.put h0 (by simp [dv]) (by omega)⟩
    · cases ho
      obtain ⟨w2, r1, r2⟩ := hI.lay (i := 2) (x := ((1, 0, false), [77, 79, 86, 32, 76, 83, 76, 32, 65, 83, 82, 32, 82, 79, 82, 32, 65, 78, 68, 32, 65, 78, 78, 32, 73, 79, 82, 32, 88, 79, 82, 32, 65, 68, 68, 32, 83, 85, 66, 32, 77, 85, 76, 32, 68, 73, 86])) h0 (by simp [rowsAt, c1, c2]) (hd 0 (by decide))
      exact wpOp_insert rfl rfl rfl rfl (hI.mp (hd 0 (by decide))).1 (hI.vs (1, 3, kv (1, 0, false)) (by simp [dv]) (hd 1 (by decide))) rfl r1 ⟨A, r2⟩
    · cases ho
      refine wpOp_val (v := kv (1, 0, true)) rfl rfl (by kernel_rfl) ⟨A, hI.put h0 (by simp [dv]) (by omega)⟩
    · cases ho
      obtain ⟨w2, r1, r2⟩ := hI.lay (i := 4) (x := ((1, 0, true), [77, 79, 86, 85])) h0 (by simp [rowsAt, c1, c2]) (hd 0 (by decide))
      exact wpOp_insert rfl rfl rfl rfl (hI.mp (hd 0 (by decide))).1 (hI.vs (3, 4, kv (1, 0, true)) (by simp [dv]) (hd 3 (by decide))) rfl r1 ⟨A, r2⟩
    · cases ho
      refine wpOp_val (v := kv (1, 8, true)) rfl rfl (by kernel_rfl) ⟨A, hI.put h0 (by simp [dv]) (by omega)⟩
    · cases ho
      obtain ⟨w2, r1, r2⟩ := hI.lay (i := 6) (x := ((1, 8, true), [65, 68, 67, 32, 83, 66, 67, 32, 77, 76, 85])) h0 (by simp [rowsAt, c1, c2]) (hd 0 (by decide))
      exact wpOp_insert rfl rfl rfl rfl (hI.mp (hd 0 (by decide))).1 (hI.vs (5, 5, kv (1, 8, true)) (by simp [dv]) (hd 5 (by decide))) rfl r1 ⟨A, r2⟩
    · cases ho
      refine wpOp_val (v := kv (3, 0, false)) rfl rfl (by kernel_rfl) ⟨A, hI.put h0 (by simp [dv]) (by omega)⟩
    · cases ho
      obtain ⟨w2, r1, r2⟩ := hI.lay (i := 8) (x := ((3, 0, false), [77, 79, 86, 72])) h0 (by simp [rowsAt, c1, c2]) (hd 0 (by decide))
      exact wpOp_insert rfl rfl rfl rfl (hI.mp (hd 0 (by decide))).1 (hI.vs (7, 6, kv (3, 0, false)) (by simp [dv]) (hd 7 (by decide))) rfl r1 ⟨A, r2⟩
    · cases ho
      refine wpOp_val (v := kv (4, 0, false)) rfl rfl (by kernel_rfl) ⟨A, hI.put h0 (by simp [dv]) (by omega)⟩
    · cases ho
      obtain ⟨w2, r1, r2⟩ := hI.lay (i := 10) (x := ((4, 0, false), [77, 79, 86, 70])) h0 (by simp [rowsAt, c1, c2]) (hd 0 (by decide))
      exact wpOp_insert rfl rfl rfl rfl (hI.mp (hd 0 (by decide))).1 (hI.vs (9, 7, kv (4, 0, false)) (by simp [dv]) (hd 9 (by decide))) rfl r1 ⟨A, r2⟩
    · cases ho
      refine wpOp_val (v := kv (5, 0, false)) rfl rfl (by kernel_rfl) ⟨A, hI.put h0 (by simp [dv]) (by omega)⟩
    · cases ho
      obtain ⟨w2, r1, r2⟩ := hI.lay (i := 12) (x := ((5, 0, false), [76, 68, 87, 32, 76, 68, 66, 32, 83, 84, 87, 32, 83, 84, 66])) h0 (by simp [rowsAt, c1, c2]) (hd 0 (by decide))
      exact wpOp_insert rfl rfl rfl rfl (hI.mp (hd 0 (by decide))).1 (hI.vs (11, 8, kv (5, 0, false)) (by simp [dv]) (hd 11 (by decide))) rfl r1 ⟨A, r2⟩
    · cases ho
      refine wpOp_val (v := kv (7, 0, false)) rfl rfl (by kernel_rfl) ⟨A, hI.put h0 (by simp [dv]) (by omega)⟩
    · cases ho
      refine wpOp_val (v := bs conds) rfl rfl (by simp [execOp, hI.t1]) ⟨A, hI.put h0 (by simp [dv]) (by omega)⟩
    · cases ho
      have e : a.eval (.tmp 10) = bs conds := hI.vs (14, 10, bs conds) (by simp [dv]) (hd 14 (by decide))
      refine wpOp_call (f := 232) (args := #[bs conds, bs [32], bs [32, 66]]) rfl rfl (run_call rfl rfl (by simp [e]; exact ⟨rfl, rfl⟩) (enters232 _ _)) ?_
      refine (Tryz.strings_ReplaceAll ⟨conds.toArray⟩ ⟨[32].toArray⟩ ⟨([32, 66] : List UInt8).toArray⟩ m w' (of_decide_eq_true (by kernel_rfl)) ((hI.bw.cell (World.block_lt_of_cell? _ _ hm)).trans hm) (of_decide_eq_true (by kernel_rfl)) (of_decide_eq_true (by kernel_rfl))).mono ?_
      rintro ee w2 ⟨rfl, hb⟩
      refine ⟨bs c1, ?_, A, (hI.grow hb).put h0 (by simp [dv]) (by omega)⟩
      show Ending.returned (.string ⟨(Lib.replaceAll conds [32] [32, 66]).toArray⟩) = _
      rw [rep1]
      rfl
    · cases ho
      have e : a.eval (.tmp 11) = bs c1 := hI.vs (15, 11, bs c1) (by simp [dv]) (hd 15 (by decide))
      refine wpOp_val (v := bs (66 :: c1)) rfl rfl (run_bin rfl rfl e (by kernel_rfl) (by kernel_rfl)) ⟨A, hI.put h0 (by simp [dv]) (by omega)⟩
    · cases ho
      obtain ⟨w2, r1, r2⟩ := hI.lay (i := 17) (x := ((7, 0, false), (66 :: c1))) h0 (by simp [rowsAt, c1, c2]) (hd 0 (by decide))
      exact wpOp_insert rfl rfl rfl rfl (hI.mp (hd 0 (by decide))).1 (hI.vs (13, 9, kv (7, 0, false)) (by simp [dv]) (hd 13 (by decide))) (hI.vs (16, 12, bs (66 :: c1)) (by simp [dv]) (hd 16 (by decide))) r1 ⟨A, r2⟩
    · cases ho
      refine wpOp_val (v := kv (7, 0, true)) rfl rfl (by kernel_rfl) ⟨A, hI.put h0 (by simp [dv]) (by omega)⟩
    · cases ho
      refine wpOp_val (v := bs conds) rfl rfl (by simp [execOp, hI.t1]) ⟨A, hI.put h0 (by simp [dv]) (by omega)⟩
    · cases ho
      have e : a.eval (.tmp 14) = bs conds := hI.vs (19, 14, bs conds) (by simp [dv]) (hd 19 (by decide))
      refine wpOp_call (f := 232) (args := #[bs conds, bs [32], bs [32, 66, 76]]) rfl rfl (run_call rfl rfl (by simp [e]; exact ⟨rfl, rfl⟩) (enters232 _ _)) ?_
      refine (Tryz.strings_ReplaceAll ⟨conds.toArray⟩ ⟨[32].toArray⟩ ⟨([32, 66, 76] : List UInt8).toArray⟩ m w' (of_decide_eq_true (by kernel_rfl)) ((hI.bw.cell (World.block_lt_of_cell? _ _ hm)).trans hm) (of_decide_eq_true (by kernel_rfl)) (of_decide_eq_true (by kernel_rfl))).mono ?_
      rintro ee w2 ⟨rfl, hb⟩
      refine ⟨bs c2, ?_, A, (hI.grow hb).put h0 (by simp [dv]) (by omega)⟩
      show Ending.returned (.string ⟨(Lib.replaceAll conds [32] [32, 66, 76]).toArray⟩) = _
      rw [rep2]
      rfl
    · cases ho
      have e : a.eval (.tmp 15) = bs c2 := hI.vs (20, 15, bs c2) (by simp [dv]) (hd 20 (by decide))
      refine wpOp_val (v := bs (66 :: 76 :: c2)) rfl rfl (run_bin rfl rfl e (by kernel_rfl) (by kernel_rfl)) ⟨A, hI.put h0 (by simp [dv]) (by omega)⟩
    · cases ho
      obtain ⟨w2, r1, r2⟩ := hI.lay (i := 22) (x := ((7, 0, true), (66 :: 76 :: c2))) h0 (by simp [rowsAt, c1, c2]) (hd 0 (by decide))
      exact wpOp_insert rfl rfl rfl rfl (hI.mp (hd 0 (by decide))).1 (hI.vs (18, 13, kv (7, 0, true)) (by simp [dv]) (hd 18 (by decide))) (hI.vs (21, 16, bs (66 :: 76 :: c2)) (by simp [dv]) (hd 21 (by decide))) r1 ⟨A, r2⟩
    · cases ho
      refine wpOp_val (v := kv (8, 0, false)) rfl rfl (by kernel_rfl) ⟨A, hI.put h0 (by simp [dv]) (by omega)⟩
    · cases ho
      obtain ⟨w2, r1, r2⟩ := hI.lay (i := 24) (x := ((8, 0, false), [76, 68, 76])) h0 (by simp [rowsAt, c1, c2]) (hd 0 (by decide))
      exact wpOp_insert rfl rfl rfl rfl (hI.mp (hd 0 (by decide))).1 (hI.vs (23, 17, kv (8, 0, false)) (by simp [dv]) (hd 23 (by decide))) rfl r1 ⟨A, r2⟩
    · cases ho
      refine wpOp_val (v := kv (9, 0, false)) rfl rfl (by kernel_rfl) ⟨A, hI.put h0 (by simp [dv]) (by omega)⟩
    · cases ho
      obtain ⟨w2, r1, r2⟩ := hI.lay (i := 26) (x := ((9, 0, false), [119, 111, 114, 100])) h0 (by simp [rowsAt, c1, c2]) (hd 0 (by decide))
      exact wpOp_insert rfl rfl rfl rfl (hI.mp (hd 0 (by decide))).1 (hI.vs (25, 18, kv (9, 0, false)) (by simp [dv]) (hd 25 (by decide))) rfl r1 ⟨A, r2⟩
    · cases ho
      refine wpOp_val (v := kv (10, 0, false)) rfl rfl (by kernel_rfl) ⟨A, hI.put h0 (by simp [dv]) (by omega)⟩
    · cases ho
      obtain ⟨w2, r1, r2⟩ := hI.lay (i := 28) (x := ((10, 0, false), [101, 120, 112, 111, 114, 116])) h0 (by simp [rowsAt, c1, c2]) (hd 0 (by decide))
      exact wpOp_insert rfl rfl rfl rfl (hI.mp (hd 0 (by decide))).1 (hI.vs (27, 19, kv (10, 0, false)) (by simp [dv]) (hd 27 (by decide))) rfl r1 ⟨A, r2⟩
    · cases ho
      have d0 := hd 0 (by decide)
      refine wpOp_val (v := .map (some A)) rfl rfl (by simp [execOp, (hI.mp d0).1]) ⟨A, hI.put h0 (by simp [dv]) (fun _ => d0)⟩
    · cases ho
      have d0 := hd 0 (by decide)
      have e : a.eval (.tmp 20) = .map (some A) := hI.vs (29, 20, .map (some A)) (by simp [dv]) (hd 29 (by decide))
      refine wpOp_val (v := .map (some A)) rfl rfl (by simp [execOp, e]) ⟨A, hI.put h0 (by simp [dv]) (fun _ => d0)⟩
  · refine ⟨by decide, by simp, ?_, rfl, (Below.refl _ _).drew, ?_, Nat.le_refl _, ?_, ?_⟩
    · rfl
    · intro i _ h
      rw [repF] at h; cases h
    · intro h
      rw [repF] at h; cases h
    · intro p _ h
      rw [repF] at h; cases h
end Go.Proofs.YtjmiaemabhlnjaaGreatDoor.Top
