/-
  The reference's Add.
-/
import Derived.Test.YtdmofkmkleekbaaApp
namespace Go.Proofs.Ytdmofkmkleekbaa.Pool
open Go Go.RowKit
attribute [local go_sem high] eqVal
theorem run_vals (ty : TypeId) (w : World) (base : Nat) (v : Value) (n : Nat) (l : List (Int × Int)) (hown : w.ownsRow base 25 2 v n (flat l))
    (B : Option Addr) (m c : Nat) (xs : List (Int × Int)) (hm : xs.length = m) (hr : Rd w B c xs) (h63 : n + m ≤ 1001) (hbase : base ≤ w.heap.size) :
    ∃ v' w', (Builtin.append_ #[22, 22] ty #[v, .slice B m c]).run Try.prog w = .ok v' w' ∧ w'.ownsRow base 25 2 v' (n + m) (flat (l ++ xs)) ∧ w.grownBy w' v.ownBlock ∧ (v'.ownBlock = v.ownBlock ∨ v'.ownBlock = some w.heap.size) := by
  obtain ⟨i0, hi, hz0, hz1, hz2⟩ := info_parts infoV
  cases B with
  | none =>
    obtain ⟨rfl, rfl⟩ := hr.nil rfl
    have hm0 : m = 0 := by simpa using hm.symm
    subst hm0
    obtain ⟨A, cc, rfl, hnc⟩ : ∃ A cc, v = .slice A n cc ∧ n ≤ cc := by
      rcases hown.2 with ⟨rfl, rfl⟩ | ⟨g, cap, cur, rfl, _, _, hnc, _⟩
      · exact ⟨_, _, rfl, Nat.le_refl _⟩
      · exact ⟨_, _, rfl, hnc⟩
    exact ⟨_, w, append_none (P := Try.prog) 22 ty 25 i0 Try.underlying22 hi A n cc 0 w hnc, by simpa using hown, ⟨rfl, rfl, rfl, Nat.le_refl _, fun _ _ _ => rfl⟩, .inl rfl⟩
  | some ad =>
    subst hm
    obtain ⟨v', w', hrun, h1, h2, _, h4⟩ := run_append_own_at (P := Try.prog) w base 22 ty 25 i0 (.agg #[.int .u32 0, .int .i64 0]) 2 16 Try.underlying22 hi hz0 hz1 hz2 rfl (by decide) v n (flat l) hown ad xs.length c (flat xs) (flat_len xs) (fun j u hj => hr.cells ad rfl j u hj) (flat_one xs) (by unfold maxLen; omega) (by omega) hbase
    exact ⟨v', w', hrun, by rw [flat_append]; exact h1, h2, h4⟩
/-- As one step of a region that draws its order. -/
theorem step_vals {ops : Array Oper} {o : Oper} {a : Act} {w : World} {K : Act → World → Prop} {Q : Exit → Act → World → Prop} {E : Prop} (s x : Operand)
    (base : Nat) (v : Value) (n : Nat) (l : List (Int × Int)) (hown : w.ownsRow base 25 2 v n (flat l))
    (B : Option Addr) (m c : Nat) (xs : List (Int × Int)) (hm : xs.length = m) (hr : Rd w B c xs) (h63 : n + m ≤ 1001) (hbase : base ≤ w.heap.size)
    (hg : o.guard = none) (hop : o.op = .call { callee := .builtin .append, args := #[s, x], argTypes := #[22, 22] }) (hs : a.eval s = v) (hx : a.eval x = .slice B m c)
    (hK : ∀ v' w', w'.ownsRow base 25 2 v' (n + m) (flat (l ++ xs)) → w.grownBy w' v.ownBlock → K (a.put o.dst v') w') :
    if Region.wanted o (yielded ops a.tmps) = true then Oper.wp Try.prog o a w K Q else E := by
  have hw : Region.wanted o (yielded ops a.tmps) = true := by simp [Region.wanted, hg]
  rw [if_pos hw]
  obtain ⟨v', w', hrun, h1, h2, _⟩ := run_vals o.type w base v n l hown B m c xs hm hr h63 hbase
  unfold Oper.wp
  simp [execOp, hop, resolve, invoke, builtin, hs, hx, hrun, Result.andThen]
  exact hK v' w' h1 h2
theorem rd_grown {w w' : World} {g : Nat} {l : List (Int × Int)} {c : Nat} {row : Option Nat} (h : Rd w (some ⟨g, 0, none⟩) c l) (hg : w.grownBy w' row) (hne : some g ≠ row) : Rd w' (some ⟨g, 0, none⟩) c l :=
  ⟨h.le, h.mx, h.nil, fun ad ha j u hj => (by
    have e := h.cells ad ha j u hj
    obtain rfl := Option.some.inj ha
    exact hg.cell e (by rw [add_block]; exact hne))⟩
theorem keepR {wr w' : World} {g : Nat} {x y : Int} (b0 : wr.cell? ⟨g, 0, none⟩ = some (.int .u32 x)) (b1 : wr.cell? ⟨g, 1, none⟩ = some (.int .i64 y)) (h : Bl wr w') : Bl wr w' ∧ w'.cell? ⟨g, 0, none⟩ = some (.int .u32 x) ∧ w'.cell? ⟨g, 1, none⟩ = some (.int .i64 y) :=
  ⟨h, h.cell b0, h.cell b1⟩
set_option maxHeartbeats 4000000 in
theorem radd_any {w : World} {A : Option Addr} {c : Nat} {l : List (Int × Int)} (n : Nat) (hl : Aside (l.length = n)) (hr : Aside (Rd w A c l)) (hn : n ≤ 1000) (x y : Int) :
    Calls Try.prog 10 #[.slice A n c, .agg #[.int .u32 x, .int .i64 y]] w (AddPost w A l (x, y)) := by
  obtain ⟨W1, hW1⟩ : ∃ W1, W1 = w.alloc (.cells #[.int .u32 x, .int .i64 y] 25) := ⟨_, rfl⟩
  have HWB : Aside (Bl w W1) := ⟨by rw [hW1]; exact (Bl.refl _).alloc _⟩
  have Q0 : Aside (W1.cell? ⟨w.heap.size, 0, none⟩ = some (.int .u32 x)) := ⟨by rw [hW1, World.cell?_alloc_at _ _ _ _ rfl]; rfl⟩
  have Q1 : Aside (W1.cell? ⟨w.heap.size, 1, none⟩ = some (.int .i64 y)) := ⟨by rw [hW1, World.cell?_alloc_at _ _ _ _ rfl]; rfl⟩
  have HW := Aside.mk hW1
  clear hW1
  go_enter Try.func10, Try.ntmps10
  go_wp2_with fail
  rw [← HW.out]
  go_loopw [6] (fun i wr => ∃ k : Nat, i = .int .i64 k ∧ k ≤ n ∧ Aside ((x, y) ∉ l.take k) ∧ Aside (Bl W1 wr)) (fun i _ => n - (intOf i).toNat)
  case atStart => exact ⟨0, rfl, by omega, ⟨by simp⟩, ⟨Bl.refl _⟩⟩
  case round =>
    obtain ⟨k, rfl, hk, HN, HB⟩ := hrel
    have b0 := HB.out.cell Q0.out
    have b1 := HB.out.cell Q1.out
    have hws : w.heap.size < wr.heap.size := World.block_lt_of_cell? wr _ b0
    have RL : Aside (Rd wr A c l) := ⟨(hr.out.keep HWB.out).keep HB.out⟩
    by_cases hlt : k < n
    · obtain ⟨⟨p, q⟩, hf⟩ : ∃ f, l[k]? = some f := ⟨_, List.getElem?_eq_getElem (by have := hl.out; omega)⟩
      obtain ⟨ad, rfl⟩ : ∃ ad, A = some ad := by
        cases A with
        | some ad => exact ⟨ad, rfl⟩
        | none => rw [(RL.out.nil rfl).1] at hf; simp at hf
      have hnc : n ≤ c := by have := RL.out.le; have := hl.out; omega
      obtain ⟨e0, e1⟩ := RL.out.at hf
      have HF := Aside.mk hf
      clear hf
      dsimp only at e0 e1
      by_cases heq : p = x ∧ q = y
      · obtain ⟨rfl, rfl⟩ := heq
        have HH := Aside.mk (hit_idx HF.out HN.out)
        go_wp2_with fail
        go_quiet (fail)
        generalize hK : World.drewN _ _ = Wc
        have HC : Aside (Bl wr Wc) := ⟨by rw [← hK]; exact (Bl.refl wr).dN _⟩
        clear hK
        go_wp2
        go_ret2
        refine ⟨some ad, c, ?_, by rw [HH.out.2]; exact RL.out.keep HC.out, (HWB.out.trans HB.out).trans HC.out, Or.inl rfl⟩
        rw [HH.out.1, HH.out.2, hl.out]
        rfl
      · have qf : (p == x && (q == y)) = false := by
          rw [Bool.eq_false_iff]
          intro h
          simp at h
          exact heq h
        have HE := Aside.mk heq
        clear heq
        go_wp2_with fail
        go_quiet (fail)
        generalize hK : World.drewN _ _ = Wc
        have HC : Aside (Bl W1 Wc) := ⟨by rw [← hK]; exact HB.out.dN _⟩
        clear hK
        go_wp2
        go_roundw
        case rel => exact ⟨k + 1, by go_num, by omega, ⟨not_take_succ HF.out HN.out HE.out⟩, HC⟩
        case measure => simp [intOf]; omega
    · have hkn : k = n := by omega
      subst hkn
      have hno : (x, y) ∉ l := by
        have := HN.out
        rwa [List.take_of_length_le (by have := hl.out; omega)] at this
      have HI := Aside.mk (new_idx hno)
      clear hno
      go_wp2_with fail
      have BR : Bl wr wr := Bl.refl _
      have BE : Aside (Bl wr (wr.alloc (.cells #[] 25))) := ⟨BR.alloc _⟩
      have BX : Aside (Bl wr (wr.alloc (.cells #[.int .u32 x, .int .i64 y] 25))) := ⟨BR.alloc _⟩
      have OE : Aside ((wr.alloc (.cells #[] 25)).ownsRow wr.heap.size 25 2 (.slice (some ⟨wr.heap.size, 0, none⟩) 0 0) 0 (flat [])) := ⟨own_made wr _ 2 _ (Nat.le_refl _)⟩
      have OC : Aside (((wr.alloc (.cells #[.int .u32 x, .int .i64 y] 25)).alloc (.cells #[] 25)).ownsRow wr.heap.size 25 2 (.slice (some ⟨wr.heap.size + 1, 0, none⟩) 0 0) 0 (flat [])) := ⟨rfl, .inr ⟨wr.heap.size + 1, 0, #[], rfl, by omega, by simpa using heap_alloc_new (wr.alloc (.cells #[.int .u32 x, .int .i64 y] 25)) (.cells #[] 25), Nat.le_refl _, by decide, rfl, rfl⟩⟩
      have RC : Aside (Rd ((wr.alloc (.cells #[.int .u32 x, .int .i64 y] 25)).alloc (.cells #[] 25)).drew (some ⟨wr.heap.size, 0, none⟩) 1 [(x, y)]) := ⟨(rd_new wr [(x, y)] 25 (by simp) _ rfl).keep ((Bl.alloc (Bl.refl _) _).drew)⟩
      have RB : Aside (Rd ((wr.alloc (.cells #[] 25)).alloc (.cells #[.int .u32 x, .int .i64 y] 25)).drew (some ⟨wr.heap.size + 1, 0, none⟩) 1 [(x, y)]) := ⟨(by
        have h := rd_new (wr.alloc (.cells #[] 25)) [(x, y)] 25 (by simp) _ rfl
        have e : (wr.alloc (.cells #[] 25)).heap.size = wr.heap.size + 1 := by simp
        rw [e] at h
        exact h.keep (Bl.drew (Bl.refl _)))⟩
      have h0k : 0 + k ≤ 1001 := by omega
      have h1k : 0 + k + 1 ≤ 1001 := by omega
      go_region_held3 (fun w' => Bl wr w' ∧ w'.cell? ⟨w.heap.size, 0, none⟩ = some (.int .u32 x) ∧ w'.cell? ⟨w.heap.size, 1, none⟩ = some (.int .i64 y)) (((refine keepR b0 b1 ?_); (repeat (first | (with_reducible assumption) | refine Bl.drew ?_ | refine Bl.alloc ?_ _)); done)) (first | (refine step_vals (.tmp 21) (.tmp 22) wr.heap.size (.slice (some ⟨wr.heap.size, 0, none⟩) 0 0) 0 [] OE.out.drew A k c l hl.out (RL.out.keep (Bl.drew BE.out)) h0k (Bl.drew BE.out).out.size ?_ ?_ ?_ ?_ ?_; rfl; rfl; rfl; rfl; intro v2 w2 hown2 hgrow2; have hG2 : Bl wr w2 := (Bl.drew BE.out).grow hgrow2 (fun g e => (by obtain rfl : wr.heap.size = g := Option.some.inj e; omega))) | (refine step_vals (.tmp 21) (.tmp 22) wr.heap.size (.slice (some ⟨wr.heap.size, 0, none⟩) 0 0) 0 [] (OE.out.alloc (.cells #[.int .u32 x, .int .i64 y] 25)).drew A k c l hl.out (RL.out.keep (Bl.drew (Bl.alloc BE.out (.cells #[.int .u32 x, .int .i64 y] 25)))) h0k (Bl.drew (Bl.alloc BE.out (.cells #[.int .u32 x, .int .i64 y] 25))).out.size ?_ ?_ ?_ ?_ ?_; rfl; rfl; rfl; rfl; intro v2 w2 hown2 hgrow2; have hG2 : Bl wr w2 := (Bl.drew (Bl.alloc BE.out (.cells #[.int .u32 x, .int .i64 y] 25))).grow hgrow2 (fun g e => (by obtain rfl : wr.heap.size = g := Option.some.inj e; omega)); have RXY := rd_grown RB.out hgrow2 (fun e => (by have := Option.some.inj e; simp at this))) | (refine step_vals (.tmp 21) (.tmp 22) wr.heap.size (.slice (some ⟨(wr.heap.size + 1), 0, none⟩) 0 0) 0 [] OC.out.drew A k c l hl.out (RL.out.keep (Bl.drew (Bl.alloc BX.out (.cells #[] 25)))) h0k (Bl.drew (Bl.alloc BX.out (.cells #[] 25))).out.size ?_ ?_ ?_ ?_ ?_; rfl; rfl; rfl; rfl; intro v2 w2 hown2 hgrow2; have hG2 : Bl wr w2 := (Bl.drew (Bl.alloc BX.out (.cells #[] 25))).grow hgrow2 (fun g e => (by obtain rfl : (wr.heap.size + 1) = g := Option.some.inj e; omega)); have RXY := rd_grown RC.out hgrow2 (fun e => (by have := Option.some.inj e; simp at this))) | (refine step_vals (.tmp 23) (.tmp 25) wr.heap.size v2 (0 + k) ([] ++ l) (hown2.alloc _) (some ⟨w2.heap.size, 0, none⟩) 1 1 [(x, y)] rfl (rd_new w2 [(x, y)] 25 (by simp) _ rfl) h1k (hG2.alloc (.cells #[.int .u32 x, .int .i64 y] 25)).out.size ?_ ?_ ?_ ?_ ?_; rfl; rfl; rfl; rfl; intro v3 w3 hown3 hgrow3; have hG3 : Bl wr w3 := (hG2.alloc (.cells #[.int .u32 x, .int .i64 y] 25)).grow hgrow3 (fun g e => (hown2.lt g e).1)) | (refine step_vals (.tmp 23) (.tmp 25) wr.heap.size v2 (0 + k) ([] ++ l) hown2 (some ⟨(wr.heap.size + 1), 0, none⟩) 1 1 [(x, y)] rfl RXY h1k hG2.out.size ?_ ?_ ?_ ?_ ?_; rfl; rfl; rfl; rfl; intro v3 w3 hown3 hgrow3; have hG3 : Bl wr w3 := hG2.grow hgrow3 (fun g e => (hown2.lt g e).1)) | (refine step_vals (.tmp 23) (.tmp 25) wr.heap.size v2 (0 + k) ([] ++ l) hown2 (some ⟨wr.heap.size, 0, none⟩) 1 1 [(x, y)] rfl RXY h1k hG2.out.size ?_ ?_ ?_ ?_ ?_; rfl; rfl; rfl; rfl; intro v3 w3 hown3 hgrow3; have hG3 : Bl wr w3 := hG2.grow hgrow3 (fun g e => (hown2.lt g e).1)) | (fail "none"))
      all_goals
        rw [List.nil_append, Nat.zero_add] at hown3
        have hL : (l ++ [(x, y)]).length = k + 1 := by simp [hl.out]
        rw [← hL] at hown3
        obtain ⟨A3, c3, hv, hrd, hfr⟩ := Rd.own hown3
        rw [hL] at hv
        subst hv
        have HR3 := Aside.mk hrd
        have HFR := Aside.mk hfr
        have HG := Aside.mk hG3
        clear hown3 hgrow3 hrd hfr hG3
        go_wp2
        go_ret2
        refine ⟨A3, c3, ?_, by rw [HI.out.2]; exact HR3.out, (HWB.out.trans HB.out).trans HG.out, Or.inr fun ad h => (by have := HFR.out ad h; have := hws; omega)⟩
        rw [HI.out.1, HI.out.2, hL, hl.out]
        rfl
theorem OfInv.start2 (w : World) (l : List (Int × Int)) : OfInv w ((w.alloc (.cells #[] 25)).alloc (.cells #[] 3)) l 0 (some ⟨w.heap.size, 0, none⟩) 0 (.slice (some ⟨w.heap.size + 1, 0, none⟩) 0 0) :=
  ⟨⟨by simp [ofL], by decide, fun h => (by cases h), fun ad _ j u hj => (by simp [ofL, flat] at hj)⟩, ⟨rfl, .inr ⟨w.heap.size + 1, 0, #[], rfl, by omega, by simpa using heap_alloc_new (w.alloc (.cells #[] 25)) (.cells #[] 3), Nat.le_refl _, by decide, rfl, rfl⟩⟩,
    fun ad h => (by obtain rfl := Option.some.inj h; intro e; have := Option.some.inj e; simp at this), fun ad h => (by obtain rfl := Option.some.inj h; simp; omega), ((Bl.refl w).alloc _).alloc _⟩
set_option maxHeartbeats 4000000 in
theorem rof_any {w : World} {A0 : Option Addr} {c : Nat} {l : List (Int × Int)} (n : Nat) (hl : Aside (l.length = n)) (hr : Aside (Rd w A0 c l)) (hn : n ≤ 900) :
    Calls Try.prog 12 #[.slice A0 n c] w (OfPost w l) := by
  obtain ⟨i0, hi, hz0, hz1, hz2⟩ := info_parts infoI
  have HI0 := Aside.mk hi
  have HZ0 := Aside.mk hz0
  have HZ1 := Aside.mk hz1
  have HZ2 := Aside.mk hz2
  clear hi hz0 hz1 hz2
  go_enter Try.func12, Try.ntmps12
  go_wp2_with fail
  go_loopw [4, 5, 6] (fun al at_ i wr => ∃ (k m : Nat) (A : Option Addr) (c1 : Nat), i = .int .i64 k ∧ k ≤ n ∧ al = .slice A m c1 ∧ Aside ((ofL (l.take k)).1.length = m) ∧ Aside (OfInv w wr l k A c1 at_)) (fun _ _ i _ => n - (intOf i).toNat)
  case atStart => exact ⟨0, 0, _, 0, rfl, by omega, rfl, ⟨by simp [ofL]⟩, ⟨OfInv.start2 w l⟩⟩
  case round =>
    obtain ⟨k, m, A, c1, rfl, hk, rfl, HM, HI⟩ := hrel
    by_cases hlt : k < n
    · obtain ⟨⟨p, q⟩, hf⟩ : ∃ f, l[k]? = some f := ⟨_, List.getElem?_eq_getElem (by have := hl.out; omega)⟩
      obtain ⟨ad, rfl⟩ : ∃ ad, A0 = some ad := by
        cases A0 with
        | some ad => exact ⟨ad, rfl⟩
        | none => rw [(hr.out.nil rfl).1] at hf; simp at hf
      have hnc : n ≤ c := by have := hr.out.le; have := hl.out; omega
      obtain ⟨e0, e1⟩ := (hr.out.keep HI.out.bl).at hf
      have HF := Aside.mk hf
      clear hf
      dsimp only at e0 e1
      have hcap : m ≤ 1000 := by
        have := ofL_len l k (by have := hl.out; omega)
        have := HM.out
        omega
      go_wp2_with fail
      have HAdd := Aside.mk (radd_any m HM ⟨HI.out.rd⟩ hcap p q)
      refine HAdd.out.mono ?_
      rintro e w1 ⟨A2, c2, rfl, hr2, hb2, hf2⟩
      have HR2 := Aside.mk hr2
      have HB2 := Aside.mk hb2
      have HF2 := Aside.mk hf2
      clear hr2 hb2 hf2
      obtain ⟨m2, hm2⟩ : ∃ m2, (addL (ofL (l.take k)).1 (p, q)).length = m2 := ⟨_, rfl⟩
      obtain ⟨ix, hix⟩ : ∃ ix : Int, ((ofL (l.take k)).1.idxOf (p, q) : Int) = ix := ⟨_, rfl⟩
      rw [hm2, hix]
      have HM2 := Aside.mk hm2
      have HIX := Aside.mk hix
      clear hm2 hix
      have HO1 := Aside.mk (own_bl HI.out.own HB2.out)
      have hsz : w.heap.size ≤ w1.heap.size := (HI.out.bl.trans HB2.out).out.size
      go_wp2_with (at_builtin; refine holdp ?_)
      refine Hold.mk ?_
      refine wpList_append_own_at _ rfl (.tmp 25) (.tmp 27) 30 rfl w.heap.size 3 i0 (.int .i64 0) 1 8 Try.underlying30 HI0.out HZ0.out HZ1.out HZ2.out rfl (by decide) u5 k _ rfl (HO1.out.alloc _) ⟨w1.heap.size, 0, none⟩ 1 1 [.int .i64 ix] rfl rfl (newsI w1 ix 3) (newsI1 ix) (by unfold maxLen; omega) (by omega) (by simp; omega) ?_
      intro v' w2 hown hgrow _ hloc
      have HS := Aside.mk (OfInv.step HI.out HF.out (Bl.refl wr) HR2.out HB2.out HF2.out (by rw [HIX.out]; exact hown) hgrow hloc)
      clear hown hgrow hloc
      go_wp2_with fail
      go_roundw
      case rel => exact ⟨k + 1, m2, A2, c2, by go_num, by omega, rfl, ⟨by rw [ofL_step l HF.out]; exact HM2.out⟩, HS⟩
      case measure => simp [intOf]; omega
    · have hkn : k = n := by omega
      subst hkn
      have hof : l.take k = l := List.take_of_length_le (by have := hl.out; omega)
      have HO := Aside.mk HI.out.own
      have HR := Aside.mk HI.out.rd
      have hB := HI.out.bl
      have HM2 := Aside.mk HM.out
      rw [hof] at HO HR HM2
      have hlen : (ofL l).2.length = k := by
        have := (ofL_len l k (by have := hl.out; omega)).2
        rwa [hof] at this
      have ho := HO.out
      rw [← hlen] at ho
      obtain ⟨B, d, hv, hrdi⟩ := RdI.own ho
      rw [hlen] at hv
      subst hv
      have HB := Aside.mk hB
      have HRD := Aside.mk hrdi
      have HL := Aside.mk hlen
      clear hB hrdi hlen ho hof
      go_wp2
      go_ret2
      refine ⟨A, c1, B, d, ?_, HR.out, HRD.out, HB.out⟩
      rw [HM2.out, HL.out]
      rfl
end Go.Proofs.Ytdmofkmkleekbaa.Pool
