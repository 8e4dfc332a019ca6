/-
  PoolOnce.
-/
import Derived.Test.YtdmofkmkleekbaaApp
import Derived.Test.YtdmofkmkleekbaaLaw
import Derived.Test.YtdmofkmkleekbaaSameD
namespace Go.Proofs.Ytdmofkmkleekbaa.Pool
open Go Go.RowKit
attribute [local go_sem high] eqVal

theorem few_allO {w0 : World} {A : Option Addr} {c : Nat} {l : List (Int × Int)} (h : Rd w0 A c l) (w : World) :
    Calls Try.prog 9 #[.slice A l.length c] w fun e w' => e = .returned (.slice A (l.take 30).length c) ∧ w' = w := by
  cases A with
  | none =>
    obtain ⟨rfl, rfl⟩ := h.nil rfl
    exact few_none w
  | some ad =>
    rw [List.length_take]
    exact few_some ad c w _ h.le
theorem ofL_lensO (l : List (Int × Int)) : (ofL l).1.length ≤ l.length ∧ (ofL l).2.length = l.length := by
  have := ofL_len l l.length (Nat.le_refl _)
  rwa [List.take_length] at this

set_option maxRecDepth 100000 in
set_option maxHeartbeats 8000000 in
theorem poolOnce_walk (A : Option Addr) (c : Nat) (l : List (Int × Int)) (p q : Int) (W : World) (hr : Rd W A c l) (_wp : (Lit.int .u32 p).wf = true) (_wq : (Lit.int .i64 q).wf = true) :
    Calls Try.prog 4 #[.slice A l.length c, .agg #[.int .u32 p, .int .i64 q]] W fun e w' => e = .returned (.bool true) ∧ Below W.heap.size W w' := by
  have fa := few_allO hr
  have rx := hr.take 30
  have lx : (l.take 30).length ≤ 30 := by simp; omega
  generalize l.take 30 = X at fa rx lx
  obtain ⟨na, hna⟩ : ∃ n, l.length = n := ⟨_, rfl⟩
  obtain ⟨nx, hnx⟩ : ∃ n, X.length = n := ⟨_, rfl⟩
  rw [hna, hnx] at fa
  rw [hnx] at lx
  rw [hna]
  have FA := Aside.mk fa
  have RX := Aside.mk rx
  have NX := Aside.mk hnx
  clear fa rx hnx hna hr
  obtain ⟨W1, hW1⟩ : ∃ W1, W1 = W.alloc (.cells #[.int .u32 p, .int .i64 q] 25) := ⟨_, rfl⟩
  have HWB : Aside (Bl W W1) := ⟨by rw [hW1]; exact (Bl.refl _).alloc _⟩
  have Q0 : Aside (W1.cell? ⟨W.heap.size, 0, none⟩ = some (.int .u32 p)) := ⟨by rw [hW1, World.cell?_alloc_at _ _ _ _ rfl]; rfl⟩
  have Q1 : Aside (W1.cell? ⟨W.heap.size, 1, none⟩ = some (.int .i64 q)) := ⟨by rw [hW1, World.cell?_alloc_at _ _ _ _ rfl]; rfl⟩
  have HW := Aside.mk hW1
  clear hW1
  go_enter Try.func4, Try.ntmps4
  go_wp2_with fail
  rw [← HW.out]
  refine (shown_any _).mono ?_
  rintro e w1 ⟨rfl, hb⟩
  have HB1 := Aside.mk hb
  clear hb
  go_wp2_with fail
  refine (FA.out _).mono ?_
  rintro e w2 ⟨rfl, rfl⟩
  go_wp2_with (at_builtin; refine holdp ?_)
  refine Hold.mk ?_
  have O0 := Aside.mk (own_made w1 25 2 w1.heap.size (Nat.le_refl _))
  have BA := Aside.mk ((Bl.refl w1).alloc (.cells #[] 25))
  have hsA := BA.out.out.size
  refine append_vals rfl (.tmp 20) (.tmp 22) rfl w1.heap.size _ 0 [] rfl O0.out A nx c X rfl NX.out ((RX.out.keep (HWB.out.trans HB1.out)).keep BA.out) (by omega) hsA ?_
  intro v2 w2 hown hg _
  have G2 := Aside.mk (HB1.out.trans (BA.out.grow hg (fun g e => (by obtain rfl : w1.heap.size = g := Option.some.inj e; exact Nat.le_refl _))))
  rw [List.nil_append, Nat.zero_add, ← NX.out] at hown
  obtain ⟨Aw, cw, hv, hrw, _⟩ := Rd.own hown
  rw [NX.out] at hv
  subst hv
  have RW := Aside.mk hrw
  clear hown hg hrw
  go_wp2_with fail
  have ho := of_any RW.out (by rw [NX.out]; omega)
  rw [NX.out] at ho
  refine ho.mono ?_
  rintro e w3 ⟨A3, c3, B3, d3, rfl, hr3, hi3, hb3⟩
  obtain ⟨n1, hn1⟩ : ∃ n, (ofL X).1.length = n := ⟨_, rfl⟩
  have hn2 : (ofL X).2.length = nx := (ofL_lensO X).2.trans NX.out
  have hle : n1 ≤ nx := by have := (ofL_lensO X).1; have := NX.out; omega
  rw [hn1, hn2]
  have N1 := Aside.mk hn1
  have N2 := Aside.mk hn2
  have ND : Aside ((ofL X).1.Nodup) := ⟨by have := ofL_nodup X X.length (Nat.le_refl _); rwa [List.take_length] at this⟩
  have R3 := Aside.mk hr3
  have I3 := Aside.mk hi3
  have G3 := Aside.mk (G2.out.trans hb3)
  have G23 := Aside.mk hb3
  have hn3 : ¬ (n1 : Int) > nx := by omega
  clear ho hr3 hi3 hb3 hn1 hn2
  go_wp2_with fail
  rw [show decide (nx < n1) = false by simp; omega]
  go_loopw [9, 10] (fun mo i wr => ∃ (k s : Nat) (mv : Int), i = .int .i64 k ∧ k ≤ nx ∧ mo = .int .i64 mv ∧ Aside (mv = s - 1 ∧ (ofL (X.take k)).1.length = s) ∧ Aside (Bl w3 wr)) (fun _ i _ => nx - (intOf i).toNat)
  case atStart => exact ⟨0, 0, -1, rfl, by omega, rfl, ⟨rfl, by simp [ofL]⟩, ⟨Bl.refl _⟩⟩
  case round =>
    obtain ⟨k, s, mv, rfl, hk, rfl, HS, HB⟩ := hrel
    by_cases hlt : k < nx
    · obtain ⟨⟨p1, q1⟩, hf⟩ : ∃ f, X[k]? = some f := ⟨_, List.getElem?_eq_getElem (by have := NX.out; omega)⟩
      obtain ⟨h1, h2⟩ := once_at hf
      obtain ⟨h3, h4⟩ := once_most hf
      rw [HS.out.2] at h3 h4
      generalize hj : (ofL (X.take k)).1.idxOf (p1, q1) = j at h1 h2 h3 h4
      obtain ⟨wd, rfl⟩ : ∃ ad, Aw = some ad := by
        cases Aw with
        | some ad => exact ⟨ad, rfl⟩
        | none => rw [(RW.out.nil rfl).1] at hf; simp at hf
      obtain ⟨ad, rfl⟩ : ∃ ad, A3 = some ad := by
        cases A3 with
        | some ad => exact ⟨ad, rfl⟩
        | none => rw [(R3.out.nil rfl).1] at h2; simp at h2
      obtain ⟨bd, rfl⟩ : ∃ ad, B3 = some ad := by
        cases B3 with
        | some ad => exact ⟨ad, rfl⟩
        | none => rw [I3.out.nil rfl] at h1; simp at h1
      have hwc : nx ≤ cw := by have := RW.out.le; have := NX.out; omega
      have hac : n1 ≤ c3 := by have := R3.out.le; have := N1.out; omega
      have hbc : nx ≤ d3 := by have := I3.out.le; have := N2.out; omega
      have hj1 : j < n1 := by have := (List.getElem?_eq_some_iff.1 h2).1; have := N1.out; omega
      have hmv := HS.out.1
      have hj0 : ¬ (j : Int) < 0 := by omega
      have hj2 : ¬ (n1 : Int) ≤ j := by omega
      have hj3 : ¬ mv + 1 < (j : Int) := by omega
      have hs30 : s ≤ 30 := by have := (ofL_len X k (by have := NX.out; omega)).1; have := HS.out.2; omega
      have hw1 : wrap64 (mv + 1) = mv + 1 := by unfold wrap64; omega
      have hw2 : IntKind.i64.wrap (mv + 1) = mv + 1 := by simp [IntKind.wrap, IntKind.bits, IntKind.signed]; omega
      obtain ⟨e0, e1⟩ := (RW.out.keep (G23.out.trans HB.out)).at hf
      obtain ⟨e2, e3⟩ := (R3.out.keep HB.out).at h2
      have e4 := (I3.out.keep HB.out).cells bd rfl k _ h1
      dsimp only at e0 e1 e2 e3
      have HM : Aside ((ofL (X.take (k + 1))).1.length = max s (j + 1)) := ⟨h3⟩
      clear h1 h2 h3 hf hj hmv
      go_wp2_with fail
      go_quiet (fail)
      generalize hK : World.drewN _ _ = Wc
      have HC : Aside (Bl w3 Wc) := ⟨by rw [← hK]; exact HB.out.dN _⟩
      have e5 : Wc.cell? (bd.add k) = some (.int .i64 j) := by rw [← hK, World.cell?_drewN]; exact e4
      clear hK e0 e1 e2 e3 e4
      by_cases hmx : mv < (j : Int)
      · have hmm : max mv (j : Int) = j := by omega
        go_wp2
        go_roundw
        case rel => exact ⟨k + 1, j + 1, j, by go_num, by omega, by first | rfl | (rw [hmm]) | (go_num), ⟨by omega, by rw [HM.out]; have := HS.out.1; omega⟩, HC⟩
        case measure => simp [intOf]; omega
      · have hmm : max mv (j : Int) = mv := by omega
        go_wp2
        go_roundw
        case rel => exact ⟨k + 1, s, mv, by go_num, by omega, by first | rfl | (rw [hmm]) | (go_num), ⟨HS.out.1, by rw [HM.out]; have := HS.out.1; omega⟩, HC⟩
        case measure => simp [intOf]; omega
    · have hkn : nx = k := by omega
      subst hkn
      have ht : X.take nx = X := List.take_of_length_le (by have := NX.out; omega)
      have hmv : mv = (n1 : Int) - 1 := by
        have h1 := HS.out.1
        have h2 := HS.out.2
        rw [ht, N1.out] at h2
        omega
      subst hmv
      clear ht HS
      go_wp2_with fail
      go_loopw [11] (fun i wr => ∃ (k2 : Nat), i = .int .i64 k2 ∧ k2 ≤ n1 ∧ Aside (Bl w3 wr)) (fun i _ => n1 - (intOf i).toNat)
      case atStart => exact ⟨0, rfl, by omega, HB⟩
      case round =>
        rename_i wr2 _
        obtain ⟨i2, rfl, hi2, HB2⟩ := hrel
        by_cases hlt2 : i2 < n1
        · obtain ⟨⟨p1, q1⟩, hf⟩ : ∃ f, (ofL X).1[i2]? = some f := ⟨_, List.getElem?_eq_getElem (by have := N1.out; omega)⟩
          have HF := Aside.mk hf
          obtain ⟨ad, rfl⟩ : ∃ ad, A3 = some ad := by
            cases A3 with
            | some ad => exact ⟨ad, rfl⟩
            | none => rw [(R3.out.nil rfl).1] at hf; simp at hf
          have hac : n1 ≤ c3 := by have := R3.out.le; have := N1.out; omega
          clear hf
          go_wp2_with fail
          go_loopw [12] (fun i wr => ∃ (k2 : Nat), i = .int .i64 k2 ∧ k2 ≤ i2 ∧ Aside (Bl w3 wr)) (fun i _ => i2 - (intOf i).toNat)
          case atStart => exact ⟨0, rfl, by omega, HB2⟩
          case round =>
            obtain ⟨m2, rfl, hm2, HB3⟩ := hrel
            by_cases hlt3 : m2 < i2
            · obtain ⟨⟨p2, q2⟩, hg⟩ : ∃ f, (ofL X).1[m2]? = some f := ⟨_, List.getElem?_eq_getElem (by have := N1.out; omega)⟩
              have heq := nodup_ne ND.out HF.out hg hlt3
              dsimp only at heq
              have qf : (p1 == p2 && (q1 == q2)) = false := by
                rw [Bool.eq_false_iff]
                intro h
                simp at h
                exact heq h
              obtain ⟨e0, e1⟩ := (R3.out.keep HB3.out).at HF.out
              obtain ⟨e2, e3⟩ := (R3.out.keep HB3.out).at hg
              dsimp only at e0 e1 e2 e3
              clear hg heq
              go_wp2_with fail
              go_quiet (fail)
              generalize hK : World.drewN _ _ = Wc
              have HC : Aside (Bl w3 Wc) := ⟨by rw [← hK]; exact HB3.out.dN _⟩
              clear hK e0 e1 e2 e3
              go_wp2
              go_roundw
              case rel => first | exact ⟨m2 + 1, by go_num, by omega, HC⟩ | ((repeat apply Exists.intro); refine ⟨?_, rfl⟩; exact ⟨m2 + 1, by go_num, by omega, HC⟩)
              case measure => simp [intOf]; omega
            · have hm : m2 = i2 := by omega
              subst hm
              go_wp2_with fail
              go_roundw
              case rel => first | exact ⟨m2 + 1, by go_num, by omega, HB3⟩ | ((repeat apply Exists.intro); refine ⟨?_, rfl⟩; exact ⟨m2 + 1, by go_num, by omega, HB3⟩)
              case measure => simp [intOf]; omega
        · have hi : n1 = i2 := by omega
          subst hi
          go_wp2_with fail
          have ho := of_any (R3.out.keep HB2.out) (by rw [N1.out]; omega)
          rw [N1.out] at ho
          refine ho.mono ?_
          rintro e w5 ⟨A5, c5, B5, d5, rfl, hr5, hi5, hb5⟩
          have hself : (ofL (ofL X).1).1 = (ofL X).1 := by
            have := ofL_self ND.out (ofL X).1.length (Nat.le_refl _)
            rwa [List.take_length] at this
          have hl5 : (ofL (ofL X).1).2.length = n1 := (ofL_lensO _).2.trans N1.out
          rw [hself] at hr5 ⊢
          rw [N1.out, hl5]
          have R5 := Aside.mk hr5
          have G5 := Aside.mk ((G3.out.trans HB2.out).trans hb5)
          have G35 := Aside.mk (HB2.out.trans hb5)
          have b0 := G5.out.cell Q0.out
          have b1 := G5.out.cell Q1.out
          clear ho hr5 hi5 hb5 hself hl5
          go_wp2_with fail
          have hadd := add_any (R3.out.keep G35.out) (by rw [N1.out]; omega) p q
          rw [N1.out] at hadd
          refine hadd.mono ?_
          rintro e w6 ⟨A6, c6, rfl, hr6, hb6, _⟩
          obtain ⟨h61, h62⟩ := addL_length (ofL X).1 (p, q)
          have h63 := addL_idx (ofL X).1 (p, q)
          obtain ⟨h64, h65⟩ := addL_again (ofL X).1 (p, q)
          obtain ⟨n6, hn6⟩ : ∃ n, (addL (ofL X).1 (p, q)).length = n := ⟨_, rfl⟩
          obtain ⟨j6, hj6⟩ : ∃ n, (ofL X).1.idxOf (p, q) = n := ⟨_, rfl⟩
          rw [hn6, hj6, N1.out] at h61
          rw [hj6] at h63 h65
          rw [hj6, N1.out] at h62
          rw [hn6, hj6]
          have N6 := Aside.mk hn6
          have R6 := Aside.mk hr6
          have H63 := Aside.mk h63
          have H64 := Aside.mk h64
          have H65 := Aside.mk h65
          have G6 := Aside.mk (G5.out.trans hb6)
          have G56 := Aside.mk hb6
          have b0 := G6.out.cell Q0.out
          have b1 := G6.out.cell Q1.out
          have hj61 : j6 < n6 := by omega
          have hn6l : n6 ≤ 31 := by omega
          clear hadd hr6 hb6 hn6 hj6 h61 h62 h63 h64 h65
          go_wp2_with fail
          have hadd := add_any R6.out (by rw [N6.out]; omega) p q
          rw [N6.out] at hadd
          refine hadd.mono ?_
          rintro e w7 ⟨A7, c7, rfl, hr7, hb7, _⟩
          rw [H64.out] at hr7 ⊢
          rw [H65.out, N6.out]
          have R7 := Aside.mk hr7
          have G7 := Aside.mk (G6.out.trans hb7)
          have G67 := Aside.mk hb7
          clear hadd hr7 hb7 b0 b1
          obtain ⟨ed, rfl⟩ : ∃ ad, A6 = some ad := by
            cases A6 with
            | some ad => exact ⟨ad, rfl⟩
            | none =>
              have := H63.out
              rw [(R6.out.nil rfl).1] at this
              simp at this
          have hnc6 : n6 ≤ c6 := by have := R6.out.le; have := N6.out; omega
          have hj60 : ¬ (j6 : Int) < 0 := by omega
          have hj62 : ¬ (n6 : Int) ≤ j6 := by omega
          have hwA : wrap64 ((n1 : Int) - 1) = (n1 : Int) - 1 := by unfold wrap64; omega
          have hwB : IntKind.i64.wrap ((n1 : Int) - 1) = (n1 : Int) - 1 := by simp [IntKind.wrap, IntKind.bits, IntKind.signed]; omega
          have b0 := G7.out.cell Q0.out
          have b1 := G7.out.cell Q1.out
          obtain ⟨e0, e1⟩ := (R6.out.keep G67.out).at H63.out
          dsimp only at e0 e1
          have S1 : Aside (∀ m, Calls Try.prog 13 #[.slice A5 n1 c5, .slice A3 n1 c3] (w7.drewN m) fun e w' => e = .returned (.bool true) ∧ ∃ k, w' = (w7.drewN m).drewN k) := ⟨fun m => by
            have := same_d (w := w7.drewN m) ⟨((R5.out.keep G56.out).keep G67.out).keep ((Bl.refl w7).dN m)⟩ ⟨(((R3.out.keep G35.out).keep G56.out).keep G67.out).keep ((Bl.refl w7).dN m)⟩ n1 n1 N1 N1 (by omega)
            rwa [beq_self_eq_true] at this⟩
          have S2 : Aside (∀ m, Calls Try.prog 13 #[.slice A7 n6 c7, .slice (some ed) n6 c6] (w7.drewN m) fun e w' => e = .returned (.bool true) ∧ ∃ k, w' = (w7.drewN m).drewN k) := ⟨fun m => by
            have := same_d (w := w7.drewN m) ⟨R7.out.keep ((Bl.refl w7).dN m)⟩ ⟨(R6.out.keep G67.out).keep ((Bl.refl w7).dN m)⟩ n6 n6 N6 N6 (by omega)
            rwa [beq_self_eq_true] at this⟩
          have S3 : Aside (∀ m, Calls Try.prog 13 #[.slice Aw nx cw, .slice A nx c] (w7.drewN m) fun e w' => e = .returned (.bool true) ∧ ∃ k, w' = (w7.drewN m).drewN k) := ⟨fun m => by
            have := same_d (w := w7.drewN m) ⟨(((RW.out.keep (G23.out.trans G35.out)).keep G56.out).keep G67.out).keep ((Bl.refl w7).dN m)⟩ ⟨(RX.out.keep (HWB.out.trans G7.out)).keep ((Bl.refl w7).dN m)⟩ nx nx NX NX (by omega)
            rwa [beq_self_eq_true] at this⟩
          go_wp2_with fail
          go_quiet ((first | (go_at_call 13; (with_reducible refine Calls.quiet_of (S1.out _))) | (go_at_call 13; (with_reducible refine Calls.quiet_of (S2.out _))) | (go_at_call 13; (with_reducible refine Calls.quiet_of (S3.out _))) | (go_at_call 9; (with_reducible refine Calls.quiet_of_same (FA.out _)))))
          go_wp2
          go_ret
          exact ⟨rfl, ((HWB.out.trans G7.out).dN _).out⟩
end Go.Proofs.Ytdmofkmkleekbaa.Pool
