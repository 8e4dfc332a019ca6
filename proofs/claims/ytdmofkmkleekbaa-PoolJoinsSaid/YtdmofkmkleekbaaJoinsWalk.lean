/-
  PoolJoins.
-/
import Derived.Test.YtdmofkmkleekbaaApp
namespace Go.Proofs.Ytdmofkmkleekbaa.Pool
open Go Go.RowKit

theorem ofL_add (l : List (Int × Int)) (x : Int × Int) : ofL (l ++ [x]) = (addL (ofL l).1 x, (ofL l).2 ++ [((ofL l).1.idxOf x : Int)]) := by
  unfold ofL
  rw [List.foldl_append]
  rfl
theorem ofL_lens (l : List (Int × Int)) : (ofL l).1.length ≤ l.length ∧ (ofL l).2.length = l.length := by
  have := ofL_len l l.length (Nat.le_refl _)
  rwa [List.take_length] at this
theorem take_next {l : List (Int × Int)} {k : Nat} {x : Int × Int} (h : l[k]? = some x) : l.take (k + 1) = l.take k ++ [x] := by
  have hk : k < l.length := (List.getElem?_eq_some_iff.1 h).1
  have e : l[k] = x := (List.getElem?_eq_some_iff.1 h).2
  rw [List.take_succ_eq_append_getElem hk, e]
/-- What holds after k rounds. -/
structure JInv (W0 wr : World) (z : List (Int × Int)) (L : Option Addr) (cl : Nat) (P : Option Addr) (cp : Nat) : Prop where
  rd : Rd wr L cl (ofL z).1
  ri : RdI wr P cp (ofL z).2
  bl : Bl W0 wr

set_option maxRecDepth 100000 in
set_option maxHeartbeats 8000000 in
theorem poolJoins_walk (A : Option Addr) (ca : Nat) (la : List (Int × Int)) (B : Option Addr) (cb : Nat) (lb : List (Int × Int)) (W : World) (ha : Rd W A ca la) (hb : Rd W B cb lb) :
    Calls Try.prog 5 #[.slice A la.length ca, .slice B lb.length cb] W fun e w' => e = .returned (.bool true) ∧ Below W.heap.size W w' := by
  have fa : ∀ w, Bl W w → Calls Try.prog 9 #[.slice A la.length ca] w fun e w' => e = .returned (.slice A (la.take 30).length ca) ∧ w' = w := fun w h => few_any (ha.keep h)
  have fb : ∀ w, Bl W w → Calls Try.prog 9 #[.slice B lb.length cb] w fun e w' => e = .returned (.slice B (lb.take 30).length cb) ∧ w' = w := fun w h => few_any (hb.keep h)
  have rx := ha.take 30
  have ry := hb.take 30
  have lx : (la.take 30).length ≤ 30 := by simp; omega
  have ly : (lb.take 30).length ≤ 30 := by simp; omega
  generalize la.take 30 = X at fa rx lx
  generalize lb.take 30 = Y at fb ry ly
  obtain ⟨na, hna⟩ : ∃ n, la.length = n := ⟨_, rfl⟩
  obtain ⟨nb, hnb⟩ : ∃ n, lb.length = n := ⟨_, rfl⟩
  obtain ⟨nx, hnx⟩ : ∃ n, X.length = n := ⟨_, rfl⟩
  obtain ⟨ny, hny⟩ : ∃ n, Y.length = n := ⟨_, rfl⟩
  rw [hna, hnx] at fa
  rw [hnb, hny] at fb
  rw [hnx] at lx
  rw [hny] at ly
  rw [hna, hnb]
  have FA := Aside.mk fa
  have FB := Aside.mk fb
  have RX := Aside.mk rx
  have RY := Aside.mk ry
  have NX := Aside.mk hnx
  have NY := Aside.mk hny
  clear fa fb rx ry hnx hny hna hnb ha hb
  go_enter Try.func5, Try.ntmps5
  go_wp2_with fail
  refine (shown_any _).mono ?_
  rintro e w1 ⟨rfl, hb⟩
  have HB1 := Aside.mk hb
  clear hb
  go_wp2_with fail
  refine (FA.out w1 HB1.out).mono ?_
  rintro e w ⟨rfl, rfl⟩
  go_wp2_with fail
  refine (FB.out w HB1.out).mono ?_
  rintro e w1 ⟨rfl, rfl⟩
  go_wp2_with (at_builtin; refine holdp ?_)
  refine Hold.mk ?_
  have O0 := Aside.mk (own_made w1 25 2 w1.heap.size (Nat.le_refl _))
  have BA := Aside.mk ((Bl.refl w1).alloc (.cells #[] 25))
  have hsA := BA.out.out.size
  refine append_vals rfl (.tmp 21) (.tmp 22) rfl w1.heap.size _ 0 [] rfl O0.out A nx ca X rfl NX.out ((RX.out.keep HB1.out).keep BA.out) (by omega) hsA ?_
  intro v2 w2 hown hg _
  have O2 := Aside.mk hown
  have G2 := Aside.mk (BA.out.grow hg (fun g e => (by obtain rfl : w1.heap.size = g := Option.some.inj e; exact Nat.le_refl _)))
  clear hown hg
  rw [List.nil_append, Nat.zero_add] at O2
  go_wp2_with (at_builtin; refine holdp ?_)
  refine Hold.mk ?_
  have hs2 := G2.out.out.size
  refine append_vals rfl (.tmp 23) (.tmp 24) rfl w1.heap.size v2 nx X rfl O2.out B ny cb Y rfl NY.out ((RY.out.keep HB1.out).keep G2.out) (by omega) hs2 ?_
  intro v3 w3 hown hg _
  have G3 := Aside.mk (G2.out.grow hg (fun g e => (O2.out.lt g e).1))
  have LXY : Aside ((X ++ Y).length = nx + ny) := ⟨by rw [List.length_append, NX.out, NY.out]⟩
  rw [← LXY.out] at hown
  obtain ⟨C, cc, hv, hrc, _⟩ := Rd.own hown
  rw [LXY.out] at hv
  subst hv
  have RC := Aside.mk hrc
  clear hown hg hrc
  go_wp2_with fail
  have ho := of_any RC.out (by rw [LXY.out]; omega)
  rw [LXY.out] at ho
  refine ho.mono ?_
  rintro e w4 ⟨AA, c4, AT, d4, rfl, hr4, hi4, hb4⟩
  obtain ⟨n1, hn1⟩ : ∃ n, (ofL (X ++ Y)).1.length = n := ⟨_, rfl⟩
  obtain ⟨n2, hn2⟩ : ∃ n, (ofL (X ++ Y)).2.length = n := ⟨_, rfl⟩
  have LL := Aside.mk (ofL_lens (X ++ Y))
  rw [hn1, hn2]
  have N1 := Aside.mk hn1
  have N2 := Aside.mk hn2
  have R4 := Aside.mk hr4
  have I4 := Aside.mk hi4
  have G4 := Aside.mk ((HB1.out.trans G3.out).trans hb4)
  clear ho hr4 hi4 hb4 hn1 hn2
  go_wp2_with fail
  have ho := of_any (RX.out.keep G4.out) (by rw [NX.out]; omega)
  rw [NX.out] at ho
  refine ho.mono ?_
  rintro e w5 ⟨L5, c5, P5, d5, rfl, hr5, hi5, hb5⟩
  obtain ⟨m1, hm1⟩ : ∃ n, (ofL X).1.length = n := ⟨_, rfl⟩
  obtain ⟨m2, hm2⟩ : ∃ n, (ofL X).2.length = n := ⟨_, rfl⟩
  rw [hm1, hm2]
  have M1 := Aside.mk hm1
  have M2 := Aside.mk hm2
  have J5 : Aside (JInv w4 w5 (X ++ Y.take 0) L5 c5 P5 d5) := ⟨by rw [List.take_zero, List.append_nil]; exact ⟨hr5, hi5, hb5⟩⟩
  clear ho hr5 hi5 hb5 hm1 hm2
  go_wp2_with fail
  go_loopw [10, 11, 12] (fun lv pv i wr => ∃ (k q1 q2 : Nat) (L : Option Addr) (cl : Nat) (P : Option Addr) (cp : Nat), i = .int .i64 k ∧ k ≤ ny ∧ lv = .slice L q1 cl ∧ pv = .slice P q2 cp ∧ Aside ((ofL (X ++ Y.take k)).1.length = q1 ∧ (ofL (X ++ Y.take k)).2.length = q2) ∧ Aside (JInv w4 wr (X ++ Y.take k) L cl P cp)) (fun _ _ i _ => ny - (intOf i).toNat)
  case atStart => exact ⟨0, m1, m2, L5, c5, P5, d5, rfl, by omega, rfl, rfl, ⟨by rw [List.take_zero, List.append_nil]; exact ⟨M1.out, M2.out⟩⟩, J5⟩
  case round =>
    obtain ⟨k, q1, q2, L, cl, P, cp, rfl, hk, rfl, rfl, HQ, HJ⟩ := hrel
    by_cases hlt : k < ny
    · obtain ⟨⟨p, q⟩, hf⟩ : ∃ f, Y[k]? = some f := ⟨_, List.getElem?_eq_getElem (by have := NY.out; omega)⟩
      obtain ⟨bd, rfl⟩ : ∃ bd, B = some bd := by
        cases B with
        | some bd => exact ⟨bd, rfl⟩
        | none => rw [(RY.out.nil rfl).1] at hf; simp at hf
      have hyc : ny ≤ cb := by have := RY.out.le; have := NY.out; omega
      obtain ⟨e0, e1⟩ := ((RY.out.keep G4.out).keep HJ.out.bl).at hf
      dsimp only at e0 e1
      have HF := Aside.mk hf
      have HLE := Aside.mk (ofL_lens (X ++ Y.take k))
      have hlen : (X ++ Y.take k).length ≤ 60 := by rw [List.length_append, NX.out, List.length_take]; omega
      clear hf
      go_wp2_with fail
      have hadd := add_any HJ.out.rd (by have := HLE.out.1; omega) p q
      rw [HQ.out.1] at hadd
      refine hadd.mono ?_
      rintro e w6 ⟨L2, c2, rfl, hr2, hb2, _⟩
      obtain ⟨m3, hm3⟩ : ∃ n, (addL (ofL (X ++ Y.take k)).1 (p, q)).length = n := ⟨_, rfl⟩
      obtain ⟨ix, hix⟩ : ∃ ix : Int, ((ofL (X ++ Y.take k)).1.idxOf (p, q) : Int) = ix := ⟨_, rfl⟩
      rw [hm3, hix]
      have M3 := Aside.mk hm3
      have IX := Aside.mk hix
      have R6 := Aside.mk hr2
      have G6 := Aside.mk hb2
      have hq2 : q2 ≤ 60 := by have := HLE.out.2; have := HQ.out.2; omega
      clear hadd hr2 hb2 hm3 hix
      go_wp2_with (at_builtin; refine holdp ?_)
      refine Hold.mk ?_
      have O6 := Aside.mk (own_made w6 3 1 w6.heap.size (Nat.le_refl _))
      have B6 := Aside.mk ((Bl.refl w6).alloc (.cells #[] 3))
      have hs6 := B6.out.out.size
      refine append_ints rfl (.tmp 50) (.tmp 51) rfl w6.heap.size _ 0 [] rfl O6.out P q2 cp _ rfl HQ.out.2 ((HJ.out.ri.keep G6.out).keep B6.out) (by omega) hs6 ?_
      intro v7 w7 hown hg _
      have O7 := Aside.mk hown
      have G7 := Aside.mk (B6.out.grow hg (fun g e => (by obtain rfl : w6.heap.size = g := Option.some.inj e; exact Nat.le_refl _)))
      clear hown hg
      rw [List.nil_append, Nat.zero_add] at O7
      go_wp2_with (at_builtin; refine holdp ?_)
      refine Hold.mk ?_
      have B7 := Aside.mk (G7.out.alloc (.cells #[.int .i64 ix] 3))
      have hs7 := B7.out.out.size
      refine append_ints rfl (.tmp 52) (.tmp 54) rfl w6.heap.size v7 q2 _ rfl (O7.out.alloc _) (some ⟨w7.heap.size, 0, none⟩) 1 1 [ix] rfl rfl (rdI_new w7 [ix] 3 _ rfl) (by omega) hs7 ?_
      intro v8 w8 hown hg _
      have G8 := Aside.mk (B7.out.grow hg (fun g e => (O7.out.lt g e).1))
      have L8 : Aside (((ofL (X ++ Y.take k)).2 ++ [ix]).length = q2 + 1) := ⟨by rw [List.length_append, HQ.out.2]; rfl⟩
      rw [← L8.out] at hown
      obtain ⟨P8, c8, hv, hri8⟩ := RdI.own hown
      rw [L8.out] at hv
      subst hv
      have J8 : Aside (JInv w4 w8 (X ++ Y.take (k + 1)) L2 c2 P8 c8) := ⟨by
        have e : ofL (X ++ Y.take (k + 1)) = (addL (ofL (X ++ Y.take k)).1 (p, q), (ofL (X ++ Y.take k)).2 ++ [ix]) := by
          rw [take_next HF.out, ← List.append_assoc, ofL_add, IX.out]
        refine ⟨?_, ?_, (HJ.out.bl.trans G6.out).trans G8.out⟩
        · rw [e]; exact R6.out.keep G8.out
        · rw [e]; exact hri8⟩
      have Q8 : Aside ((ofL (X ++ Y.take (k + 1))).1.length = m3 ∧ (ofL (X ++ Y.take (k + 1))).2.length = q2 + 1) := ⟨by
        rw [take_next HF.out, ← List.append_assoc, ofL_add, IX.out]
        exact ⟨M3.out, L8.out⟩⟩
      clear hown hg hri8
      go_wp2_with fail
      go_roundw
      case rel => exact ⟨k + 1, m3, q2 + 1, L2, c2, P8, c8, by go_num, by omega, rfl, rfl, Q8, J8⟩
      case measure => simp [intOf]; omega
    · have hkn : k = ny := by omega
      subst hkn
      have ht : Y.take k = Y := List.take_of_length_le (by have := NY.out; omega)
      rw [ht] at HQ HJ
      have hn30 : n1 ≤ 60 := by have := LL.out.1; have := LXY.out; have := N1.out; omega
      have hn31 : n2 ≤ 60 := by have := LL.out.2; have := LXY.out; have := N2.out; omega
      go_wp2_with fail
      have hs := same_any ⟨R4.out.keep HJ.out.bl⟩ ⟨HJ.out.rd⟩ n1 q1 N1 ⟨HQ.out.1⟩ (by omega)
      refine hs.mono ?_
      rintro e w9 ⟨rfl, hb9⟩
      rw [beq_self_eq_true]
      have G9 := Aside.mk hb9
      clear hs hb9
      go_wp2_with fail
      have hs := sameI_any ⟨(I4.out.keep HJ.out.bl).keep G9.out⟩ ⟨HJ.out.ri.keep G9.out⟩ n2 q2 N2 ⟨HQ.out.2⟩ (by omega)
      refine hs.mono ?_
      rintro e w10 ⟨rfl, hb10⟩
      rw [beq_self_eq_true]
      have G10 := Aside.mk hb10
      clear hs hb10
      go_wp2
      go_ret
      exact ⟨rfl, (((G4.out.trans HJ.out.bl).trans G9.out).trans G10.out).out⟩
end Go.Proofs.Ytdmofkmkleekbaa.Pool
