/-
  PoolAll.
-/
import Derived.Test.YtdmofkmkleekbaaRAdd
namespace Go.Proofs.Ytdmofkmkleekbaa.Pool
open Go Go.RowKit

theorem few_all {w0 : World} {A : Option Addr} {c : Nat} {l : List (Int × Int)} (h : Rd w0 A c l) (w : World) :
    Calls Try.prog 9 #[.slice A l.length c] w fun e w' => e = .returned (.slice A (l.take 30).length c) ∧ w' = w := by
  cases A with
  | none =>
    obtain ⟨rfl, rfl⟩ := h.nil rfl
    exact few_none w
  | some ad =>
    rw [List.length_take]
    exact few_some ad c w _ h.le
theorem ofL_lens (l : List (Int × Int)) : (ofL l).1.length ≤ l.length ∧ (ofL l).2.length = l.length := by
  have := ofL_len l l.length (Nat.le_refl _)
  rwa [List.take_length] at this

set_option maxRecDepth 100000 in
set_option maxHeartbeats 8000000 in
theorem poolAll_walk (A : Option Addr) (c : Nat) (l : List (Int × Int)) (p q : Int) (W : World) (hr : Rd W A c l) (_wp : (Lit.int .u32 p).wf = true) (_wq : (Lit.int .i64 q).wf = true) :
    Calls Try.prog 3 #[.slice A l.length c, .agg #[.int .u32 p, .int .i64 q]] W fun e w' => e = .returned (.bool true) ∧ Below W.heap.size W w' := by
  have fa := few_all hr
  have rx := hr.take 30
  have lx : (l.take 30).length ≤ 30 := by simp; omega
  generalize l.take 30 = X at fa rx lx
  obtain ⟨na, hna⟩ : ∃ n, l.length = n := ⟨_, rfl⟩
  obtain ⟨nx, hnx⟩ : ∃ n, X.length = n := ⟨_, rfl⟩
  rw [hna, hnx] at fa
  rw [hnx] at lx
  rw [hna]
  have FA := Aside.mk fa
  have AD : Aside (∀ w, Bl W w → Calls Try.prog 8 #[.slice A nx c, .agg #[.int .u32 p, .int .i64 q]] w (AddPost w A X (p, q))) := ⟨fun w hw => by
    have := add_any (rx.keep hw) (by omega) p q
    rwa [hnx] at this⟩
  have RA : Aside (∀ w, Bl W w → Calls Try.prog 10 #[.slice A nx c, .agg #[.int .u32 p, .int .i64 q]] w (AddPost w A X (p, q))) := ⟨fun w hw => radd_any nx ⟨hnx⟩ ⟨rx.keep hw⟩ (by omega) p q⟩
  have OF : Aside (∀ w, Bl W w → Calls Try.prog 11 #[.slice A nx c] w (OfPost w X)) := ⟨fun w hw => by
    have := of_any (rx.keep hw) (by omega)
    rwa [hnx] at this⟩
  have RO : Aside (∀ w, Bl W w → Calls Try.prog 12 #[.slice A nx c] w (OfPost w X)) := ⟨fun w hw => rof_any nx ⟨hnx⟩ ⟨rx.keep hw⟩ (by omega)⟩
  have NX := Aside.mk hnx
  clear fa rx hnx hna hr
  obtain ⟨W1, hW1⟩ : ∃ W1, W1 = W.alloc (.cells #[.int .u32 p, .int .i64 q] 25) := ⟨_, rfl⟩
  have HWB : Aside (Bl W W1) := ⟨by rw [hW1]; exact (Bl.refl _).alloc _⟩
  have Q0 : Aside (W1.cell? ⟨W.heap.size, 0, none⟩ = some (.int .u32 p)) := ⟨by rw [hW1, World.cell?_alloc_at _ _ _ _ rfl]; rfl⟩
  have Q1 : Aside (W1.cell? ⟨W.heap.size, 1, none⟩ = some (.int .i64 q)) := ⟨by rw [hW1, World.cell?_alloc_at _ _ _ _ rfl]; rfl⟩
  have HW := Aside.mk hW1
  clear hW1
  go_enter Try.func3, Try.ntmps3
  go_wp2_with fail
  rw [← HW.out]
  refine (shown_any _).mono ?_
  rintro e w1 ⟨rfl, hb⟩
  have HB1 := Aside.mk (HWB.out.trans hb)
  have b0 := hb.cell Q0.out
  have b1 := hb.cell Q1.out
  have hws : W.heap.size < w1.heap.size := World.block_lt_of_cell? w1 _ b0
  clear hb
  have BR : Bl w1 w1 := Bl.refl _
  go_wp2_with fail
  go_region_held3 (fun w' => Bl w1 w' ∧ w'.cell? ⟨W.heap.size, 0, none⟩ = some (.int .u32 p) ∧ w'.cell? ⟨W.heap.size, 1, none⟩ = some (.int .i64 q)) (((refine keepR b0 b1 ?_); (repeat (first | (with_reducible assumption) | refine Bl.drew ?_ | refine Bl.alloc ?_ _)); done)) (first | (go_at_call 9; (with_reducible refine (FA.out _).mono ?_); rintro e wn ⟨rfl, rfl⟩) | (go_at_call 8; (with_reducible refine (AD.out _ ?_).mono ?_); exact HB1.out.trans (by (repeat (first | (with_reducible assumption) | refine Bl.drew ?_ | refine Bl.alloc ?_ _))); rintro e w2 ⟨A2, c2, rfl, hr2, hb2, hf2⟩; have hG2 : Bl w1 w2 := Bl.trans (by (repeat (first | (with_reducible assumption) | refine Bl.drew ?_ | refine Bl.alloc ?_ _))) hb2) | (fail "none"))
  obtain ⟨n2, hn2⟩ : ∃ n, (addL X (p, q)).length = n := ⟨_, rfl⟩
  obtain ⟨ix, hix⟩ : ∃ ix : Int, (X.idxOf (p, q) : Int) = ix := ⟨_, rfl⟩
  rw [hn2, hix]
  have LA := addL_len X (p, q)
  have hn2l : n2 ≤ 31 := by have := NX.out; omega
  have N2 := Aside.mk hn2
  have IX := Aside.mk hix
  have R2 := Aside.mk hr2
  have G2 := Aside.mk (HB1.out.trans hG2)
  have b0 := hG2.cell b0
  have b1 := hG2.cell b1
  clear hr2 hb2 hf2 hG2 hn2 hix LA BR
  rename_i hHeld
  clear hHeld
  have BR : Bl w2 w2 := Bl.refl _
  go_wp2_with fail
  go_region_held3 (fun w' => Bl w2 w' ∧ w'.cell? ⟨W.heap.size, 0, none⟩ = some (.int .u32 p) ∧ w'.cell? ⟨W.heap.size, 1, none⟩ = some (.int .i64 q)) (((refine keepR b0 b1 ?_); (repeat (first | (with_reducible assumption) | refine Bl.drew ?_ | refine Bl.alloc ?_ _)); done)) (first | (go_at_call 9; (with_reducible refine (FA.out _).mono ?_); rintro e wn ⟨rfl, rfl⟩) | (go_at_call 10; (with_reducible refine (RA.out _ ?_).mono ?_); exact G2.out.trans (by (repeat (first | (with_reducible assumption) | refine Bl.drew ?_ | refine Bl.alloc ?_ _))); rintro e w3 ⟨A3, c3, rfl, hr3, hb3, hf3⟩; have hG3 : Bl w2 w3 := Bl.trans (by (repeat (first | (with_reducible assumption) | refine Bl.drew ?_ | refine Bl.alloc ?_ _))) hb3) | (fail "none"))
  rw [N2.out, IX.out]
  have R3 := Aside.mk hr3
  have G3 := Aside.mk hG3
  clear hr3 hb3 hf3 hG3 b0 b1 BR
  rename_i hHeld
  clear hHeld
  go_wp2_with fail
  refine (FA.out w3).mono ?_
  rintro e w4 ⟨rfl, rfl⟩
  go_wp2_with fail
  refine (OF.out w4 (G2.out.trans G3.out)).mono ?_
  rintro e w5 ⟨A5, c5, B5, d5, rfl, hr5, hi5, hb5⟩
  obtain ⟨n5, hn5⟩ : ∃ n, (ofL X).1.length = n := ⟨_, rfl⟩
  obtain ⟨m5, hm5⟩ : ∃ n, (ofL X).2.length = n := ⟨_, rfl⟩
  rw [hn5, hm5]
  have hn5l : n5 ≤ 30 ∧ m5 ≤ 30 := by have := ofL_lens X; have := NX.out; omega
  have N5 := Aside.mk hn5
  have M5 := Aside.mk hm5
  have R5 := Aside.mk hr5
  have I5 := Aside.mk hi5
  have G5 := Aside.mk hb5
  clear hr5 hi5 hb5 hn5 hm5
  go_wp2_with fail
  refine (FA.out w5).mono ?_
  rintro e w6 ⟨rfl, rfl⟩
  go_wp2_with fail
  refine (RO.out w6 ((G2.out.trans G3.out).trans G5.out)).mono ?_
  rintro e w7 ⟨A7, c7, B7, d7, rfl, hr7, hi7, hb7⟩
  rw [N5.out, M5.out]
  have R7 := Aside.mk hr7
  have I7 := Aside.mk hi7
  have G7 := Aside.mk hb7
  clear hr7 hi7 hb7
  go_wp2_with fail
  have hs := same_any ⟨((R2.out.keep G3.out).keep G5.out).keep G7.out⟩ ⟨(R3.out.keep G5.out).keep G7.out⟩ n2 n2 N2 N2 (by omega)
  refine hs.mono ?_
  rintro e w8 ⟨rfl, hb8⟩
  rw [beq_self_eq_true]
  have G8 := Aside.mk hb8
  clear hs hb8
  go_wp2_with fail
  have hs := same_any ⟨(R5.out.keep G7.out).keep G8.out⟩ ⟨R7.out.keep G8.out⟩ n5 n5 N5 N5 (by omega)
  refine hs.mono ?_
  rintro e w9 ⟨rfl, hb9⟩
  rw [beq_self_eq_true]
  have G9 := Aside.mk hb9
  clear hs hb9
  go_wp2_with fail
  have hs := sameI_any ⟨((I5.out.keep G7.out).keep G8.out).keep G9.out⟩ ⟨(I7.out.keep G8.out).keep G9.out⟩ m5 m5 M5 M5 (by omega)
  refine hs.mono ?_
  rintro e w10 ⟨rfl, hb10⟩
  rw [beq_self_eq_true]
  have G10 := Aside.mk hb10
  clear hs hb10
  go_wp2
  go_ret
  exact ⟨rfl, (((((((G2.out.trans G3.out).trans G5.out).trans G7.out).trans G8.out).trans G9.out).trans G10.out)).out⟩
end Go.Proofs.Ytdmofkmkleekbaa.Pool
