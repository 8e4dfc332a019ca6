/-
  FieldAll's walk: any part of any word, what it is set to, and which numbers fit, is as the reference says.
-/
import Derived.Test.YtdafgbehhgojnaaRef
namespace Go.Proofs.Ytdafgbehhgojnaa.Laws
open Go.RowKit Go.Proofs.Ytdafgbehhgojnaa.FieldM Go.Proofs.Ytdafgbehhgojnaa.Field

theorem box_keep3 {W2 w : World} {A0 A1 A2 : Addr} {v0 v1 v2 : Value} (q0 : W2.cell? A0 = some v0) (q1 : W2.cell? A1 = some v1) (q2 : W2.cell? A2 = some v2) (h : Bl W2 w) : Bl W2 w ∧ w.cell? A0 = some v0 ∧ w.cell? A1 = some v1 ∧ w.cell? A2 = some v2 :=
  ⟨h, (h.out.cell (World.block_lt_of_cell? W2 A0 q0)).trans q0, (h.out.cell (World.block_lt_of_cell? W2 A1 q1)).trans q1, (h.out.cell (World.block_lt_of_cell? W2 A2 q2)).trans q2⟩
set_option maxHeartbeats 6400000 in
theorem all_raw (w x : Nat) (k0 k1 k2 r1 r2 r3 : Int) (r4 : Bool) (W W2 : World) (HW2 : Field.Aside (W2 = W.alloc (.cells #[.int .i64 k0, .int .i64 k1, .int .i64 k2] 35)))
   (Hget : Field.Aside (∀ w', Bl W2 w' → Calls Try.prog 10 #[.int .u32 w, .int .i64 k0, .int .i64 k1] w' fun e w' => e = .returned (.int .u32 r1) ∧ Bl W2 w'))
   (Hrget : Field.Aside (∀ w', Bl W2 w' → Calls Try.prog 13 #[.int .u32 w, .int .i64 k0, .int .i64 k1] w' fun e w' => e = .returned (.int .u32 r1) ∧ Bl W2 w'))
   (Hst : Field.Aside (∀ w', Bl W2 w' → Calls Try.prog 9 #[.int .u32 w, .int .i64 k0, .int .i64 k1, .int .u32 x] w' fun e w' => e = .returned (.int .u32 r2) ∧ Bl W2 w'))
   (Hrst : Field.Aside (∀ w', Bl W2 w' → Calls Try.prog 14 #[.int .u32 w, .int .i64 k0, .int .i64 k1, .int .u32 x] w' fun e w' => e = .returned (.int .u32 r2) ∧ Bl W2 w'))
   (Hsg : Field.Aside (∀ w', Bl W2 w' → Calls Try.prog 11 #[.int .u32 x, .int .i64 k1] w' fun e w' => e = .returned (.int .i64 r3) ∧ Bl W2 w'))
   (Hrsg : Field.Aside (∀ w', Bl W2 w' → Calls Try.prog 15 #[.int .u32 x, .int .i64 k1] w' fun e w' => e = .returned (.int .i64 r3) ∧ Bl W2 w'))
   (Hft : Field.Aside (∀ w', Bl W2 w' → Calls Try.prog 12 #[.int .i64 k2, .int .i64 k1] w' fun e w' => e = .returned (.bool r4) ∧ Bl W2 w'))
   (Hrft : Field.Aside (∀ w', Bl W2 w' → Calls Try.prog 16 #[.int .i64 k2, .int .i64 k1] w' fun e w' => e = .returned (.bool r4) ∧ Bl W2 w')) :
   Calls Try.prog 7 #[.int .u32 w, .int .u32 x, .agg #[.int .i64 k0, .int .i64 k1, .int .i64 k2]] W fun e w' => e = .returned (.bool true) ∧ Bl W2 w' := by
  go_enter Try.func7, Try.ntmps7
  go_wp2_with fail
  refine (shown_any _).mono ?_; rintro e w1 ⟨rfl, hb⟩
  rw [← HW2.out] at hb
  have q0 : W2.cell? ⟨W.heap.size, 0, none⟩ = some (.int .i64 k0) := by rw [HW2.out, World.cell?_alloc_at _ _ _ _ rfl]; rfl
  have q1 : W2.cell? ⟨W.heap.size, 1, none⟩ = some (.int .i64 k1) := by rw [HW2.out, World.cell?_alloc_at _ _ _ _ rfl]; rfl
  have q2 : W2.cell? ⟨W.heap.size, 2, none⟩ = some (.int .i64 k2) := by rw [HW2.out, World.cell?_alloc_at _ _ _ _ rfl]; rfl
  have HB : Bl W2 w1 := ⟨hb⟩
  have Q0 := Field.Aside.mk q0
  have Q1 := Field.Aside.mk q1
  have Q2 := Field.Aside.mk q2
  clear q0 q1 q2 hb
  go_wp2_with fail
  go_region_held3 (fun w' => Bl W2 w' ∧ w'.cell? ⟨W.heap.size, 0, none⟩ = some (.int .i64 k0) ∧ w'.cell? ⟨W.heap.size, 1, none⟩ = some (.int .i64 k1) ∧ w'.cell? ⟨W.heap.size, 2, none⟩ = some (.int .i64 k2)) (first | (refine box_keep3 Q0.out Q1.out Q2.out ?_; assumption) | (refine box_keep3 Q0.out Q1.out Q2.out (Bl.drew ?_); assumption)) (first | (go_at_call 10; (with_reducible refine (Hget.out _ ?_).mono ?_); (first | assumption | exact And.left ‹Bl W2 _ ∧ _›); rintro e w1 ⟨rfl, hb⟩) | (go_at_call 13; (with_reducible refine (Hrget.out _ ?_).mono ?_); (first | assumption | exact And.left ‹Bl W2 _ ∧ _›); rintro e w1 ⟨rfl, hb⟩) | (go_at_call 9; (with_reducible refine (Hst.out _ ?_).mono ?_); (first | assumption | exact And.left ‹Bl W2 _ ∧ _›); rintro e w1 ⟨rfl, hb⟩) | (go_at_call 14; (with_reducible refine (Hrst.out _ ?_).mono ?_); (first | assumption | exact And.left ‹Bl W2 _ ∧ _›); rintro e w1 ⟨rfl, hb⟩) | (go_at_call 11; (with_reducible refine (Hsg.out _ ?_).mono ?_); (first | assumption | exact And.left ‹Bl W2 _ ∧ _›); rintro e w1 ⟨rfl, hb⟩) | (go_at_call 15; (with_reducible refine (Hrsg.out _ ?_).mono ?_); (first | assumption | exact And.left ‹Bl W2 _ ∧ _›); rintro e w1 ⟨rfl, hb⟩) | (go_at_call 12; (with_reducible refine (Hft.out _ ?_).mono ?_); (first | assumption | exact And.left ‹Bl W2 _ ∧ _›); rintro e w1 ⟨rfl, hb⟩) | (go_at_call 16; (with_reducible refine (Hrft.out _ ?_).mono ?_); (first | assumption | exact And.left ‹Bl W2 _ ∧ _›); rintro e w1 ⟨rfl, hb⟩))
  all_goals (try go_wp2)
  all_goals go_ret
  exact ⟨rfl, by first | assumption | exact And.left ‹Bl W2 _ ∧ _›⟩

theorem keep_b {f : Nat} {args : Array Value} {r : Value} (W : World) (h : ∀ w, Calls Try.prog f args w fun e w' => e = .returned r ∧ w = w') : Field.Aside (∀ w, Bl W w → Calls Try.prog f args w fun e w' => e = .returned r ∧ Bl W w') :=
  ⟨fun w hb => (h w).mono fun _ _ ⟨h1, h2⟩ => ⟨h1, h2 ▸ hb⟩⟩
theorem make_b {f : Nat} {args : Array Value} {r : Value} (W : World) (h : ∀ w, Calls Try.prog f args w fun e w' => e = .returned r ∧ Below w.heap.size w w') : Field.Aside (∀ w, Bl W w → Calls Try.prog f args w fun e w' => e = .returned r ∧ Bl W w') :=
  ⟨fun w hb => (h w).mono fun _ _ ⟨h1, h2⟩ => ⟨h1, hb.then h2⟩⟩

theorem all_walk (a0 a1 k0 k1 k2 : Int) (W : World) (w0 : (Lit.int .u32 a0).wf = true) (w1 : (Lit.int .u32 a1).wf = true) (v0 : (Lit.int .i64 k0).wf = true) (v1 : (Lit.int .i64 k1).wf = true) (_v2 : (Lit.int .i64 k2).wf = true) :
    Calls Try.prog 7 #[.int .u32 a0, .int .u32 a1, .agg #[.int .i64 k0, .int .i64 k1, .int .i64 k2]] W fun e w' => e = .returned (.bool true) ∧ Below W.heap.size W w' := by
  obtain ⟨p0, q0⟩ := wf32 w0
  obtain ⟨p1, q1⟩ := wf32 w1
  have hk0 := wf64 v0
  have hk1 := wf64 v1
  obtain ⟨w, rfl⟩ := Int.eq_ofNat_of_zero_le p0
  obtain ⟨x, rfl⟩ := Int.eq_ofNat_of_zero_le p1
  have hw : w < 4294967296 := by omega
  have hx : x < 4294967296 := by omega
  obtain ⟨W2, hW2⟩ : ∃ W2, W2 = W.alloc (.cells #[.int .i64 k0, .int .i64 k1, .int .i64 k2] 35) := ⟨_, rfl⟩
  refine (all_raw w x k0 k1 k2 (getN w k0 k1) (setN w k0 k1 x) (signedN x (kn k1)) (fitsN k2 (kn k1)) W W2 ⟨hW2⟩
    (make_b W2 fun w' => get_any w k0 k1 w' hw hk1.2) (make_b W2 fun w' => rget_any w k0 k1 w' hw hk0 hk1.2)
    (make_b W2 fun w' => set_any w k0 k1 x w' hw hx hk1.2) (make_b W2 fun w' => rset_any w k0 k1 x w' hw hx hk0 hk1.2)
    (keep_b W2 fun w' => signed_any x k1 w') (keep_b W2 fun w' => rsigned_any x k1 w' hx)
    (keep_b W2 fun w' => fits_any k2 k1 w') (keep_b W2 fun w' => rfits_any k2 k1 w')).mono ?_
  rintro e w' ⟨rfl, hb⟩
  refine ⟨rfl, ?_⟩
  have hq := hb.out
  rw [hW2] at hq
  exact ((Below.refl _ _).alloc (Nat.le_refl _) _).trans ⟨hq.os, hq.tape, hq.output, hq.size, fun i hi => hq.block i (by simp; omega)⟩
end Go.Proofs.Ytdafgbehhgojnaa.Laws
