/-
  isa.May, where the instruction is what its word looks like.
-/
import Derived.Test.YtnilkljibdjjgaaIns
import Derived.Test.YtnilkljibdjjgaaReadT
import Derived.Deep.RegionWith
import Derived.Deep.DeepCutAuto
namespace Go.Proofs.Ytnilkljibdjjgaa.Isa
open Go.RowKit Go.Proofs.Ytnilkljibdjjgaa.FieldM Go.Proofs.Ytnilkljibdjjgaa.Field

/-- What is asked of an instruction that is what its word looks like. -/
def tailN (kd op b im : Int) (u : Bool) : Bool :=
  if kd = 1 ∨ kd = 2 then
    if op = 0 then b == 0 && (kd == 2 || !u) && (!u || decide (0 ≤ im))
    else if 11 < op then false
    else !u || (decide (8 ≤ op) && decide (op ≤ 10))
  else true

set_option maxHeartbeats 8000000 in
theorem may_4 (kd op a b c im : Int) (u : Bool) (W W1 : World) (HW : Field.Aside (W1 = W.alloc (.cells #[.int .i64 kd, .int .i64 op, .int .i64 a, .int .i64 b, .int .i64 c, .int .i64 im, .bool u] 23)))
   (B1 : Field.Aside (∀ wx, Calls Try.prog 25 #[.int .i64 kd, .int .i64 1, .int .i64 7] wx fun e w' => e = .returned (.bool true) ∧ wx = w'))
   (B2 : Field.Aside (∀ wx, Calls Try.prog 25 #[.int .i64 op, .int .i64 0, .int .i64 15] wx fun e w' => e = .returned (.bool true) ∧ wx = w'))
   (R : Int) (WD : Field.Aside (∀ wx, Calls Try.prog 21 #[.agg #[.int .i64 kd, .int .i64 op, .int .i64 a, .int .i64 b, .int .i64 c, .int .i64 im, .bool u]] wx fun e w' => e = .returned (.int .u32 R) ∧ Bl wx w'))
   (RD : Field.Aside (∀ wx, Calls Try.prog 23 #[.int .u32 R] wx fun e w' => e = .returned (.agg #[.int .i64 kd, .int .i64 op, .int .i64 a, .int .i64 b, .int .i64 c, .int .i64 im, .bool u]) ∧ Bl wx w')) (h1 : 1 ≤ kd) (h7 : kd ≤ 7) (o0 : 0 ≤ op) (o1 : op ≤ 15)
   (B3 : Field.Aside (∀ wx, Calls Try.prog 25 #[.int .i64 op, .int .i64 8, .int .i64 10] wx fun e w' => e = .returned (.bool (decide (8 ≤ op) && decide (op ≤ 10))) ∧ wx = w')) :
   Calls Try.prog 16 #[.agg #[.int .i64 kd, .int .i64 op, .int .i64 a, .int .i64 b, .int .i64 c, .int .i64 im, .bool u]] W fun e w' => e = .returned (.bool (tailN kd op b im u)) ∧ Bl W w' := by
  have HWB : Field.Aside (Bl W W1) := ⟨⟨by have := HW.out; subst this; exact (Below.refl _ _).alloc (Nat.le_refl _) _⟩⟩
  have RZ : Field.Aside (IBox W.heap.size kd op a b c im u W1) := ⟨by rw [HW.out]; exact IBox.new W kd op a b c im u _⟩
  have B0 : Bl W1 W1 := Bl.refl _
  go_enter Try.func16, Try.ntmps16
  go_wp2_with fail
  rw [← HW.out]
  obtain ⟨i0, i1, i2, i3, i4, i5, i6, fz⟩ := RZ.out
  go_cut [19] (fun v wx => v = .bool false ∧ Bl W1 wx)
  case first =>
    first | go_region_with (first | (go_at_call 25; (with_reducible refine (B1.out _).mono ?_); rintro e wn ⟨rfl, rfl⟩) | (go_at_call 25; (with_reducible refine (B2.out _).mono ?_); rintro e wn ⟨rfl, rfl⟩) | (go_at_call 21; (with_reducible refine (WD.out _).mono ?_); rintro e wn ⟨rfl, kn⟩; have BN : Bl W1 wn := Bl.then (by first | with_reducible assumption | (apply Bl.drew; with_reducible assumption)) kn.out; clear kn; obtain ⟨i0, i1, i2, i3, i4, i5, i6, fz⟩ := RZ.out.keep BN) | (go_at_call 23; (with_reducible refine (RD.out _).mono ?_); rintro e wn ⟨rfl, kn⟩; have BN : Bl W1 wn := Bl.then (by first | with_reducible assumption | (apply Bl.drew; with_reducible assumption)) kn.out; clear kn; obtain ⟨i0, i1, i2, i3, i4, i5, i6, fz⟩ := RZ.out.keep BN)) | fail "region"
    all_goals (try go_wp2_with fail)
    all_goals go_meet
    all_goals (refine ⟨rfl, ?_⟩)
    all_goals first | with_reducible assumption | (apply Bl.drew; with_reducible assumption)
  case rest =>
    obtain ⟨rfl, HQ⟩ := hcut
    have BOX := Field.Aside.mk (RZ.out.keep HQ)
    have fin := Field.Aside.mk (HWB.out.then HQ.out)
    clear i0 i1 i2 i3 i4 i5 i6 fz B0 HQ WD RD B1 B2 HWB RZ HW
    rcases (show kd = 1 ∨ kd = 2 ∨ (3 ≤ kd) by omega) with rfl | rfl | hk
    · by_cases p0 : op = 0
      · subst p0
        by_cases pb : b = 0
        · subst pb
          cases u
          · obtain ⟨i0, i1, i2, i3, i4, i5, i6, fz⟩ := BOX.out
            go_wp2_with fail
            refine bodyPost_ret (v := .bool true) ?_ rfl ⟨by simp [tailN], fin.out⟩
            simp only [results, Try.results16]; go_simp
          · obtain ⟨i0, i1, i2, i3, i4, i5, i6, fz⟩ := BOX.out
            go_wp2_with fail
            refine bodyPost_ret (v := .bool false) ?_ rfl ⟨by simp [tailN], fin.out⟩
            simp only [results, Try.results16]; go_simp
        · have pb1 : (b == 0) = false := beq_eq_false_iff_ne.2 pb
          have PB := Field.Aside.mk pb
          clear pb
          obtain ⟨i0, i1, i2, i3, i4, i5, i6, fz⟩ := BOX.out
          go_wp2_with fail
          refine bodyPost_ret (v := .bool false) ?_ rfl ⟨by simp [tailN, PB.out], fin.out⟩
          simp only [results, Try.results16]; go_simp
      · have p1 : (op == 0) = false := beq_eq_false_iff_ne.2 p0
        have P0 := Field.Aside.mk p0
        clear p0
        by_cases p11 : 11 < op
        · obtain ⟨i0, i1, i2, i3, i4, i5, i6, fz⟩ := BOX.out
          go_wp2_with fail
          refine bodyPost_ret (v := .bool false) ?_ rfl ⟨by simp [tailN, P0.out, p11], fin.out⟩
          simp only [results, Try.results16]; go_simp
        · cases u
          · obtain ⟨i0, i1, i2, i3, i4, i5, i6, fz⟩ := BOX.out
            go_wp2_with fail
            refine bodyPost_ret (v := .bool true) ?_ rfl ⟨by simp [tailN, P0.out, p11], fin.out⟩
            simp only [results, Try.results16]; go_simp
          · obtain ⟨i0, i1, i2, i3, i4, i5, i6, fz⟩ := BOX.out
            go_wp2_with fail
            refine (B3.out _).mono ?_
            rintro e wn ⟨rfl, rfl⟩
            go_wp2_with fail
            refine bodyPost_ret (v := .bool (decide (8 ≤ op) && decide (op ≤ 10))) ?_ rfl ⟨by simp [tailN, P0.out, p11], fin.out⟩
            simp only [results, Try.results16]; go_simp
    · by_cases p0 : op = 0
      · subst p0
        by_cases pb : b = 0
        · subst pb
          cases u
          · obtain ⟨i0, i1, i2, i3, i4, i5, i6, fz⟩ := BOX.out
            go_wp2_with fail
            refine bodyPost_ret (v := .bool true) ?_ rfl ⟨by simp [tailN], fin.out⟩
            simp only [results, Try.results16]; go_simp
          · by_cases pi : 0 ≤ im
            · obtain ⟨i0, i1, i2, i3, i4, i5, i6, fz⟩ := BOX.out
              go_wp2_with fail
              refine bodyPost_ret (v := .bool true) ?_ rfl ⟨by simp [tailN, pi], fin.out⟩
              simp only [results, Try.results16]; go_simp
            · obtain ⟨i0, i1, i2, i3, i4, i5, i6, fz⟩ := BOX.out
              go_wp2_with fail
              refine bodyPost_ret (v := .bool false) ?_ rfl ⟨by simp [tailN, pi], fin.out⟩
              simp only [results, Try.results16]; go_simp
        · have pb1 : (b == 0) = false := beq_eq_false_iff_ne.2 pb
          have PB := Field.Aside.mk pb
          clear pb
          obtain ⟨i0, i1, i2, i3, i4, i5, i6, fz⟩ := BOX.out
          go_wp2_with fail
          refine bodyPost_ret (v := .bool false) ?_ rfl ⟨by simp [tailN, PB.out], fin.out⟩
          simp only [results, Try.results16]; go_simp
      · have p1 : (op == 0) = false := beq_eq_false_iff_ne.2 p0
        have P0 := Field.Aside.mk p0
        clear p0
        by_cases p11 : 11 < op
        · obtain ⟨i0, i1, i2, i3, i4, i5, i6, fz⟩ := BOX.out
          go_wp2_with fail
          refine bodyPost_ret (v := .bool false) ?_ rfl ⟨by simp [tailN, P0.out, p11], fin.out⟩
          simp only [results, Try.results16]; go_simp
        · cases u
          · obtain ⟨i0, i1, i2, i3, i4, i5, i6, fz⟩ := BOX.out
            go_wp2_with fail
            refine bodyPost_ret (v := .bool true) ?_ rfl ⟨by simp [tailN, P0.out, p11], fin.out⟩
            simp only [results, Try.results16]; go_simp
          · obtain ⟨i0, i1, i2, i3, i4, i5, i6, fz⟩ := BOX.out
            go_wp2_with fail
            refine (B3.out _).mono ?_
            rintro e wn ⟨rfl, rfl⟩
            go_wp2_with fail
            refine bodyPost_ret (v := .bool (decide (8 ≤ op) && decide (op ≤ 10))) ?_ rfl ⟨by simp [tailN, P0.out, p11], fin.out⟩
            simp only [results, Try.results16]; go_simp
    · have k1 : (kd == 1) = false := beq_eq_false_iff_ne.2 (by omega)
      have k2 : (kd == 2) = false := beq_eq_false_iff_ne.2 (by omega)
      have K1 : Field.Aside (¬ (kd = 1 ∨ kd = 2)) := ⟨by omega⟩
      obtain ⟨i0, i1, i2, i3, i4, i5, i6, fz⟩ := BOX.out
      go_wp2_with fail
      refine bodyPost_ret (v := .bool true) ?_ rfl ⟨by simp only [tailN, if_neg K1.out], fin.out⟩
      simp only [results, Try.results16]; go_simp
end Go.Proofs.Ytnilkljibdjjgaa.Isa
