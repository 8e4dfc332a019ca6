/-
  The reference's May, One and Reg: whether an instruction may be, as the program says it.
-/
import Derived.Test.YtnilkljibdjjgaaEq
import Derived.Test.YtnilkljibdjjgaaKinds
import Derived.Test.YtnilkljibdjjgaaAny
import Derived.Test.YtnilkljibdjjgaaWalks2
namespace Go.Proofs.Ytnilkljibdjjgaa.Isa
open Go Go.RowKit Go.Proofs.Ytnilkljibdjjgaa.FieldM Go.Proofs.Ytnilkljibdjjgaa.Field

/-- Which instructions may be, in whole numbers. -/
def RMayI (kd op a b c im U : Int) : Prop :=
  0 ≤ a ∧ a ≤ 15 ∧ 0 ≤ b ∧ b ≤ 15 ∧ 0 ≤ c ∧ c ≤ 15 ∧
  ((kd = 1 ∧ 0 ≤ op ∧ op ≤ 11 ∧ (op = 0 → b = 0) ∧ im = 0 ∧ (U = 1 → 8 ≤ op ∧ op ≤ 10)) ∨
   (kd = 2 ∧ 0 ≤ op ∧ op ≤ 11 ∧ (op = 0 → b = 0) ∧ c = 0 ∧ -65536 ≤ im ∧ im ≤ 65535 ∧ (U = 1 → (8 ≤ op ∧ op ≤ 10) ∨ (op = 0 ∧ 0 ≤ im))) ∨
   ((kd = 3 ∨ kd = 4) ∧ op = 0 ∧ b = 0 ∧ c = 0 ∧ im = 0 ∧ U = 0) ∨
   (kd = 5 ∧ 0 ≤ op ∧ op ≤ 3 ∧ c = 0 ∧ -524288 ≤ im ∧ im < 524288 ∧ U = 0) ∨
   (kd = 6 ∧ 0 ≤ op ∧ op ≤ 15 ∧ a = 0 ∧ b = 0 ∧ im = 0) ∨
   (kd = 7 ∧ 0 ≤ op ∧ op ≤ 15 ∧ a = 0 ∧ b = 0 ∧ c = 0 ∧ -8388608 ≤ im ∧ im < 8388608))

theorem b2i_one (u : Bool) : b2i u = 1 ↔ u = true := by cases u <;> decide
theorem b2i_nil (u : Bool) : b2i u = 0 ↔ u = false := by cases u <;> decide
theorem may_yes {kd op a b c im : Int} {u : Bool} (h : RMayI kd op a b c im (b2i u)) : mayN ⟨kd, op, a, b, c, im, u⟩ = true := by
  obtain ⟨a0, a1, b0, b1, c0, c1, h⟩ := h
  rcases h with ⟨rfl, o0, o1, hb, rfl, hu⟩ | ⟨rfl, o0, o1, hb, rfl, m0, m1, hu⟩ | ⟨hk, rfl, rfl, rfl, rfl, hu⟩ | ⟨rfl, o0, o1, rfl, m0, m1, hu⟩ | ⟨rfl, o0, o1, rfl, rfl, rfl⟩ | ⟨rfl, o0, o1, rfl, rfl, rfl, m0, m1⟩
  · exact may_reg o0 o1 a0 a1 b0 b1 c0 c1 hb (fun h => hu ((b2i_one u).2 h))
  · exact may_imm o0 o1 a0 a1 b0 b1 m0 m1 hb (fun h => hu ((b2i_one u).2 h))
  · obtain rfl := (b2i_nil u).1 hu
    rcases hk with rfl | rfl
    · exact may_hi a0 a1
    · exact may_fl a0 a1
  · obtain rfl := (b2i_nil u).1 hu
    exact may_mem o0 o1 a0 a1 b0 b1 m0 m1
  · exact may_br o0 o1 c0 c1
  · exact may_jmp o0 o1 m0 m1
theorem tail_1 {op b im : Int} {u : Bool} (h : tailN 1 op b im u = true) : op ≤ 11 ∧ (op = 0 → b = 0) ∧ (b2i u = 1 → 8 ≤ op ∧ op ≤ 10) := by
  simp only [tailN, true_or, if_true] at h
  by_cases h0 : op = 0
  · rw [if_pos h0] at h
    cases u <;> simp at h
    exact ⟨by omega, fun _ => h, fun h => absurd h (by decide)⟩
  · rw [if_neg h0] at h
    by_cases h1 : 11 < op
    · rw [if_pos h1] at h; exact absurd h (by decide)
    · rw [if_neg h1] at h
      cases u
      · exact ⟨by omega, fun h => absurd h h0, fun h => absurd h (by decide)⟩
      · simp at h
        exact ⟨by omega, fun h => absurd h h0, fun _ => h⟩
theorem tail_2 {op b im : Int} {u : Bool} (h : tailN 2 op b im u = true) : op ≤ 11 ∧ (op = 0 → b = 0) ∧ (b2i u = 1 → (8 ≤ op ∧ op ≤ 10) ∨ (op = 0 ∧ 0 ≤ im)) := by
  simp only [tailN, or_true, if_true] at h
  by_cases h0 : op = 0
  · rw [if_pos h0] at h
    cases u <;> simp at h
    · exact ⟨by omega, fun _ => h, fun h => absurd h (by decide)⟩
    · exact ⟨by omega, fun _ => h.1, fun _ => Or.inr ⟨h0, h.2⟩⟩
  · rw [if_neg h0] at h
    by_cases h1 : 11 < op
    · rw [if_pos h1] at h; exact absurd h (by decide)
    · rw [if_neg h1] at h
      cases u
      · exact ⟨by omega, fun h => absurd h h0, fun h => absurd h (by decide)⟩
      · simp at h
        exact ⟨by omega, fun h => absurd h h0, fun _ => Or.inl h⟩
theorem read_kinds (w : Nat) {kd op a b c im : Int} {u : Bool} (e : readN w = ⟨kd, op, a, b, c, im, u⟩) (ht : tailN kd op b im u = true) : RMayI kd op a b c im (b2i u) := by
  have s20 : -524288 ≤ signedN w 19 ∧ signedN w 19 < 524288 := by rw [signed20]; split <;> omega
  have s24 : -8388608 ≤ signedN w 23 ∧ signedN w 23 < 8388608 := by rw [signed24]; split <;> omega
  have hf := read_fields w
  have hbd := read_bounds w
  rw [e] at hf hbd
  obtain ⟨a0, a1, b0, b1, c0, c1, -, -⟩ := hf
  obtain ⟨-, -, o0, o1⟩ := hbd
  refine ⟨a0, a1, b0, b1, c0, c1, ?_⟩
  unfold readN at e
  split at e
  · split at e
    · simp only [Ins.mk.injEq] at e
      obtain ⟨e1, rfl, e3, rfl, rfl, rfl, rfl⟩ := e
      exact Or.inr (Or.inr (Or.inl ⟨by omega, rfl, rfl, rfl, rfl, rfl⟩))
    · simp only [Ins.mk.injEq] at e
      obtain ⟨rfl, e2, e3, e4, e5, rfl, e7⟩ := e
      have := tail_1 ht
      exact Or.inl ⟨rfl, o0, this.1, this.2.1, rfl, this.2.2⟩
  · split at e
    · simp only [Ins.mk.injEq] at e
      obtain ⟨rfl, e2, e3, e4, rfl, e6, e7⟩ := e
      have := tail_2 ht
      exact Or.inr (Or.inl ⟨rfl, o0, this.1, this.2.1, rfl, by omega, by omega, this.2.2⟩)
    · split at e
      · simp only [Ins.mk.injEq] at e
        obtain ⟨rfl, e2, e3, e4, rfl, e6, rfl⟩ := e
        exact Or.inr (Or.inr (Or.inr (Or.inl ⟨rfl, o0, by omega, rfl, by omega, by omega, rfl⟩)))
      · split at e
        · simp only [Ins.mk.injEq] at e
          obtain ⟨rfl, e2, rfl, rfl, rfl, e6, e7⟩ := e
          exact Or.inr (Or.inr (Or.inr (Or.inr (Or.inr ⟨rfl, o0, o1, rfl, rfl, rfl, by omega, by omega⟩))))
        · simp only [Ins.mk.injEq] at e
          obtain ⟨rfl, e2, rfl, rfl, e5, rfl, e7⟩ := e
          exact Or.inr (Or.inr (Or.inr (Or.inr (Or.inl ⟨rfl, o0, o1, rfl, rfl, rfl⟩))))
theorem may_iff {kd op a b c im : Int} {u : Bool} : mayN ⟨kd, op, a, b, c, im, u⟩ = true ↔ RMayI kd op a b c im (b2i u) := by
  refine ⟨fun h => ?_, may_yes⟩
  have e := (may_read h).symm
  rw [mayN_is] at h
  simp only [Bool.and_eq_true] at h
  exact read_kinds _ e h.2
theorem may_no {kd op a b c im : Int} {u : Bool} (h : ¬ RMayI kd op a b c im (b2i u)) : mayN ⟨kd, op, a, b, c, im, u⟩ = false := by
  cases hm : mayN ⟨kd, op, a, b, c, im, u⟩ with
  | false => rfl
  | true => exact absurd (may_iff.1 hm) h

/-! The small ones -/
theorem reg_any (n : Int) (w : World) : Calls Try.prog 26 #[.int .i64 n] w fun e w' => e = .returned (.bool (decide (0 ≤ n) && decide (n ≤ 15))) ∧ w = w' := by
  by_cases c : 0 ≤ n
  · go_enter Try.func26, Try.ntmps26
    go_wp2
    go_ret
    simp [c]
  · go_enter Try.func26, Try.ntmps26
    go_wp2
    go_ret
    simp; omega
theorem reg_is {n : Int} {r : Bool} (h : (decide (0 ≤ n) && decide (n ≤ 15)) = r) : Field.Aside (∀ wx, Calls Try.prog 26 #[.int .i64 n] wx fun e w' => e = .returned (.bool r) ∧ wx = w') :=
  ⟨fun wx => by rw [← h]; exact reg_any n wx⟩
theorem rone_any (u : Bool) (w : World) : Calls Try.prog 22 #[.bool u] w fun e w' => e = .returned (.int .u32 (b2i u)) ∧ w' = w := by
  cases u
  · go_enter Try.func22, Try.ntmps22
    go_wp2
    go_ret
    exact ⟨rfl, rfl⟩
  · go_enter Try.func22, Try.ntmps22
    go_wp2
    go_ret
    exact ⟨rfl, rfl⟩
theorem fits_is {v n : Int} {r : Bool} (h : fitsN v (kn n) = r) : Field.Aside (∀ wx, Calls Try.prog 27 #[.int .i64 v, .int .i64 n] wx fun e w' => e = .returned (.bool r) ∧ wx = w') :=
  ⟨fun wx => by rw [← h]; exact rfits_any v n wx⟩
theorem fits20 (im : Int) : fitsN im (kn 20) = decide (-524288 ≤ im ∧ im < 524288) := by
  unfold fitsN; rfl
theorem fits24 (im : Int) : fitsN im (kn 24) = decide (-8388608 ≤ im ∧ im < 8388608) := by
  unfold fitsN; rfl
end Go.Proofs.Ytnilkljibdjjgaa.Isa
