/-
  The reference's Fit makes of any instruction one that may be.
-/
import Derived.Test.YtnilkljibdjjgaaKinds
import Derived.Test.YtnilkljibdjjgaaAny
import Derived.Test.YtnilkljibdjjgaaPIsaBackx2
namespace Go.Proofs.Ytnilkljibdjjgaa.Isa
open Go Go.RowKit Go.Proofs.Ytnilkljibdjjgaa.FieldM Go.Proofs.Ytnilkljibdjjgaa.Field Go.Proofs.Ytnilkljibdjjgaa.PIsaBack

theorem w64f {a : Int} (h0 : -9223372036854775808 ≤ a) (h1 : a < 9223372036854775808) : wrap64 a = a := by
  unfold wrap64; omega
theorem fit_kd (a : Int) : ∃ K, wrap64 (1 + Int.tmod (wrap64 (Int.tmod a 7 + 7)) 7) = K ∧ 1 ≤ K ∧ K ≤ 7 := by
  have h1 := Int.lt_tmod_of_pos a (show (0 : Int) < 7 by decide)
  have h2 := Int.tmod_lt_of_pos a (show (0 : Int) < 7 by decide)
  generalize Int.tmod a 7 = z at *
  rw [w64f (a := z + 7) (by omega) (by omega), Int.tmod_eq_emod_of_nonneg (by omega), w64f (by omega) (by omega)]
  exact ⟨_, rfl, by omega, by omega⟩
theorem fit_op (a : Int) : ∃ K, Int.tmod (wrap64 (Int.tmod a 12 + 12)) 12 = K ∧ 0 ≤ K ∧ K ≤ 11 := by
  have h1 := Int.lt_tmod_of_pos a (show (0 : Int) < 12 by decide)
  have h2 := Int.tmod_lt_of_pos a (show (0 : Int) < 12 by decide)
  generalize Int.tmod a 12 = z at *
  rw [w64f (a := z + 12) (by omega) (by omega), Int.tmod_eq_emod_of_nonneg (by omega)]
  exact ⟨_, rfl, by omega, by omega⟩

/-- What Fit comes to. -/
def Fits (i : Ins) : Prop := ∃ j : Ins, mayN j = true ∧ rivetref03_Fit.f 4 i.kd i.op i.a i.b i.c i.im i.u = some (j.kd, j.op, j.a, j.b, j.c, j.im, j.u)
theorem ten {op : Int} {u : Bool} (h : u = true → decide (8 ≤ op) = true ∧ decide (op ≤ 10) = true) : u = true → 8 ≤ op ∧ op ≤ 10 := fun hu => ⟨of_decide_eq_true (h hu).1, of_decide_eq_true (h hu).2⟩
theorem fits_any (i : Ins) : Fits i := by
  obtain ⟨kd, op, a, b, c, im, u⟩ := i
  obtain ⟨K, hK, k1, k7⟩ := fit_kd kd
  obtain ⟨P, hP, p0, p1⟩ := fit_op op
  unfold Fits rivetref03_Fit.f
  simp only [hK, hP, and15]
  rcases (show K = 1 ∨ K = 2 ∨ K = 3 ∨ K = 4 ∨ K = 5 ∨ K = 6 ∨ K = 7 by omega) with rfl | rfl | rfl | rfl | rfl | rfl | rfl
  · simp only [if_true, rivetref03_Fit.j0, rivetref03_Fit.j1, rivetref03_Fit.j2, beq_self_eq_true, and15]
    by_cases z : P = 0
    · subst z
      cases u
      · exact ⟨⟨1, 0, a % 16, 0, c % 16, 0, false⟩, may_reg (by omega) (by omega) (by omega) (by omega) (by omega) (by omega) (by omega) (by omega) (by omega) (by simp), by simp⟩
      · exact ⟨⟨1, 0, a % 16, 0, c % 16, 0, false⟩, may_reg (by omega) (by omega) (by omega) (by omega) (by omega) (by omega) (by omega) (by omega) (by omega) (by simp), by simp⟩
    · cases u
      · exact ⟨⟨1, P, a % 16, b % 16, c % 16, 0, false⟩, may_reg (by omega) (by omega) (by omega) (by omega) (by omega) (by omega) (by omega) (by omega) (by omega) (by simp), by simp [z]⟩
      · by_cases z8 : P ≥ 8
        · by_cases z10 : P ≤ 10
          · exact ⟨⟨1, P, a % 16, b % 16, c % 16, 0, true⟩, may_reg (by omega) (by omega) (by omega) (by omega) (by omega) (by omega) (by omega) (by omega) (by omega) (fun _ => ⟨z8, z10⟩), by simp [z, z8, z10]⟩
          · exact ⟨⟨1, P, a % 16, b % 16, c % 16, 0, false⟩, may_reg (by omega) (by omega) (by omega) (by omega) (by omega) (by omega) (by omega) (by omega) (by omega) (by simp), by simp [z, z8, z10]⟩
        · exact ⟨⟨1, P, a % 16, b % 16, c % 16, 0, false⟩, may_reg (by omega) (by omega) (by omega) (by omega) (by omega) (by omega) (by omega) (by omega) (by omega) (by simp), by simp [z, z8]⟩
  · simp only [show ¬ (2 : Int) = 1 by decide, if_false, if_true, rivetref03_Fit.j0, rivetref03_Fit.j1, rivetref03_Fit.j2, beq_self_eq_true, and15, and131071, and65535]
    have e : wrap64 (im % 131072 - 65536) = im % 131072 - 65536 := w64f (by omega) (by omega)
    rw [e]
    by_cases z : P = 0
    · subst z
      cases u
      · exact ⟨⟨2, 0, a % 16, 0, 0, im % 131072 - 65536, false⟩, may_imm (by omega) (by omega) (by omega) (by omega) (by omega) (by omega) (by omega) (by omega) (by omega) (by simp), by simp⟩
      · exact ⟨⟨2, 0, a % 16, 0, 0, im % 65536, true⟩, may_imm (by omega) (by omega) (by omega) (by omega) (by omega) (by omega) (by omega) (by omega) (by omega) (fun _ => Or.inr ⟨rfl, by omega⟩), by simp⟩
    · cases u
      · exact ⟨⟨2, P, a % 16, b % 16, 0, im % 131072 - 65536, false⟩, may_imm (by omega) (by omega) (by omega) (by omega) (by omega) (by omega) (by omega) (by omega) (by omega) (by simp), by simp [z]⟩
      · by_cases z8 : P ≥ 8
        · by_cases z10 : P ≤ 10
          · exact ⟨⟨2, P, a % 16, b % 16, 0, im % 131072 - 65536, true⟩, may_imm (by omega) (by omega) (by omega) (by omega) (by omega) (by omega) (by omega) (by omega) (by omega) (fun _ => Or.inl ⟨z8, z10⟩), by simp [z, z8, z10]⟩
          · exact ⟨⟨2, P, a % 16, b % 16, 0, im % 131072 - 65536, false⟩, may_imm (by omega) (by omega) (by omega) (by omega) (by omega) (by omega) (by omega) (by omega) (by omega) (by simp), by simp [z, z8, z10]⟩
        · exact ⟨⟨2, P, a % 16, b % 16, 0, im % 131072 - 65536, false⟩, may_imm (by omega) (by omega) (by omega) (by omega) (by omega) (by omega) (by omega) (by omega) (by omega) (by simp), by simp [z, z8]⟩
  · exact ⟨⟨3, 0, a % 16, 0, 0, 0, false⟩, may_hi (by omega) (by omega), by simp [rivetref03_Fit.j0]⟩
  · exact ⟨⟨4, 0, a % 16, 0, 0, 0, false⟩, may_fl (by omega) (by omega), by simp [rivetref03_Fit.j0]⟩
  · have e : wrap64 (im % 1048576 - 524288) = im % 1048576 - 524288 := w64f (by omega) (by omega)
    exact ⟨⟨5, op % 4, a % 16, b % 16, 0, im % 1048576 - 524288, false⟩, may_mem (by omega) (by omega) (by omega) (by omega) (by omega) (by omega) (by omega) (by omega), by simp [rivetref03_Fit.j0, and15, and3, and1048575, e]⟩
  · exact ⟨⟨6, op % 16, 0, 0, c % 16, 0, u⟩, may_br (by omega) (by omega) (by omega) (by omega), by simp [rivetref03_Fit.j0, and15]⟩
  · have e : wrap64 (im % 16777216 - 8388608) = im % 16777216 - 8388608 := w64f (by omega) (by omega)
    exact ⟨⟨7, op % 16, 0, 0, 0, im % 16777216 - 8388608, u⟩, may_jmp (by omega) (by omega) (by omega) (by omega), by simp [rivetref03_Fit.j0, and15, and16777215, e]⟩

theorem fit_is (i : Ins) : ∃ j : Ins, mayN j = true ∧ Field.Aside (∀ wx, Calls Try.prog 18 #[i.v] wx fun e w' => e = .returned j.v ∧ Bl wx w') := by
  obtain ⟨j, hm, hf⟩ := fits_any i
  exact ⟨j, hm, ⟨fun wx => (rivetref03_Fit.calls 4 i.kd i.op i.a i.b i.c i.im i.u j.kd j.op j.a j.b j.c j.im j.u wx hf).mono fun _ _ ⟨e, k⟩ => ⟨e, ⟨k⟩⟩⟩⟩
end Go.Proofs.Ytnilkljibdjjgaa.Isa
