/-
  Plain laws of instructions, 3: which instructions may be, kind by kind. No program in sight.
-/
import Derived.Test.YtnilkljibdjjgaaMath4
import Derived.Laws.BitsLemmas
namespace Go.Proofs.Ytnilkljibdjjgaa.Isa
open Go Go.RowKit Go.Proofs.Ytnilkljibdjjgaa.FieldM Go.Proofs.Ytnilkljibdjjgaa.Field

theorem may_of {i : Ins} (h1 : 1 ≤ i.kd) (h7 : i.kd ≤ 7) (o0 : 0 ≤ i.op) (o1 : i.op ≤ 15) (hr : readN (wordN i) = i) (ht : tailN i.kd i.op i.b i.im i.u = true) : mayN i = true := by
  rw [mayN_is, hr, ht]
  simp [h1, h7, o0, o1]
theorem dec_b2i (u : Bool) {p : Prop} [Decidable p] (h : p ↔ b2i u = 1) : decide p = u := by
  cases u
  · exact decide_eq_false (by rw [h]; decide)
  · exact decide_eq_true (by rw [h]; rfl)

theorem may_reg {op a b c : Int} {u : Bool} (o0 : 0 ≤ op) (o1 : op ≤ 11) (a0 : 0 ≤ a) (a1 : a ≤ 15) (b0 : 0 ≤ b) (b1 : b ≤ 15) (c0 : 0 ≤ c) (c1 : c ≤ 15) (hb : op = 0 → b = 0) (hu : u = true → 8 ≤ op ∧ op ≤ 10) :
    mayN ⟨1, op, a, b, c, 0, u⟩ = true := by
  have e := word1 op a b c 0 u
  have hr := b2i_range u
  have hu1 : b2i u = 1 → 8 ≤ op := by cases u; (intro h; exact absurd h (by decide)); exact fun _ => (hu rfl).1
  refine may_of (by simp) (by simp) o0 (by simp; omega) ?_ ?_
  · have hu' := fun p [Decidable p] => dec_b2i u (p := p)
    generalize wordN _ = w at *
    rw [read_reg (by omega) (by omega)]
    have h2 := hu' (w / 536870912 % 2 = 1) (by omega)
    rw [h2]
    simp only [Ins.mk.injEq, true_and, and_true]
    omega
  · simp only [tailN, true_or, if_true]
    by_cases h : op = 0
    · subst h
      have : u = false := by cases u; rfl; exact absurd (hu rfl).1 (by omega)
      subst this
      simp [hb rfl]
    · rw [if_neg h, if_neg (by omega)]
      cases u
      · rfl
      · have := hu rfl
        simp [this.1, this.2]
theorem may_imm {op a b im : Int} {u : Bool} (o0 : 0 ≤ op) (o1 : op ≤ 11) (a0 : 0 ≤ a) (a1 : a ≤ 15) (b0 : 0 ≤ b) (b1 : b ≤ 15) (m0 : -65536 ≤ im) (m1 : im ≤ 65535) (hb : op = 0 → b = 0) (hu : u = true → (8 ≤ op ∧ op ≤ 10) ∨ (op = 0 ∧ 0 ≤ im)) :
    mayN ⟨2, op, a, b, 0, im, u⟩ = true := by
  have e := word2 op a b 0 im u
  have hr := b2i_range u
  refine may_of (by simp) (by simp) o0 (by simp; omega) ?_ ?_
  · have hu' := fun p [Decidable p] => dec_b2i u (p := p)
    rw [b2i_dec] at e
    generalize wordN _ = w at *
    have r : readN w = ⟨2, (w / 65536 % 16 : Nat), (w / 16777216 % 16 : Nat), (w / 1048576 % 16 : Nat), 0, ((w % 65536 : Nat) : Int) - ((w / 268435456 % 2 : Nat) : Int) * 65536, decide (w / 536870912 % 2 = 1)⟩ := by
      have h : w / 1073741824 % 4 = 1 := by split at e <;> omega
      simp [readN, h]
    rw [r]
    have h2 := hu' (w / 536870912 % 2 = 1) (by split at e <;> omega)
    rw [h2]
    simp only [Ins.mk.injEq, true_and, and_true]
    split at e <;> omega
  · simp only [tailN, or_true, if_true]
    by_cases h : op = 0
    · subst h
      rw [hb rfl]
      cases u
      · simp
      · rcases hu rfl with h | h
        · omega
        · simp [h.2]
    · rw [if_neg h, if_neg (by omega)]
      cases u
      · rfl
      · rcases hu rfl with h' | h'
        · simp [h'.1, h'.2]
        · omega
theorem may_hi {a : Int} (a0 : 0 ≤ a) (a1 : a ≤ 15) : mayN ⟨3, 0, a, 0, 0, 0, false⟩ = true := by
  have e := word3 0 a 0 0 0 false
  refine may_of (by simp) (by simp) (by simp) (by simp) ?_ (by simp [tailN])
  generalize wordN _ = w at *
  have h : w / 1073741824 % 4 = 0 := by omega
  have h2 : w / 536870912 % 2 = 1 := by omega
  have h3 : w / 65536 % 16 = 0 := by omega
  simp only [readN, h, h2, h3, and_self, if_true, Ins.mk.injEq, true_and, and_true]
  omega
theorem may_fl {a : Int} (a0 : 0 ≤ a) (a1 : a ≤ 15) : mayN ⟨4, 0, a, 0, 0, 0, false⟩ = true := by
  have e := word4 0 a 0 0 0 false
  refine may_of (by simp) (by simp) (by simp) (by simp) ?_ (by simp [tailN])
  generalize wordN _ = w at *
  have h : w / 1073741824 % 4 = 0 := by omega
  have h2 : w / 536870912 % 2 = 1 := by omega
  have h3 : w / 65536 % 16 = 0 := by omega
  simp only [readN, h, h2, h3, and_self, if_true, Ins.mk.injEq, true_and, and_true]
  omega
theorem may_mem {op a b im : Int} (o0 : 0 ≤ op) (o1 : op ≤ 3) (a0 : 0 ≤ a) (a1 : a ≤ 15) (b0 : 0 ≤ b) (b1 : b ≤ 15) (m0 : -524288 ≤ im) (m1 : im < 524288) : mayN ⟨5, op, a, b, 0, im, false⟩ = true := by
  have e := word5 op a b 0 im false
  refine may_of (by simp) (by simp) o0 (by simp; omega) ?_ (by simp [tailN])
  have e2 : b2i (op % 2 == 1) = op % 2 := by
    rcases (show op % 2 = 0 ∨ op % 2 = 1 by omega) with h | h <;> rw [h] <;> rfl
  rw [b2i_dec, e2] at e
  generalize wordN _ = w at *
  have h : w / 1073741824 % 4 = 2 := by split at e <;> omega
  rw [read_mem h, signed20]
  simp only [Ins.mk.injEq, true_and, and_true]
  split at e <;> split <;> omega
theorem may_br {op c : Int} {u : Bool} (o0 : 0 ≤ op) (o1 : op ≤ 15) (c0 : 0 ≤ c) (c1 : c ≤ 15) : mayN ⟨6, op, 0, 0, c, 0, u⟩ = true := by
  have e := word6 op 0 0 c 0 u
  have hr := b2i_range u
  refine may_of (by simp) (by simp) o0 o1 ?_ (by simp [tailN])
  have hu' := fun p [Decidable p] => dec_b2i u (p := p)
  generalize wordN _ = w at *
  have r : readN w = ⟨6, (w / 16777216 % 16 : Nat), 0, 0, (w % 16 : Nat), 0, decide (w / 268435456 % 2 = 1)⟩ := by
    have h : w / 1073741824 % 4 = 3 := by omega
    have h2 : w / 536870912 % 2 = 0 := by omega
    simp [readN, h, h2]
  rw [r, hu' (w / 268435456 % 2 = 1) (by omega)]
  simp only [Ins.mk.injEq, true_and, and_true]
  omega
theorem may_jmp {op im : Int} {u : Bool} (o0 : 0 ≤ op) (o1 : op ≤ 15) (m0 : -8388608 ≤ im) (m1 : im < 8388608) : mayN ⟨7, op, 0, 0, 0, im, u⟩ = true := by
  have e := word7 op 0 0 0 im u
  have hr := b2i_range u
  refine may_of (by simp) (by simp) o0 o1 ?_ (by simp [tailN])
  have hu' := fun p [Decidable p] => dec_b2i u (p := p)
  generalize wordN _ = w at *
  rw [read_jmp (by omega) (by omega), hu' (w / 268435456 % 2 = 1) (by omega), signed24]
  simp only [Ins.mk.injEq, true_and, and_true]
  split <;> omega

/-! What may not be. -/
theorem read_fields (w : Nat) : 0 ≤ (readN w).a ∧ (readN w).a ≤ 15 ∧ 0 ≤ (readN w).b ∧ (readN w).b ≤ 15 ∧ 0 ≤ (readN w).c ∧ (readN w).c ≤ 15 ∧ -8388608 ≤ (readN w).im ∧ (readN w).im < 8388608 := by
  have h1 : -8388608 ≤ signedN w 19 ∧ signedN w 19 < 8388608 := by rw [signed20]; split <;> omega
  have h2 : -8388608 ≤ signedN w 23 ∧ signedN w 23 < 8388608 := by rw [signed24]; split <;> omega
  unfold readN
  split
  · split
    · simp only; omega
    · simp only; omega
  · split
    · simp only; omega
    · split
      · simp only; omega
      · split
        · simp only; omega
        · simp only; omega
theorem may_fields {i : Ins} (h : mayN i = true) : 0 ≤ i.a ∧ i.a ≤ 15 ∧ 0 ≤ i.b ∧ i.b ≤ 15 ∧ 0 ≤ i.c ∧ i.c ≤ 15 ∧ -8388608 ≤ i.im ∧ i.im < 8388608 := by
  rw [may_read h]; exact read_fields _
theorem not_may {i : Ins} (h : i.kd < 1 ∨ 7 < i.kd ∨ 15 < i.op ∨ 15 < i.a ∨ i.b < 0 ∨ 15 < i.c ∨ 8388608 ≤ i.im) : mayN i = false := by
  cases hm : mayN i with
  | false => rfl
  | true =>
    have := may_fields hm
    have := may_bounds hm
    omega

/-! The lowest bits of a number, the mask as the walk spells it. -/
theorem i64_mask (n m : Int) (k d : Nat) (hm : (BitVec.ofInt 64 m).toNat = 2 ^ k - 1) (hd : 2 ^ k = d) (h0 : 0 < d) (hl : d ≤ 4294967296) (hv : (d : Int) ∣ ((2 ^ 64 : Nat) : Int)) : bits .and .i64 n m = n % (d : Int) := by
  have key : (BitVec.ofInt 64 n &&& BitVec.ofInt 64 m).toNat = (n % ((2 ^ 64 : Nat) : Int)).toNat % d := by
    rw [BitVec.toNat_and, BitVec.toNat_ofInt, hm, Nat.and_two_pow_sub_one_eq_mod, hd]
  have e : ((n % ((2 ^ 64 : Nat) : Int)).toNat % d : Nat) = (n % (d : Int)).toNat := by
    have h1 := Int.emod_nonneg n (show ((2 ^ 64 : Nat) : Int) ≠ 0 by decide)
    have h2 := Int.emod_nonneg n (show (d : Int) ≠ 0 by omega)
    have h3 := Int.emod_emod_of_dvd n hv
    apply Int.ofNat.inj
    rw [Int.ofNat_eq_natCast, Int.ofNat_eq_natCast, Int.natCast_emod, Int.toNat_of_nonneg h1, Int.toNat_of_nonneg h2, h3]
  have h2 := Int.emod_nonneg n (show (d : Int) ≠ 0 by omega)
  have h3 := Int.emod_lt_of_pos n (show (0 : Int) < (d : Int) by omega)
  show IntKind.i64.wrap ((BitVec.ofInt 64 n &&& BitVec.ofInt 64 m).toNat : Nat) = n % (d : Int)
  rw [key, e, IntKind.wrap_i64]
  omega
theorem and3 (n : Int) : bits .and .i64 n 3 = n % 4 := i64_mask n 3 2 4 (by decide) (by decide) (by decide) (by decide) (by decide)
theorem and15 (n : Int) : bits .and .i64 n 15 = n % 16 := i64_mask n 15 4 16 (by decide) (by decide) (by decide) (by decide) (by decide)
theorem and65535 (n : Int) : bits .and .i64 n 65535 = n % 65536 := i64_mask n 65535 16 65536 (by decide) (by decide) (by decide) (by decide) (by decide)
theorem and131071 (n : Int) : bits .and .i64 n 131071 = n % 131072 := i64_mask n 131071 17 131072 (by decide) (by decide) (by decide) (by decide) (by decide)
theorem and1048575 (n : Int) : bits .and .i64 n 1048575 = n % 1048576 := i64_mask n 1048575 20 1048576 (by decide) (by decide) (by decide) (by decide) (by decide)
theorem and16777215 (n : Int) : bits .and .i64 n 16777215 = n % 16777216 := i64_mask n 16777215 24 16777216 (by decide) (by decide) (by decide) (by decide) (by decide)
end Go.Proofs.Ytnilkljibdjjgaa.Isa
