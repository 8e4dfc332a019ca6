/-
  Plain laws of instructions and words, 2: a word that is decoded, an instruction that may be. No program in sight.
-/
import Derived.Test.YtnilkljibdjjgaaMath3
import Derived.Test.YtnilkljibdjjgaaMay4
namespace Go.Proofs.Ytnilkljibdjjgaa.Isa
open Go.RowKit Go.Proofs.Ytnilkljibdjjgaa.FieldM Go.Proofs.Ytnilkljibdjjgaa.Field

/-- Whether a word is an instruction's. -/
def okN (w : Nat) : Bool := mayN (readN w) && decide (wordN (readN w) = w)

theorem mayN_is (i : Ins) : mayN i = (decide (1 ≤ i.kd) && decide (i.kd ≤ 7) && (decide (0 ≤ i.op) && decide (i.op ≤ 15)) && decide (i = readN (wordN i)) && tailN i.kd i.op i.b i.im i.u) := by
  simp only [mayN, tailN]
theorem may_read {i : Ins} (h : mayN i = true) : i = readN (wordN i) := by
  rw [mayN_is] at h
  simp only [Bool.and_eq_true, decide_eq_true_iff] at h
  exact h.1.2
theorem may_bounds {i : Ins} (h : mayN i = true) : 1 ≤ i.kd ∧ i.kd ≤ 7 ∧ 0 ≤ i.op ∧ i.op ≤ 15 := by
  rw [mayN_is] at h
  simp only [Bool.and_eq_true, decide_eq_true_iff] at h
  exact ⟨h.1.1.1.1, h.1.1.1.2, h.1.1.2.1, h.1.1.2.2⟩
/-- The word of an instruction that may be is decoded. -/
theorem ok_word {i : Ins} (h : mayN i = true) : okN (wordN i) = true ∧ readN (wordN i) = i := by
  have e := (may_read h).symm
  refine ⟨?_, e⟩
  unfold okN
  rw [e, h]
  simp
theorem word_inj {i k : Ins} (hi : mayN i = true) (hk : mayN k = true) : wordN i = wordN k ↔ i = k :=
  ⟨fun h => by rw [may_read hi, may_read hk, h], fun h => by rw [h]⟩

theorem read_bounds (w : Nat) : 1 ≤ (readN w).kd ∧ (readN w).kd ≤ 7 ∧ 0 ≤ (readN w).op ∧ (readN w).op ≤ 15 := by
  unfold readN
  split
  · split
    · simp only; omega
    · simp only; omega
  · split
    · simp only; omega
    · split
      · simp only; omega
      · split
        · simp only; omega
        · simp only; omega
/-- A word is an instruction's just if it is that of what it looks like, and that is none of those that may not be. -/
theorem okN_is (w : Nat) : okN w = (decide (wordN (readN w) = w) && tailN (readN w).kd (readN w).op (readN w).b (readN w).im (readN w).u) := by
  have hb := read_bounds w
  unfold okN
  rw [mayN_is]
  simp only [hb.1, hb.2.1, hb.2.2.1, hb.2.2.2, decide_true, Bool.true_and]
  by_cases h : wordN (readN w) = w
  · rw [h]; simp
  · rw [decide_eq_false h]; simp
theorem not_ok_word {w : Nat} (h : ¬ (wordN (readN w) : Int) = w) : okN w = false := by
  rw [okN_is, decide_eq_false (fun e => h (by rw [e])), Bool.false_and]
theorem not_ok_tail {w : Nat} (h : tailN (readN w).kd (readN w).op (readN w).b (readN w).im (readN w).u = false) : okN w = false := by
  rw [okN_is, h, Bool.and_false]
theorem b2i_dec (p : Prop) [Decidable p] : b2i (decide p) = if p then 1 else 0 := by unfold b2i; by_cases h : p <;> simp [h]

/-! IsaFree -/
theorem read_mem {w : Nat} (h : w / 1073741824 % 4 = 2) : readN w = ⟨5, 2 * (w / 536870912 % 2 : Nat) + (w / 268435456 % 2 : Nat), (w / 16777216 % 16 : Nat), (w / 1048576 % 16 : Nat), 0, signedN w 19, false⟩ := by
  simp [readN, h]
theorem read_jmp {w : Nat} (h : w / 1073741824 % 4 = 3) (h2 : w / 536870912 % 2 = 1) : readN w = ⟨7, (w / 16777216 % 16 : Nat), 0, 0, 0, signedN w 23, decide (w / 268435456 % 2 = 1)⟩ := by
  simp [readN, h, h2]
theorem ok_mem {w : Nat} (hw : w < 4294967296) (h : w / 1073741824 % 4 = 2) : okN w = true := by
  rw [okN_is, read_mem h]
  have ht : tailN 5 (2 * (w / 536870912 % 2 : Nat) + (w / 268435456 % 2 : Nat)) (w / 1048576 % 16 : Nat) (signedN w 19) false = true := by simp [tailN]
  simp only [ht, Bool.and_true, decide_eq_true_iff]
  have e := word5 (2 * (w / 536870912 % 2 : Nat) + (w / 268435456 % 2 : Nat)) (w / 16777216 % 16 : Nat) (w / 1048576 % 16 : Nat) 0 (signedN w 19) false
  have s : signedN w 19 % 1048576 = (w % 1048576 : Nat) := by rw [signed20]; split <;> omega
  rw [s, b2i_dec] at e
  have e2 : b2i ((2 * ((w / 536870912 % 2 : Nat) : Int) + ((w / 268435456 % 2 : Nat) : Int)) % 2 == 1) = ((w / 268435456 % 2 : Nat) : Int) := by
    rcases (show w / 268435456 % 2 = 0 ∨ w / 268435456 % 2 = 1 by omega) with q | q
    · rw [show ((2 * ((w / 536870912 % 2 : Nat) : Int) + ((w / 268435456 % 2 : Nat) : Int)) % 2 == 1) = false from beq_eq_false_iff_ne.2 (by omega), q]; rfl
    · rw [show ((2 * ((w / 536870912 % 2 : Nat) : Int) + ((w / 268435456 % 2 : Nat) : Int)) % 2 == 1) = true from beq_iff_eq.2 (by omega), q]; rfl
  rw [e2] at e
  clear s e2 ht
  generalize wordN _ = z at *
  split at e <;> omega
theorem ok_jmp {w : Nat} (hw : w < 4294967296) (h : w / 1073741824 % 4 = 3) (h2 : w / 536870912 % 2 = 1) : okN w = true := by
  rw [okN_is, read_jmp h h2]
  have ht : tailN 7 (w / 16777216 % 16 : Nat) 0 (signedN w 23) (decide (w / 268435456 % 2 = 1)) = true := by simp [tailN]
  simp only [ht, Bool.and_true, decide_eq_true_iff]
  have e := word7 (w / 16777216 % 16 : Nat) 0 0 0 (signedN w 23) (decide (w / 268435456 % 2 = 1))
  have s : signedN w 23 % 16777216 = (w % 16777216 : Nat) := by rw [signed24]; split <;> omega
  rw [s, b2i_dec] at e
  clear s ht
  generalize wordN _ = z at *
  split at e <;> omega

/-! IsaBits -/
theorem read_low {w : Nat} (h : w / 1073741824 % 4 = 0 ∨ w / 1073741824 % 4 = 1) (h12 : 12 ≤ w / 65536 % 16) : okN w = false := by
  apply not_ok_tail
  rcases h with h | h
  · have e : readN w = ⟨1, (w / 65536 % 16 : Nat), (w / 16777216 % 16 : Nat), (w / 1048576 % 16 : Nat), (w % 16 : Nat), 0, decide (w / 536870912 % 2 = 1)⟩ := by
      have : ¬ w / 65536 % 16 = 0 := by omega
      simp [readN, h, this]
    rw [e]
    simp only [tailN, true_or, if_true]
    rw [if_neg (by omega), if_pos (by omega)]
  · have e : readN w = ⟨2, (w / 65536 % 16 : Nat), (w / 16777216 % 16 : Nat), (w / 1048576 % 16 : Nat), 0, ((w % 65536 : Nat) : Int) - ((w / 268435456 % 2 : Nat) : Int) * 65536, decide (w / 536870912 % 2 = 1)⟩ := by
      simp [readN, h]
    rw [e]
    simp only [tailN, or_true, if_true]
    rw [if_neg (by omega), if_pos (by omega)]
/-- A word of format 0 that is none of H or of the flags. -/
theorem read_reg {w : Nat} (h : w / 1073741824 % 4 = 0) (h2 : ¬ (w / 536870912 % 2 = 1 ∧ w / 65536 % 16 = 0)) : readN w = ⟨1, (w / 65536 % 16 : Nat), (w / 16777216 % 16 : Nat), (w / 1048576 % 16 : Nat), (w % 16 : Nat), 0, decide (w / 536870912 % 2 = 1)⟩ := by
  simp only [readN, h, if_true, if_neg h2]
theorem not_reg {w : Nat} (h : w / 1073741824 % 4 = 0) (h2 : w / 536870912 % 2 = 0) (hx : ¬ w / 16 % 4096 = 0) : okN w = false := by
  apply not_ok_word
  rw [read_reg h (by omega), word1, b2i_dec, if_neg (by omega)]
  omega
theorem not_sign {w : Nat} (h : w / 1073741824 % 4 = 0) (h2 : w / 536870912 % 2 = 0) (hx : w / 268435456 % 2 = 1) : okN w = false := by
  apply not_ok_word
  rw [read_reg h (by omega), word1, b2i_dec, if_neg (by omega)]
  omega
theorem not_branch {w : Nat} (h : w / 1073741824 % 4 = 3) (h2 : w / 536870912 % 2 = 0) (hx : ¬ w / 16 % 4096 = 0) : okN w = false := by
  apply not_ok_word
  have e : readN w = ⟨6, (w / 16777216 % 16 : Nat), 0, 0, (w % 16 : Nat), 0, decide (w / 268435456 % 2 = 1)⟩ := by
    simp [readN, h, h2]
  rw [e, word6, b2i_dec]
  split <;> omega
theorem not_carry {w : Nat} (h : w / 1073741824 % 4 = 0) (h2 : w / 536870912 % 2 = 1) (h4 : w / 65536 % 16 = 4) : okN w = false := by
  apply not_ok_tail
  rw [read_reg h (by omega), h4, decide_eq_true h2]
  simp [tailN]
theorem not_moved {w : Nat} (h : w / 1073741824 % 4 = 0) (h2 : w / 536870912 % 2 = 0) (h4 : w / 65536 % 16 = 0) (hb : w / 1048576 % 16 = 1) : okN w = false := by
  apply not_ok_tail
  rw [read_reg h (by omega), h4, hb, decide_eq_false (by omega)]
  simp [tailN]
end Go.Proofs.Ytnilkljibdjjgaa.Isa
