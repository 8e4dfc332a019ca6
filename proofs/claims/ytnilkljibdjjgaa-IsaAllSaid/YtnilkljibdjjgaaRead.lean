/-
  isa.read and isa.May, for any word and any instruction.
-/
import Derived.Test.YtnilkljibdjjgaaReadA
import Derived.Test.YtnilkljibdjjgaaReadB
import Derived.Test.YtnilkljibdjjgaaReadC
import Derived.Test.YtnilkljibdjjgaaReadD
import Derived.Test.YtnilkljibdjjgaaMayA
import Derived.Test.YtnilkljibdjjgaaMayB
import Derived.Test.YtnilkljibdjjgaaMay4
import Derived.Test.YtnilkljibdjjgaaLawMath
namespace Go.Proofs.Ytnilkljibdjjgaa.Isa
open Go.RowKit Go.Proofs.Ytnilkljibdjjgaa.FieldM Go.Proofs.Ytnilkljibdjjgaa.Field

theorem get_at (w a k : Nat) (d m : Nat) (h : a + k ≤ 32) (hd : 2 ^ a = d) (hm : 2 ^ k = m) : (getN w (a : Int) (k : Int) : Int) = ((w / d % m : Nat) : Int) := by
  rw [getN_eq w a k h, hd, hm]
theorem bit_is (z : Nat) : (((z : Nat) : Int) == 1) = decide (z = 1) := by
  by_cases h : z = 1
  · subst h; rfl
  · rw [decide_eq_false h]; exact beq_eq_false_iff_ne.2 (by omega)

theorem read_any (w : Nat) (hw : w < 4294967296) (W : World) :
    Calls Try.prog 23 #[.int .u32 w] W fun e w' => e = .returned (readN w).v ∧ Bl W w' := by
  obtain ⟨W1, hW1⟩ : ∃ W1, W1 = W.alloc (.cells #[.int .u32 w] 24) := ⟨_, rfl⟩
  have HW := Field.Aside.mk hW1
  have hc : W1.cell? ⟨W.heap.size, 0, none⟩ = some (.int .u32 w) := by rw [hW1, World.cell?_alloc_at _ _ _ _ rfl]; rfl
  have S20 : Field.Aside (∀ wx, Calls Try.prog 20 #[.int .u32 w, .int .i64 20] wx fun e w' => e = .returned (.int .i64 (signedN w 19)) ∧ wx = w') := ⟨fun wx => signed_any w 20 wx⟩
  have S24 : Field.Aside (∀ wx, Calls Try.prog 20 #[.int .u32 w, .int .i64 24] wx fun e w' => e = .returned (.int .i64 (signedN w 23)) ∧ wx = w') := ⟨fun wx => signed_any w 24 wx⟩
  have G (a n : Int) (hn : n ≤ 9223372036854775807) (r : Int) (hr : (getN w a n : Int) = r) := rget_c w a n r W.heap.size W1 hw hn hc hr
  have g28 := G 28 1 (by omega) _ (get_at w 28 1 268435456 2 (by omega) (by decide) (by decide))
  have g24 := G 24 4 (by omega) _ (get_at w 24 4 16777216 16 (by omega) (by decide) (by decide))
  have g20 := G 20 4 (by omega) _ (get_at w 20 4 1048576 16 (by omega) (by decide) (by decide))
  have g16 := G 16 4 (by omega) _ (get_at w 16 4 65536 16 (by omega) (by decide) (by decide))
  have g0 := G 0 4 (by omega) _ (get_at w 0 4 1 16 (by omega) (by decide) (by decide))
  have gi := G 0 16 (by omega) _ (get_at w 0 16 1 65536 (by omega) (by decide) (by decide))
  have e29 := get_at w 29 1 536870912 2 (by omega) (by decide) (by decide)
  have e30 := get_at w 30 2 1073741824 4 (by omega) (by decide) (by decide)
  rw [Nat.div_one] at g0 gi
  have c28 : ((w / 268435456 % 2 : Nat) : Int) ≤ 1 := by omega
  have ci : ((w % 65536 : Nat) : Int) ≤ 65535 := by omega
  rcases (show w / 536870912 % 2 = 0 ∨ w / 536870912 % 2 = 1 by omega) with h29 | h29 <;>
    rcases (show w / 1073741824 % 4 = 0 ∨ w / 1073741824 % 4 = 1 ∨ w / 1073741824 % 4 = 2 ∨ w / 1073741824 % 4 = 3 by omega) with h30 | h30 | h30 | h30
  all_goals
    have g29 := G 29 1 (by omega) _ e29
    have g30 := G 30 2 (by omega) _ e30
    rw [h29] at g29
    rw [h30] at g30
  · refine (read_0a w W W1 _ _ _ _ _ _ _ _ _ HW (by omega) c28 rfl (by omega) ci S20 S24 g29 g28 g24 g20 g16 g30 g0 gi).mono ?_
    rintro e w' ⟨rfl, hb⟩
    refine ⟨?_, hb⟩
    simp [readN, Ins.v, h29, h30]
  · refine (read_1a w W W1 _ _ _ _ _ _ _ _ _ HW (by omega) c28 rfl (by omega) ci S20 S24 g29 g28 g24 g20 g16 g30 g0 gi).mono ?_
    rintro e w' ⟨rfl, hb⟩
    refine ⟨?_, hb⟩
    simp [readN, Ins.v, h29, h30]
  · refine (read_2a w W W1 _ _ _ _ _ _ _ _ _ HW (by omega) c28 rfl (by omega) ci S20 S24 g29 g28 g24 g20 g16 g30 g0 gi).mono ?_
    rintro e w' ⟨rfl, hb⟩
    refine ⟨?_, hb⟩
    simp [readN, Ins.v, h29, h30]
  · refine (read_3a w W W1 _ _ _ _ _ _ _ _ _ HW (by omega) c28 (bit_is _) (by omega) ci S20 S24 g29 g28 g24 g20 g16 g30 g0 gi).mono ?_
    rintro e w' ⟨rfl, hb⟩
    refine ⟨?_, hb⟩
    simp [readN, Ins.v, h29, h30]
  · by_cases h16 : w / 65536 % 16 = 0
    · rw [h16] at g16
      refine (read_0c w W W1 _ _ _ 0 _ _ _ _ _ HW (by omega) c28 rfl (by omega) ci S20 S24 g29 g28 g24 g20 g16 g30 g0 gi).mono ?_
      rintro e w' ⟨rfl, hb⟩
      refine ⟨?_, hb⟩
      simp [readN, Ins.v, h29, h30, h16]
    · refine (read_0b w W W1 _ _ _ _ _ _ _ _ _ HW (by omega) c28 rfl (by omega) ci (beq_eq_false_iff_ne.2 (by omega)) S20 S24 g29 g28 g24 g20 g16 g30 g0 gi).mono ?_
      rintro e w' ⟨rfl, hb⟩
      refine ⟨?_, hb⟩
      simp [readN, Ins.v, h29, h30, h16]
  · refine (read_1b w W W1 _ _ _ _ _ _ _ _ _ HW (by omega) c28 rfl (by omega) ci S20 S24 g29 g28 g24 g20 g16 g30 g0 gi).mono ?_
    rintro e w' ⟨rfl, hb⟩
    refine ⟨?_, hb⟩
    simp [readN, Ins.v, h29, h30]
  · refine (read_2b w W W1 _ _ _ _ _ _ _ _ _ HW (by omega) c28 rfl (by omega) ci S20 S24 g29 g28 g24 g20 g16 g30 g0 gi).mono ?_
    rintro e w' ⟨rfl, hb⟩
    refine ⟨?_, hb⟩
    simp [readN, Ins.v, h29, h30]
  · refine (read_3b w W W1 _ _ _ _ _ _ _ _ _ HW (by omega) c28 (bit_is _) (by omega) ci S20 S24 g29 g28 g24 g20 g16 g30 g0 gi).mono ?_
    rintro e w' ⟨rfl, hb⟩
    refine ⟨?_, hb⟩
    simp [readN, Ins.v, h29, h30]

theorem may_any (i : Ins) (W : World) : Calls Try.prog 16 #[i.v] W fun e w' => e = .returned (.bool (mayN i)) ∧ Bl W w' := by
  obtain ⟨W1, hW1⟩ : ∃ W1, W1 = W.alloc (.cells #[.int .i64 i.kd, .int .i64 i.op, .int .i64 i.a, .int .i64 i.b, .int .i64 i.c, .int .i64 i.im, .bool i.u] 23) := ⟨_, rfl⟩
  have HW := Field.Aside.mk hW1
  have B (n l h : Int) (r : Bool) (hr : (decide (l ≤ n) && decide (n ≤ h)) = r) : Field.Aside (∀ wx, Calls Try.prog 25 #[.int .i64 n, .int .i64 l, .int .i64 h] wx fun e w' => e = .returned (.bool r) ∧ wx = w') :=
    ⟨fun wx => by rw [← hr]; exact between_any n l h wx⟩
  have hlt := wordN_lt i
  by_cases h1 : 1 ≤ i.kd ∧ i.kd ≤ 7
  · have B1 := B i.kd 1 7 true (by simp [h1.1, h1.2])
    by_cases h2 : 0 ≤ i.op ∧ i.op ≤ 15
    · have B2 := B i.op 0 15 true (by simp [h2.1, h2.2])
      have WD : Field.Aside (∀ wx, Calls Try.prog 21 #[.agg #[.int .i64 i.kd, .int .i64 i.op, .int .i64 i.a, .int .i64 i.b, .int .i64 i.c, .int .i64 i.im, .bool i.u]] wx fun e w' => e = .returned (.int .u32 (wordN i)) ∧ Bl wx w') :=
        ⟨fun wx => word_any i.kd i.op i.a i.b i.c i.im i.u wx h1.1 h1.2 h2.1 h2.2⟩
      have RD : Field.Aside (∀ wx, Calls Try.prog 23 #[.int .u32 (wordN i)] wx fun e w' => e = .returned (readN (wordN i)).v ∧ Bl wx w') := ⟨fun wx => read_any (wordN i) hlt wx⟩
      have hm : mayN i = (decide (i = readN (wordN i)) && tailN i.kd i.op i.b i.im i.u) := by
        simp only [mayN, tailN, h1.1, h1.2, h2.1, h2.2, decide_true, Bool.true_and]
      rw [hm]
      by_cases he : i = readN (wordN i)
      · rw [← he] at RD
        rw [decide_eq_true he, Bool.true_and]
        exact may_4 i.kd i.op i.a i.b i.c i.im i.u W W1 HW B1 B2 _ WD RD h1.1 h1.2 h2.1 h2.2 (B i.op 8 10 _ rfl)
      · rw [decide_eq_false he, Bool.false_and]
        obtain ⟨kd, op, a, b, c, im, u⟩ := i
        dsimp only [Ins.v] at *
        generalize readN (wordN ⟨kd, op, a, b, c, im, u⟩) = j at *
        obtain ⟨kd', op', a', b', c', im', u'⟩ := j
        by_cases d0 : kd = kd'
        · subst d0
          by_cases d1 : op = op'
          · subst d1
            by_cases d2 : a = a'
            · subst d2
              by_cases d3 : b = b'
              · subst d3
                by_cases d4 : c = c'
                · subst d4
                  by_cases d5 : im = im'
                  · subst d5
                    by_cases d6 : u = u'
                    · subst d6
                      exact absurd rfl he
                    · exact may_36 _ _ _ _ _ _ _ W W1 HW B1 B2 _ WD _ RD d6
                  · exact may_35 _ _ _ _ _ _ _ W W1 HW B1 B2 _ WD _ _ RD d5
                · exact may_34 _ _ _ _ _ _ _ W W1 HW B1 B2 _ WD _ _ _ RD d4
              · exact may_33 _ _ _ _ _ _ _ W W1 HW B1 B2 _ WD _ _ _ _ RD d3
            · exact may_32 _ _ _ _ _ _ _ W W1 HW B1 B2 _ WD _ _ _ _ _ RD d2
          · exact may_31 _ _ _ _ _ _ _ W W1 HW B1 B2 _ WD _ _ _ _ _ _ RD d1
        · exact may_30 _ _ _ _ _ _ _ W W1 HW B1 B2 _ WD _ _ _ _ _ _ _ RD d0
    · have B2 := B i.op 0 15 false (by simp; omega)
      have hm : mayN i = false := by
        simp only [mayN]
        rw [show (decide (0 ≤ i.op) && decide (i.op ≤ 15)) = false by simp; omega]
        simp
      rw [hm]
      exact may_2 _ _ _ _ _ _ _ W W1 HW B1 B2
  · have B1 := B i.kd 1 7 false (by simp; omega)
    have hm : mayN i = false := by
      simp only [mayN]
      rw [show (decide (1 ≤ i.kd) && decide (i.kd ≤ 7)) = false by simp; omega]
      simp
    rw [hm]
    exact may_1 _ _ _ _ _ _ _ W W1 HW B1
end Go.Proofs.Ytnilkljibdjjgaa.Isa
