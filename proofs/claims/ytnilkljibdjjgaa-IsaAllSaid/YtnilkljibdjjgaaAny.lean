/-
  isa.May, Encode and Decode for any instruction and any word; the document's examples.
-/
import Derived.Test.YtnilkljibdjjgaaRead
import Derived.Test.YtnilkljibdjjgaaCode
import Derived.Test.YtnilkljibdjjgaaMath4
namespace Go.Proofs.Ytnilkljibdjjgaa.Isa
open Go.RowKit Go.Proofs.Ytnilkljibdjjgaa.FieldM Go.Proofs.Ytnilkljibdjjgaa.Field

theorem may_is (i : Ins) {m : Bool} (h : mayN i = m) : Field.Aside (∀ wx, Calls Try.prog 16 #[i.v] wx fun e w' => e = .returned (.bool m) ∧ Bl wx w') :=
  ⟨fun wx => by rw [← h]; exact may_any i wx⟩
theorem word_is (i : Ins) (h1 : 1 ≤ i.kd) (h7 : i.kd ≤ 7) (o0 : 0 ≤ i.op) (o1 : i.op ≤ 15) : Field.Aside (∀ wx, Calls Try.prog 21 #[i.v] wx fun e w' => e = .returned (.int .u32 (wordN i)) ∧ Bl wx w') :=
  ⟨fun wx => word_any i.kd i.op i.a i.b i.c i.im i.u wx h1 h7 o0 o1⟩
theorem encode_ok (i : Ins) (h : mayN i = true) : Field.Aside (∀ wx, Calls Try.prog 12 #[i.v] wx fun e w' => e = .returned (.tuple #[.int .u32 (wordN i), .int .i64 0]) ∧ Bl wx w') := by
  have hb := may_bounds h
  exact ⟨fun wx => encode_yes i.kd i.op i.a i.b i.c i.im i.u (wordN i) wx _ ⟨rfl⟩ (may_is i h) (word_is i hb.1 hb.2.1 hb.2.2.1 hb.2.2.2)⟩
theorem encode_bad (i : Ins) (h : mayN i = false) : Field.Aside (∀ wx, Calls Try.prog 12 #[i.v] wx fun e w' => e = .returned (.tuple #[.int .u32 0, .int .i64 1]) ∧ Bl wx w') :=
  ⟨fun wx => encode_no i.kd i.op i.a i.b i.c i.im i.u wx _ ⟨rfl⟩ (may_is i h)⟩
theorem read_is (w : Nat) (hw : w < 4294967296) : Field.Aside (∀ wx, Calls Try.prog 23 #[.int .u32 w] wx fun e w' => e = .returned (readN w).v ∧ Bl wx w') := ⟨fun wx => read_any w hw wx⟩
theorem decode_ok (w : Nat) (hw : w < 4294967296) (h : okN w = true) : Field.Aside (∀ wx, Calls Try.prog 14 #[.int .u32 w] wx fun e w' => e = .returned (.tuple #[(readN w).v, .bool true]) ∧ Bl wx w') := by
  unfold okN at h
  rw [Bool.and_eq_true, decide_eq_true_iff] at h
  have hb := read_bounds w
  have W := word_is (readN w) hb.1 hb.2.1 hb.2.2.1 hb.2.2.2
  rw [h.2] at W
  exact ⟨fun wx => decode_yes w (readN w).kd (readN w).op (readN w).a (readN w).b (readN w).c (readN w).im (readN w).u wx (read_is w hw) (may_is _ h.1) W⟩
def zeroI : Value := .agg #[.int .i64 0, .int .i64 0, .int .i64 0, .int .i64 0, .int .i64 0, .int .i64 0, .bool false]
theorem decode_bad (w : Nat) (hw : w < 4294967296) (h : okN w = false) : Field.Aside (∀ wx, Calls Try.prog 14 #[.int .u32 w] wx fun e w' => e = .returned (.tuple #[.agg #[.int .i64 0, .int .i64 0, .int .i64 0, .int .i64 0, .int .i64 0, .int .i64 0, .bool false], .bool false]) ∧ Bl wx w') := by
  unfold okN at h
  have hb := read_bounds w
  have W := word_is (readN w) hb.1 hb.2.1 hb.2.2.1 hb.2.2.2
  by_cases hm : mayN (readN w) = true
  · rw [hm, Bool.true_and, decide_eq_false_iff_not] at h
    exact ⟨fun wx => decode_no2 w (readN w).kd (readN w).op (readN w).a (readN w).b (readN w).c (readN w).im (readN w).u _ (beq_eq_false_iff_ne.2 (by omega)) wx (read_is w hw) (may_is _ hm) W⟩
  · exact ⟨fun wx => decode_no1 w (readN w).kd (readN w).op (readN w).a (readN w).b (readN w).c (readN w).im (readN w).u wx (read_is w hw) (may_is _ (by simpa using hm))⟩

/-! The document's examples. -/
theorem ex_may : mayN ⟨2, 8, 1, 2, 0, -1, false⟩ = true := by decide +kernel
theorem ex_word : wordN ⟨2, 8, 1, 2, 0, -1, false⟩ = 1361641471 := by decide +kernel
theorem ex_ok : okN 3892314111 = true := by decide +kernel
theorem ex_read : readN 3892314111 = ⟨7, 7, 0, 0, 0, -1, false⟩ := by decide +kernel

set_option maxHeartbeats 4000000 in
theorem shown_raw (W : World)
   (EN : Field.Aside (∀ wx, Calls Try.prog 12 #[.agg #[.int .i64 2, .int .i64 8, .int .i64 1, .int .i64 2, .int .i64 0, .int .i64 (-1), .bool false]] wx fun e w' => e = .returned (.tuple #[.int .u32 1361641471, .int .i64 0]) ∧ Bl wx w'))
   (DC : Field.Aside (∀ wx, Calls Try.prog 14 #[.int .u32 3892314111] wx fun e w' => e = .returned (.tuple #[.agg #[.int .i64 7, .int .i64 7, .int .i64 0, .int .i64 0, .int .i64 0, .int .i64 (-1), .bool false], .bool true]) ∧ Bl wx w')) :
   Calls Try.prog 11 #[] W fun e w' => e = .returned (.bool true) ∧ Bl W w' := by
  go_enter Try.func11, Try.ntmps11
  go_wp2_with fail
  refine (EN.out _).mono ?_
  rintro e w1 ⟨rfl, k1⟩
  go_wp2_with fail
  refine (DC.out _).mono ?_
  rintro e w2 ⟨rfl, k2⟩
  have K2 := Field.Aside.mk (k1.then k2.out)
  clear k1 k2
  go_wp2_with fail
  go_ret
  exact ⟨rfl, K2.out.alloc _⟩
theorem shown_any : Field.Aside (∀ wx, Calls Try.prog 11 #[] wx fun e w' => e = .returned (.bool true) ∧ Bl wx w') := by
  have E := encode_ok _ ex_may
  have D := decode_ok 3892314111 (by decide) ex_ok
  rw [ex_word] at E
  rw [ex_read] at D
  exact ⟨fun wx => shown_raw wx E D⟩

/-! IsaWords -/
set_option maxHeartbeats 4000000 in
theorem words_yes (w kd op a b c im : Int) (u : Bool) (W : World)
   (SH : Field.Aside (∀ wx, Calls Try.prog 11 #[] wx fun e w' => e = .returned (.bool true) ∧ Bl wx w'))
   (DC : Field.Aside (∀ wx, Calls Try.prog 14 #[.int .u32 w] wx fun e w' => e = .returned (.tuple #[.agg #[.int .i64 kd, .int .i64 op, .int .i64 a, .int .i64 b, .int .i64 c, .int .i64 im, .bool u], .bool true]) ∧ Bl wx w'))
   (EN : Field.Aside (∀ wx, Calls Try.prog 12 #[.agg #[.int .i64 kd, .int .i64 op, .int .i64 a, .int .i64 b, .int .i64 c, .int .i64 im, .bool u]] wx fun e w' => e = .returned (.tuple #[.int .u32 w, .int .i64 0]) ∧ Bl wx w'))
   (MY : Field.Aside (∀ wx, Calls Try.prog 16 #[.agg #[.int .i64 kd, .int .i64 op, .int .i64 a, .int .i64 b, .int .i64 c, .int .i64 im, .bool u]] wx fun e w' => e = .returned (.bool true) ∧ Bl wx w')) :
   Calls Try.prog 5 #[.int .u32 w] W fun e w' => e = .returned (.bool true) ∧ Bl W w' := by
  go_enter Try.func5, Try.ntmps5
  go_wp2_with fail
  refine (SH.out _).mono ?_
  rintro e w1 ⟨rfl, k1⟩
  go_wp2_with fail
  refine (DC.out _).mono ?_
  rintro e w2 ⟨rfl, k2⟩
  have K2 := Field.Aside.mk ((k1.then k2.out).alloc (.cells #[.int .i64 kd, .int .i64 op, .int .i64 a, .int .i64 b, .int .i64 c, .int .i64 im, .bool u] 23))
  have Y := Field.Aside.mk (IBox.new w2 kd op a b c im u 23)
  clear k1 k2
  go_wp2_with fail
  refine (EN.out _).mono ?_
  rintro e w3 ⟨rfl, k3⟩
  obtain ⟨i0, i1, i2, i3, i4, i5, i6, fz⟩ := Y.out.keep k3
  have K3 := Field.Aside.mk (K2.out.then k3.out)
  clear k3
  go_wp2_with fail
  refine (MY.out _).mono ?_
  rintro e w4 ⟨rfl, k4⟩
  have K4 := Field.Aside.mk (K3.out.then k4.out)
  clear k4
  go_wp2_with fail
  go_ret
  exact ⟨rfl, K4.out⟩
set_option maxHeartbeats 4000000 in
theorem words_no (w : Int) (W : World)
   (SH : Field.Aside (∀ wx, Calls Try.prog 11 #[] wx fun e w' => e = .returned (.bool true) ∧ Bl wx w'))
   (DC : Field.Aside (∀ wx, Calls Try.prog 14 #[.int .u32 w] wx fun e w' => e = .returned (.tuple #[.agg #[.int .i64 0, .int .i64 0, .int .i64 0, .int .i64 0, .int .i64 0, .int .i64 0, .bool false], .bool false]) ∧ Bl wx w')) :
   Calls Try.prog 5 #[.int .u32 w] W fun e w' => e = .returned (.bool true) ∧ Bl W w' := by
  go_enter Try.func5, Try.ntmps5
  go_wp2_with fail
  refine (SH.out _).mono ?_
  rintro e w1 ⟨rfl, k1⟩
  go_wp2_with fail
  refine (DC.out _).mono ?_
  rintro e w2 ⟨rfl, k2⟩
  have K2 := Field.Aside.mk ((k1.then k2.out).alloc (.cells #[.int .i64 0, .int .i64 0, .int .i64 0, .int .i64 0, .int .i64 0, .int .i64 0, .bool false] 23))
  clear k1 k2
  go_wp2_with fail
  go_ret
  exact ⟨rfl, K2.out⟩
theorem wfu32 {a : Int} (h : (Lit.int .u32 a).wf = true) : 0 ≤ a ∧ a < 4294967296 := by
  simp [Lit.wf, IntKind.min, IntKind.max, IntKind.signed, IntKind.bits] at h
  omega
theorem words_walk (a : Int) (W : World) (wa : (Lit.int .u32 a).wf = true) : Calls Try.prog 5 #[.int .u32 a] W fun e w' => e = .returned (.bool true) ∧ Below W.heap.size W w' := by
  obtain ⟨h0, h1⟩ := wfu32 wa
  obtain ⟨w, rfl⟩ := Int.eq_ofNat_of_zero_le h0
  have hw : w < 4294967296 := by omega
  cases h : okN w with
  | true =>
    have hm := h
    unfold okN at hm
    rw [Bool.and_eq_true, decide_eq_true_iff] at hm
    have E := encode_ok _ hm.1
    rw [hm.2] at E
    exact (words_yes w (readN w).kd (readN w).op (readN w).a (readN w).b (readN w).c (readN w).im (readN w).u W shown_any (decode_ok w hw h) E (may_is _ hm.1)).mono fun _ _ ⟨e, k⟩ => ⟨e, k.out⟩
  | false => exact (words_no w W shown_any (decode_bad w hw h)).mono fun _ _ ⟨e, k⟩ => ⟨e, k.out⟩
end Go.Proofs.Ytnilkljibdjjgaa.Isa
