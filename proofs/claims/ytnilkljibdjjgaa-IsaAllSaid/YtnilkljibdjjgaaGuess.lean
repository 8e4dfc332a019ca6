/-
  The reference's guess: the instruction that a word would be of, as the program reads it.
-/
import Derived.Test.YtnilkljibdjjgaaRMay
import Derived.Test.YtnilkljibdjjgaaFree
namespace Go.Proofs.Ytnilkljibdjjgaa.Isa
open Go Go.RowKit Go.Proofs.Ytnilkljibdjjgaa.FieldM Go.Proofs.Ytnilkljibdjjgaa.Field
set_option linter.unusedVariables false

set_option maxHeartbeats 4000000 in
theorem guess_0a (w fa fb fo fc fi s20 s24 : Int) (u v : Bool) (W : World) (_w0 : 0 ≤ w) (_w1 : w ≤ 4294967295) (_a0 : 0 ≤ fa) (_a1 : fa ≤ 15) (_b0 : 0 ≤ fb) (_b1 : fb ≤ 15) (_o0 : 0 ≤ fo) (_o1 : fo ≤ 15) (_c0 : 0 ≤ fc) (_c1 : fc ≤ 15) (_i0 : 0 ≤ fi) (_i1 : fi ≤ 65535)
   (_hu : (bits .and .u32 (w / 536870912) 1 == 1) = false) (_hv : (bits .and .u32 (w / 268435456) 1 == 1) = v) (_ha : bits .and .u32 (w / 16777216) 15 = fa) (_hb : bits .and .u32 (w / 1048576) 15 = fb) (_ho : bits .and .u32 (w / 65536) 15 = fo) (_hc : bits .and .u32 w 15 = fc) (_hi : bits .and .u32 w 65535 = fi) (_h0 : (w / 1073741824 == 0) = true) (_h1 : (w / 1073741824 == 1) = false) (_h2 : (w / 1073741824 == 2) = false)
   (_S20 : Field.Aside (∀ wx, Calls Try.prog 34 #[.int .u32 w, .int .i64 20] wx fun e w' => e = .returned (.int .i64 s20) ∧ wx = w'))
   (_S24 : Field.Aside (∀ wx, Calls Try.prog 34 #[.int .u32 w, .int .i64 24] wx fun e w' => e = .returned (.int .i64 s24) ∧ wx = w')) :
   Calls Try.prog 24 #[.int .u32 w] W fun e w' => e = .returned (.agg #[.int .i64 1, .int .i64 fo, .int .i64 fa, .int .i64 fb, .int .i64 fc, .int .i64 0, .bool false]) ∧ Bl W w' := by
  go_enter Try.func24, Try.ntmps24
  go_wp2_with fail
  refine bodyPost_ret (v := .agg #[.int .i64 1, .int .i64 fo, .int .i64 fa, .int .i64 fb, .int .i64 fc, .int .i64 0, .bool false]) ?_ rfl ⟨rfl, ?_⟩
  · simp only [results, Try.results24]
    go_simp
  · exact (Bl.refl W).alloc _

set_option maxHeartbeats 4000000 in
theorem guess_0b (w fa fb fo fc fi s20 s24 : Int) (u v : Bool) (W : World) (_w0 : 0 ≤ w) (_w1 : w ≤ 4294967295) (_a0 : 0 ≤ fa) (_a1 : fa ≤ 15) (_b0 : 0 ≤ fb) (_b1 : fb ≤ 15) (_o0 : 0 ≤ fo) (_o1 : fo ≤ 15) (_c0 : 0 ≤ fc) (_c1 : fc ≤ 15) (_i0 : 0 ≤ fi) (_i1 : fi ≤ 65535)
   (_hu : (bits .and .u32 (w / 536870912) 1 == 1) = true) (_hv : (bits .and .u32 (w / 268435456) 1 == 1) = v) (_ha : bits .and .u32 (w / 16777216) 15 = fa) (_hb : bits .and .u32 (w / 1048576) 15 = fb) (_ho : bits .and .u32 (w / 65536) 15 = fo) (_hc : bits .and .u32 w 15 = fc) (_hi : bits .and .u32 w 65535 = fi) (_h0 : (w / 1073741824 == 0) = true) (_h1 : (w / 1073741824 == 1) = false) (_h2 : (w / 1073741824 == 2) = false) (_f : (fo == 0) = false)
   (_S20 : Field.Aside (∀ wx, Calls Try.prog 34 #[.int .u32 w, .int .i64 20] wx fun e w' => e = .returned (.int .i64 s20) ∧ wx = w'))
   (_S24 : Field.Aside (∀ wx, Calls Try.prog 34 #[.int .u32 w, .int .i64 24] wx fun e w' => e = .returned (.int .i64 s24) ∧ wx = w')) :
   Calls Try.prog 24 #[.int .u32 w] W fun e w' => e = .returned (.agg #[.int .i64 1, .int .i64 fo, .int .i64 fa, .int .i64 fb, .int .i64 fc, .int .i64 0, .bool true]) ∧ Bl W w' := by
  go_enter Try.func24, Try.ntmps24
  go_wp2_with fail
  refine bodyPost_ret (v := .agg #[.int .i64 1, .int .i64 fo, .int .i64 fa, .int .i64 fb, .int .i64 fc, .int .i64 0, .bool true]) ?_ rfl ⟨rfl, ?_⟩
  · simp only [results, Try.results24]
    go_simp
  · exact (Bl.refl W).alloc _

set_option maxHeartbeats 4000000 in
theorem guess_0c (w fa fb fo fc fi s20 s24 : Int) (u v : Bool) (W : World) (_w0 : 0 ≤ w) (_w1 : w ≤ 4294967295) (_a0 : 0 ≤ fa) (_a1 : fa ≤ 15) (_b0 : 0 ≤ fb) (_b1 : fb ≤ 15) (_o0 : 0 ≤ fo) (_o1 : fo ≤ 15) (_c0 : 0 ≤ fc) (_c1 : fc ≤ 15) (_i0 : 0 ≤ fi) (_i1 : fi ≤ 65535)
   (_hu : (bits .and .u32 (w / 536870912) 1 == 1) = true) (_hv : (bits .and .u32 (w / 268435456) 1 == 1) = false) (_ha : bits .and .u32 (w / 16777216) 15 = fa) (_hb : bits .and .u32 (w / 1048576) 15 = fb) (_ho : bits .and .u32 (w / 65536) 15 = fo) (_hc : bits .and .u32 w 15 = fc) (_hi : bits .and .u32 w 65535 = fi) (_h0 : (w / 1073741824 == 0) = true) (_h1 : (w / 1073741824 == 1) = false) (_h2 : (w / 1073741824 == 2) = false) (_f : (fo == 0) = true)
   (_S20 : Field.Aside (∀ wx, Calls Try.prog 34 #[.int .u32 w, .int .i64 20] wx fun e w' => e = .returned (.int .i64 s20) ∧ wx = w'))
   (_S24 : Field.Aside (∀ wx, Calls Try.prog 34 #[.int .u32 w, .int .i64 24] wx fun e w' => e = .returned (.int .i64 s24) ∧ wx = w')) :
   Calls Try.prog 24 #[.int .u32 w] W fun e w' => e = .returned (.agg #[.int .i64 3, .int .i64 0, .int .i64 fa, .int .i64 0, .int .i64 0, .int .i64 0, .bool false]) ∧ Bl W w' := by
  go_enter Try.func24, Try.ntmps24
  go_wp2_with fail
  refine bodyPost_ret (v := .agg #[.int .i64 3, .int .i64 0, .int .i64 fa, .int .i64 0, .int .i64 0, .int .i64 0, .bool false]) ?_ rfl ⟨rfl, ?_⟩
  · simp only [results, Try.results24]
    go_simp
  · exact (Bl.refl W).alloc _

set_option maxHeartbeats 4000000 in
theorem guess_0d (w fa fb fo fc fi s20 s24 : Int) (u v : Bool) (W : World) (_w0 : 0 ≤ w) (_w1 : w ≤ 4294967295) (_a0 : 0 ≤ fa) (_a1 : fa ≤ 15) (_b0 : 0 ≤ fb) (_b1 : fb ≤ 15) (_o0 : 0 ≤ fo) (_o1 : fo ≤ 15) (_c0 : 0 ≤ fc) (_c1 : fc ≤ 15) (_i0 : 0 ≤ fi) (_i1 : fi ≤ 65535)
   (_hu : (bits .and .u32 (w / 536870912) 1 == 1) = true) (_hv : (bits .and .u32 (w / 268435456) 1 == 1) = true) (_ha : bits .and .u32 (w / 16777216) 15 = fa) (_hb : bits .and .u32 (w / 1048576) 15 = fb) (_ho : bits .and .u32 (w / 65536) 15 = fo) (_hc : bits .and .u32 w 15 = fc) (_hi : bits .and .u32 w 65535 = fi) (_h0 : (w / 1073741824 == 0) = true) (_h1 : (w / 1073741824 == 1) = false) (_h2 : (w / 1073741824 == 2) = false) (_f : (fo == 0) = true)
   (_S20 : Field.Aside (∀ wx, Calls Try.prog 34 #[.int .u32 w, .int .i64 20] wx fun e w' => e = .returned (.int .i64 s20) ∧ wx = w'))
   (_S24 : Field.Aside (∀ wx, Calls Try.prog 34 #[.int .u32 w, .int .i64 24] wx fun e w' => e = .returned (.int .i64 s24) ∧ wx = w')) :
   Calls Try.prog 24 #[.int .u32 w] W fun e w' => e = .returned (.agg #[.int .i64 4, .int .i64 0, .int .i64 fa, .int .i64 0, .int .i64 0, .int .i64 0, .bool false]) ∧ Bl W w' := by
  go_enter Try.func24, Try.ntmps24
  go_wp2_with fail
  refine bodyPost_ret (v := .agg #[.int .i64 4, .int .i64 0, .int .i64 fa, .int .i64 0, .int .i64 0, .int .i64 0, .bool false]) ?_ rfl ⟨rfl, ?_⟩
  · simp only [results, Try.results24]
    go_simp
  · exact (Bl.refl W).alloc _

set_option maxHeartbeats 4000000 in
theorem guess_1a (w fa fb fo fc fi s20 s24 : Int) (u v : Bool) (W : World) (_w0 : 0 ≤ w) (_w1 : w ≤ 4294967295) (_a0 : 0 ≤ fa) (_a1 : fa ≤ 15) (_b0 : 0 ≤ fb) (_b1 : fb ≤ 15) (_o0 : 0 ≤ fo) (_o1 : fo ≤ 15) (_c0 : 0 ≤ fc) (_c1 : fc ≤ 15) (_i0 : 0 ≤ fi) (_i1 : fi ≤ 65535)
   (_hu : (bits .and .u32 (w / 536870912) 1 == 1) = u) (_hv : (bits .and .u32 (w / 268435456) 1 == 1) = false) (_ha : bits .and .u32 (w / 16777216) 15 = fa) (_hb : bits .and .u32 (w / 1048576) 15 = fb) (_ho : bits .and .u32 (w / 65536) 15 = fo) (_hc : bits .and .u32 w 15 = fc) (_hi : bits .and .u32 w 65535 = fi) (_h0 : (w / 1073741824 == 0) = false) (_h1 : (w / 1073741824 == 1) = true) (_h2 : (w / 1073741824 == 2) = false)
   (_S20 : Field.Aside (∀ wx, Calls Try.prog 34 #[.int .u32 w, .int .i64 20] wx fun e w' => e = .returned (.int .i64 s20) ∧ wx = w'))
   (_S24 : Field.Aside (∀ wx, Calls Try.prog 34 #[.int .u32 w, .int .i64 24] wx fun e w' => e = .returned (.int .i64 s24) ∧ wx = w')) :
   Calls Try.prog 24 #[.int .u32 w] W fun e w' => e = .returned (.agg #[.int .i64 2, .int .i64 fo, .int .i64 fa, .int .i64 fb, .int .i64 0, .int .i64 fi, .bool u]) ∧ Bl W w' := by
  go_enter Try.func24, Try.ntmps24
  go_wp2_with fail
  refine bodyPost_ret (v := .agg #[.int .i64 2, .int .i64 fo, .int .i64 fa, .int .i64 fb, .int .i64 0, .int .i64 fi, .bool u]) ?_ rfl ⟨rfl, ?_⟩
  · simp only [results, Try.results24]
    go_simp
  · exact (Bl.refl W).alloc _

set_option maxHeartbeats 4000000 in
theorem guess_1b (w fa fb fo fc fi s20 s24 : Int) (u v : Bool) (W : World) (_w0 : 0 ≤ w) (_w1 : w ≤ 4294967295) (_a0 : 0 ≤ fa) (_a1 : fa ≤ 15) (_b0 : 0 ≤ fb) (_b1 : fb ≤ 15) (_o0 : 0 ≤ fo) (_o1 : fo ≤ 15) (_c0 : 0 ≤ fc) (_c1 : fc ≤ 15) (_i0 : 0 ≤ fi) (_i1 : fi ≤ 65535)
   (_hu : (bits .and .u32 (w / 536870912) 1 == 1) = u) (_hv : (bits .and .u32 (w / 268435456) 1 == 1) = true) (_ha : bits .and .u32 (w / 16777216) 15 = fa) (_hb : bits .and .u32 (w / 1048576) 15 = fb) (_ho : bits .and .u32 (w / 65536) 15 = fo) (_hc : bits .and .u32 w 15 = fc) (_hi : bits .and .u32 w 65535 = fi) (_h0 : (w / 1073741824 == 0) = false) (_h1 : (w / 1073741824 == 1) = true) (_h2 : (w / 1073741824 == 2) = false)
   (_S20 : Field.Aside (∀ wx, Calls Try.prog 34 #[.int .u32 w, .int .i64 20] wx fun e w' => e = .returned (.int .i64 s20) ∧ wx = w'))
   (_S24 : Field.Aside (∀ wx, Calls Try.prog 34 #[.int .u32 w, .int .i64 24] wx fun e w' => e = .returned (.int .i64 s24) ∧ wx = w')) :
   Calls Try.prog 24 #[.int .u32 w] W fun e w' => e = .returned (.agg #[.int .i64 2, .int .i64 fo, .int .i64 fa, .int .i64 fb, .int .i64 0, .int .i64 (fi - 65536), .bool u]) ∧ Bl W w' := by
  go_enter Try.func24, Try.ntmps24
  go_wp2_with fail
  refine bodyPost_ret (v := .agg #[.int .i64 2, .int .i64 fo, .int .i64 fa, .int .i64 fb, .int .i64 0, .int .i64 (fi - 65536), .bool u]) ?_ rfl ⟨rfl, ?_⟩
  · simp only [results, Try.results24]
    go_simp
  · exact (Bl.refl W).alloc _

set_option maxHeartbeats 4000000 in
theorem guess_2 (w fa fb fo fc fi s20 s24 : Int) (u v : Bool) (W : World) (_w0 : 0 ≤ w) (_w1 : w ≤ 4294967295) (_a0 : 0 ≤ fa) (_a1 : fa ≤ 15) (_b0 : 0 ≤ fb) (_b1 : fb ≤ 15) (_o0 : 0 ≤ fo) (_o1 : fo ≤ 15) (_c0 : 0 ≤ fc) (_c1 : fc ≤ 15) (_i0 : 0 ≤ fi) (_i1 : fi ≤ 65535)
   (_hu : (bits .and .u32 (w / 536870912) 1 == 1) = u) (_hv : (bits .and .u32 (w / 268435456) 1 == 1) = v) (_ha : bits .and .u32 (w / 16777216) 15 = fa) (_hb : bits .and .u32 (w / 1048576) 15 = fb) (_ho : bits .and .u32 (w / 65536) 15 = fo) (_hc : bits .and .u32 w 15 = fc) (_hi : bits .and .u32 w 65535 = fi) (_h0 : (w / 1073741824 == 0) = false) (_h1 : (w / 1073741824 == 1) = false) (_h2 : (w / 1073741824 == 2) = true)
   (_S20 : Field.Aside (∀ wx, Calls Try.prog 34 #[.int .u32 w, .int .i64 20] wx fun e w' => e = .returned (.int .i64 s20) ∧ wx = w'))
   (_S24 : Field.Aside (∀ wx, Calls Try.prog 34 #[.int .u32 w, .int .i64 24] wx fun e w' => e = .returned (.int .i64 s24) ∧ wx = w')) :
   Calls Try.prog 24 #[.int .u32 w] W fun e w' => e = .returned (.agg #[.int .i64 5, .int .i64 (2 * b2i u + b2i v), .int .i64 fa, .int .i64 fb, .int .i64 0, .int .i64 s20, .bool false]) ∧ Bl W w' := by
  have O1 : Field.Aside (∀ wx, Calls Try.prog 22 #[.bool u] wx fun e w' => e = .returned (.int .u32 (b2i u)) ∧ w' = wx) := ⟨fun wx => rone_any u wx⟩
  have O2 : Field.Aside (∀ wx, Calls Try.prog 22 #[.bool v] wx fun e w' => e = .returned (.int .u32 (b2i v)) ∧ w' = wx) := ⟨fun wx => rone_any v wx⟩
  obtain ⟨p0, p1⟩ := b2i_range u
  obtain ⟨q0, q1⟩ := b2i_range v
  generalize b2i u = p at *
  generalize b2i v = q at *
  go_enter Try.func24, Try.ntmps24
  go_wp2_with fail
  refine (O1.out _).mono ?_
  rintro e wn ⟨rfl, rfl⟩
  go_wp2_with fail
  refine (O2.out _).mono ?_
  rintro e wn ⟨rfl, rfl⟩
  go_wp2_with fail
  refine (_S20.out _).mono ?_
  rintro e wn ⟨rfl, rfl⟩
  go_wp2_with fail
  refine bodyPost_ret (v := .agg #[.int .i64 5, .int .i64 (2 * p + q), .int .i64 fa, .int .i64 fb, .int .i64 0, .int .i64 s20, .bool false]) ?_ rfl ⟨rfl, ?_⟩
  · simp only [results, Try.results24]
    go_simp
  · exact (Bl.refl W).alloc _

set_option maxHeartbeats 4000000 in
theorem guess_3a (w fa fb fo fc fi s20 s24 : Int) (u v : Bool) (W : World) (_w0 : 0 ≤ w) (_w1 : w ≤ 4294967295) (_a0 : 0 ≤ fa) (_a1 : fa ≤ 15) (_b0 : 0 ≤ fb) (_b1 : fb ≤ 15) (_o0 : 0 ≤ fo) (_o1 : fo ≤ 15) (_c0 : 0 ≤ fc) (_c1 : fc ≤ 15) (_i0 : 0 ≤ fi) (_i1 : fi ≤ 65535)
   (_hu : (bits .and .u32 (w / 536870912) 1 == 1) = true) (_hv : (bits .and .u32 (w / 268435456) 1 == 1) = v) (_ha : bits .and .u32 (w / 16777216) 15 = fa) (_hb : bits .and .u32 (w / 1048576) 15 = fb) (_ho : bits .and .u32 (w / 65536) 15 = fo) (_hc : bits .and .u32 w 15 = fc) (_hi : bits .and .u32 w 65535 = fi) (_h0 : (w / 1073741824 == 0) = false) (_h1 : (w / 1073741824 == 1) = false) (_h2 : (w / 1073741824 == 2) = false)
   (_S20 : Field.Aside (∀ wx, Calls Try.prog 34 #[.int .u32 w, .int .i64 20] wx fun e w' => e = .returned (.int .i64 s20) ∧ wx = w'))
   (_S24 : Field.Aside (∀ wx, Calls Try.prog 34 #[.int .u32 w, .int .i64 24] wx fun e w' => e = .returned (.int .i64 s24) ∧ wx = w')) :
   Calls Try.prog 24 #[.int .u32 w] W fun e w' => e = .returned (.agg #[.int .i64 7, .int .i64 fa, .int .i64 0, .int .i64 0, .int .i64 0, .int .i64 s24, .bool v]) ∧ Bl W w' := by
  go_enter Try.func24, Try.ntmps24
  go_wp2_with fail
  refine (_S24.out _).mono ?_
  rintro e wn ⟨rfl, rfl⟩
  go_wp2_with fail
  refine bodyPost_ret (v := .agg #[.int .i64 7, .int .i64 fa, .int .i64 0, .int .i64 0, .int .i64 0, .int .i64 s24, .bool v]) ?_ rfl ⟨rfl, ?_⟩
  · simp only [results, Try.results24]
    go_simp
  · exact (Bl.refl W).alloc _

set_option maxHeartbeats 4000000 in
theorem guess_3b (w fa fb fo fc fi s20 s24 : Int) (u v : Bool) (W : World) (_w0 : 0 ≤ w) (_w1 : w ≤ 4294967295) (_a0 : 0 ≤ fa) (_a1 : fa ≤ 15) (_b0 : 0 ≤ fb) (_b1 : fb ≤ 15) (_o0 : 0 ≤ fo) (_o1 : fo ≤ 15) (_c0 : 0 ≤ fc) (_c1 : fc ≤ 15) (_i0 : 0 ≤ fi) (_i1 : fi ≤ 65535)
   (_hu : (bits .and .u32 (w / 536870912) 1 == 1) = false) (_hv : (bits .and .u32 (w / 268435456) 1 == 1) = v) (_ha : bits .and .u32 (w / 16777216) 15 = fa) (_hb : bits .and .u32 (w / 1048576) 15 = fb) (_ho : bits .and .u32 (w / 65536) 15 = fo) (_hc : bits .and .u32 w 15 = fc) (_hi : bits .and .u32 w 65535 = fi) (_h0 : (w / 1073741824 == 0) = false) (_h1 : (w / 1073741824 == 1) = false) (_h2 : (w / 1073741824 == 2) = false)
   (_S20 : Field.Aside (∀ wx, Calls Try.prog 34 #[.int .u32 w, .int .i64 20] wx fun e w' => e = .returned (.int .i64 s20) ∧ wx = w'))
   (_S24 : Field.Aside (∀ wx, Calls Try.prog 34 #[.int .u32 w, .int .i64 24] wx fun e w' => e = .returned (.int .i64 s24) ∧ wx = w')) :
   Calls Try.prog 24 #[.int .u32 w] W fun e w' => e = .returned (.agg #[.int .i64 6, .int .i64 fa, .int .i64 0, .int .i64 0, .int .i64 fc, .int .i64 0, .bool v]) ∧ Bl W w' := by
  go_enter Try.func24, Try.ntmps24
  go_wp2_with fail
  refine bodyPost_ret (v := .agg #[.int .i64 6, .int .i64 fa, .int .i64 0, .int .i64 0, .int .i64 fc, .int .i64 0, .bool v]) ?_ rfl ⟨rfl, ?_⟩
  · simp only [results, Try.results24]
    go_simp
  · exact (Bl.refl W).alloc _

theorem guess_any (w : Nat) (hw : w < 4294967296) (W : World) : Calls Try.prog 24 #[.int .u32 w] W fun e w' => e = .returned (readN w).v ∧ Bl W w' := by
  have S20 : Field.Aside (∀ wx, Calls Try.prog 34 #[.int .u32 w, .int .i64 20] wx fun e w' => e = .returned (.int .i64 (signedN w 19)) ∧ wx = w') := ⟨fun wx => rsigned_any w 20 wx hw⟩
  have S24 : Field.Aside (∀ wx, Calls Try.prog 34 #[.int .u32 w, .int .i64 24] wx fun e w' => e = .returned (.int .i64 (signedN w 23)) ∧ wx = w') := ⟨fun wx => rsigned_any w 24 wx hw⟩
  have M (d m k e : Nat) (mi : Int) (hi : mi = (m : Int)) (he : 2 ^ k = e) (hm : m = e - 1) (hk : k ≤ 32) : bits .and .u32 ((w : Int) / (d : Int)) mi = ((w / d % e : Nat) : Int) := by
    have h := mask_is (w / d) m k e mi hi he hm (Nat.lt_of_le_of_lt (Nat.div_le_self _ _) hw) hk
    rw [Int.natCast_ediv] at h
    exact h
  have h29 : bits .and .u32 ((w : Int) / 536870912) 1 = ((w / 536870912 % 2 : Nat) : Int) := M 536870912 1 1 2 1 rfl (by decide) rfl (by decide)
  have h28 : bits .and .u32 ((w : Int) / 268435456) 1 = ((w / 268435456 % 2 : Nat) : Int) := M 268435456 1 1 2 1 rfl (by decide) rfl (by decide)
  have h24 : bits .and .u32 ((w : Int) / 16777216) 15 = ((w / 16777216 % 16 : Nat) : Int) := M 16777216 15 4 16 15 rfl (by decide) rfl (by decide)
  have h20 : bits .and .u32 ((w : Int) / 1048576) 15 = ((w / 1048576 % 16 : Nat) : Int) := M 1048576 15 4 16 15 rfl (by decide) rfl (by decide)
  have h16 : bits .and .u32 ((w : Int) / 65536) 15 = ((w / 65536 % 16 : Nat) : Int) := M 65536 15 4 16 15 rfl (by decide) rfl (by decide)
  have h0 : bits .and .u32 (w : Int) 15 = ((w % 16 : Nat) : Int) := mask_is w 15 4 16 15 rfl (by decide) rfl hw (by decide)
  have hi : bits .and .u32 (w : Int) 65535 = ((w % 65536 : Nat) : Int) := mask_is w 65535 16 65536 65535 rfl (by decide) rfl hw (by decide)
  clear M
  have hu : (bits .and .u32 ((w : Int) / 536870912) 1 == 1) = decide (w / 536870912 % 2 = 1) := by rw [h29, bit_is]
  have hv : (bits .and .u32 ((w : Int) / 268435456) 1 == 1) = decide (w / 268435456 % 2 = 1) := by rw [h28, bit_is]
  clear h29 h28
  have v2 : ((w / 268435456 % 2 : Nat) : Int) = b2i (decide (w / 268435456 % 2 = 1)) := by rw [b2i_dec]; split <;> omega
  have u2 : ((w / 536870912 % 2 : Nat) : Int) = b2i (decide (w / 536870912 % 2 = 1)) := by rw [b2i_dec]; split <;> omega
  obtain ⟨F, hF⟩ : ∃ F, F = w / 1073741824 := ⟨_, rfl⟩
  have eF : (w : Int) / 1073741824 = (F : Int) := by rw [hF]; exact (Int.natCast_ediv ..).symm
  have hp : w / 1073741824 % 4 = F := by omega
  have G (k : Int) (r : Bool) (hr : ((F : Int) == k) = r) : ((w : Int) / 1073741824 == k) = r := by rw [eF]; exact hr
  have w0 : (0 : Int) ≤ w := Int.natCast_nonneg w
  have w1 : (w : Int) ≤ 4294967295 := by omega
  have B (x m : Nat) (k : Int) (hm : 0 < m) (hk : k = (m : Int) - 1) : (0 : Int) ≤ ((x % m : Nat) : Int) ∧ ((x % m : Nat) : Int) ≤ k := by
    have := Nat.mod_lt x hm
    omega
  have a := B (w / 16777216) 16 15 (by decide) rfl
  have b := B (w / 1048576) 16 15 (by decide) rfl
  have o := B (w / 65536) 16 15 (by decide) rfl
  have c := B w 16 15 (by decide) rfl
  have i := B w 65536 65535 (by decide) rfl
  clear B hw
  have hF4 : F = 0 ∨ F = 1 ∨ F = 2 ∨ F = 3 := by omega
  clear eF hF
  rcases hF4 with rfl | rfl | rfl | rfl
  · by_cases hb : w / 536870912 % 2 = 1
    · rw [decide_eq_true hb] at hu
      by_cases ho : w / 65536 % 16 = 0
      · have f0 : (((w / 65536 % 16 : Nat) : Int) == 0) = true := by rw [ho]; rfl
        by_cases hb2 : w / 268435456 % 2 = 1
        · rw [decide_eq_true hb2] at hv
          refine (guess_0d w _ _ _ _ _ _ _ true true W w0 w1 a.1 a.2 b.1 b.2 o.1 o.2 c.1 c.2 i.1 i.2 hu hv h24 h20 h16 h0 hi (G 0 _ rfl) (G 1 _ rfl) (G 2 _ rfl) f0 S20 S24).mono fun e w' ⟨e1, k⟩ => ⟨?_, k⟩
          rw [e1]
          simp [readN, Ins.v, hp, hb, ho, hb2]
        · rw [decide_eq_false hb2] at hv
          refine (guess_0c w _ _ _ _ _ _ _ true true W w0 w1 a.1 a.2 b.1 b.2 o.1 o.2 c.1 c.2 i.1 i.2 hu hv h24 h20 h16 h0 hi (G 0 _ rfl) (G 1 _ rfl) (G 2 _ rfl) f0 S20 S24).mono fun e w' ⟨e1, k⟩ => ⟨?_, k⟩
          rw [e1]
          have hb3 : w / 268435456 % 2 = 0 := by omega
          simp [readN, Ins.v, hp, hb, ho, hb3]
      · have f0 : (((w / 65536 % 16 : Nat) : Int) == 0) = false := beq_eq_false_iff_ne.2 (by omega)
        refine (guess_0b w _ _ _ _ _ _ _ true _ W w0 w1 a.1 a.2 b.1 b.2 o.1 o.2 c.1 c.2 i.1 i.2 hu hv h24 h20 h16 h0 hi (G 0 _ rfl) (G 1 _ rfl) (G 2 _ rfl) f0 S20 S24).mono fun e w' ⟨e1, k⟩ => ⟨?_, k⟩
        rw [e1]
        simp [readN, Ins.v, hp, hb, ho]
    · rw [decide_eq_false hb] at hu
      refine (guess_0a w _ _ _ _ _ _ _ true _ W w0 w1 a.1 a.2 b.1 b.2 o.1 o.2 c.1 c.2 i.1 i.2 hu hv h24 h20 h16 h0 hi (G 0 _ rfl) (G 1 _ rfl) (G 2 _ rfl) S20 S24).mono fun e w' ⟨e1, k⟩ => ⟨?_, k⟩
      rw [e1]
      simp [readN, Ins.v, hp, hb]
  · by_cases hb2 : w / 268435456 % 2 = 1
    · rw [decide_eq_true hb2] at hv
      refine (guess_1b w _ _ _ _ _ _ _ _ true W w0 w1 a.1 a.2 b.1 b.2 o.1 o.2 c.1 c.2 i.1 i.2 hu hv h24 h20 h16 h0 hi (G 0 _ rfl) (G 1 _ rfl) (G 2 _ rfl) S20 S24).mono fun e w' ⟨e1, k⟩ => ⟨?_, k⟩
      rw [e1]
      simp [readN, Ins.v, hp, hb2]
    · rw [decide_eq_false hb2] at hv
      refine (guess_1a w _ _ _ _ _ _ _ _ true W w0 w1 a.1 a.2 b.1 b.2 o.1 o.2 c.1 c.2 i.1 i.2 hu hv h24 h20 h16 h0 hi (G 0 _ rfl) (G 1 _ rfl) (G 2 _ rfl) S20 S24).mono fun e w' ⟨e1, k⟩ => ⟨?_, k⟩
      rw [e1]
      have hb3 : w / 268435456 % 2 = 0 := by omega
      simp [readN, Ins.v, hp, hb3]
  · refine (guess_2 w _ _ _ _ _ _ _ _ _ W w0 w1 a.1 a.2 b.1 b.2 o.1 o.2 c.1 c.2 i.1 i.2 hu hv h24 h20 h16 h0 hi (G 0 _ rfl) (G 1 _ rfl) (G 2 _ rfl) S20 S24).mono fun e w' ⟨e1, k⟩ => ⟨?_, k⟩
    rw [e1, ← u2, ← v2, read_mem hp]
    rfl
  · by_cases hb : w / 536870912 % 2 = 1
    · rw [decide_eq_true hb] at hu
      refine (guess_3a w _ _ _ _ _ _ _ true _ W w0 w1 a.1 a.2 b.1 b.2 o.1 o.2 c.1 c.2 i.1 i.2 hu hv h24 h20 h16 h0 hi (G 0 _ rfl) (G 1 _ rfl) (G 2 _ rfl) S20 S24).mono fun e w' ⟨e1, k⟩ => ⟨?_, k⟩
      rw [e1, read_jmp hp hb]
      rfl
    · rw [decide_eq_false hb] at hu
      refine (guess_3b w _ _ _ _ _ _ _ true _ W w0 w1 a.1 a.2 b.1 b.2 o.1 o.2 c.1 c.2 i.1 i.2 hu hv h24 h20 h16 h0 hi (G 0 _ rfl) (G 1 _ rfl) (G 2 _ rfl) S20 S24).mono fun e w' ⟨e1, k⟩ => ⟨?_, k⟩
      rw [e1]
      simp [readN, Ins.v, hp, hb]
end Go.Proofs.Ytnilkljibdjjgaa.Isa
