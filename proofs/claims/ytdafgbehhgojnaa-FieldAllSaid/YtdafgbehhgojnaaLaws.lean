/-
  The laws' own walks share this: the bounds of worlds, the example at the head of all statements.
-/
import Derived.Test.YtdafgbehhgojnaaWalks3
import Derived.Test.YtdafgbehhgojnaaLawMath
import Derived.Deep.RegionHeld3
namespace Go.Proofs.Ytdafgbehhgojnaa.Laws
open Go.RowKit Go.Proofs.Ytdafgbehhgojnaa.FieldM Go.Proofs.Ytdafgbehhgojnaa.Field

/-- All that was there at W is as it was. -/
structure Bl (W w : World) : Prop where mk :: (out : Below W.heap.size W w)
theorem Bl.then {W w w' : World} (h : Bl W w) (k : Below w.heap.size w w') : Bl W w' :=
  ⟨h.out.trans ⟨k.os, k.tape, k.output, k.size, fun i hi => k.block i (Nat.lt_of_lt_of_le hi h.out.size)⟩⟩
theorem Bl.drew {W w : World} (h : Bl W w) : Bl W w.drew := ⟨h.out.drew⟩
theorem Bl.one (W : World) (o : Obj) : Bl W (W.alloc o) := ⟨(Below.refl _ _).alloc (Nat.le_refl _) o⟩
theorem Bl.refl (W : World) : Bl W W := ⟨Below.refl _ _⟩
theorem get_b (W : World) (x : Nat) (a n : Int) (hx : x < 4294967296) (h4 : n ≤ 9223372036854775807) (w : World) (h : Bl W w) :
    Calls Try.prog 10 #[.int .u32 x, .int .i64 a, .int .i64 n] w fun e w' => e = .returned (.int .u32 (getN x a n)) ∧ Bl W w' :=
  (get_any x a n w hx h4).mono fun _ _ ⟨he, hb⟩ => ⟨he, h.then hb⟩
theorem set_b (W : World) (o : Nat) (a n : Int) (x : Nat) (ho : o < 4294967296) (hx : x < 4294967296) (h4 : n ≤ 9223372036854775807) (w : World) (h : Bl W w) :
    Calls Try.prog 9 #[.int .u32 o, .int .i64 a, .int .i64 n, .int .u32 x] w fun e w' => e = .returned (.int .u32 (setN o a n x)) ∧ Bl W w' :=
  (set_any o a n x w ho hx h4).mono fun _ _ ⟨he, hb⟩ => ⟨he, h.then hb⟩

theorem shown_get : getN 43981 4 8 = 188 := by decide +kernel
theorem shown_signed : signedN 1048574 (kn 20) = -2 := by decide +kernel

set_option maxHeartbeats 800000 in
theorem shown_any (w : World) : Calls Try.prog 8 #[] w fun e w' => e = .returned (.bool true) ∧ Below w.heap.size w w' := by
  have h1 := fun w => get_any 43981 4 8 w (by omega) (by omega)
  have h2 := fun w => signed_any 1048574 20 w
  rw [shown_get] at h1
  rw [shown_signed] at h2
  have H1 := Aside.mk h1
  have H2 := Aside.mk h2
  clear h1 h2
  go_enter Try.func8, Try.ntmps8
  go_wp2_with (first | (go_at_call 10; refine (H1.out _).mono ?_; rintro e w1 ⟨rfl, hb⟩) | (go_at_call 11; refine (H2.out _).mono ?_; rintro e w1 ⟨rfl, rfl⟩))
  go_ret
  exact ⟨rfl, hb⟩
theorem shown_b (W w : World) (h : Bl W w) : Calls Try.prog 8 #[] w fun e w' => e = .returned (.bool true) ∧ Bl W w' :=
  (shown_any w).mono fun _ _ ⟨he, hb⟩ => ⟨he, h.then hb⟩

/-- A cell of the one box that the law has made of its argument. -/
theorem cell_new {W w1 : World} {vs : Array Value} {T : TypeId} (hb : Below (W.alloc (.cells vs T)).heap.size (W.alloc (.cells vs T)) w1) (i : Nat) (v : Value) (hv : vs[i]? = some v) :
    w1.cell? ⟨W.heap.size, i, none⟩ = some v :=
  (hb.cell (by simp)).trans (by rw [World.cell?_alloc_at _ _ _ _ rfl]; exact hv)

theorem wf32 {a : Int} (h : (Lit.int .u32 a).wf = true) : 0 ≤ a ∧ a < 4294967296 := by
  simp [Lit.wf, IntKind.min, IntKind.max, IntKind.signed, IntKind.bits] at h
  omega
theorem wf8 {a : Int} (h : (Lit.int .u8 a).wf = true) : 0 ≤ a ∧ a < 256 := by
  simp [Lit.wf, IntKind.min, IntKind.max, IntKind.signed, IntKind.bits] at h
  omega
theorem wf64 {a : Int} (h : (Lit.int .i64 a).wf = true) : -9223372036854775808 ≤ a ∧ a ≤ 9223372036854775807 := by
  simp [Lit.wf, IntKind.min, IntKind.max, IntKind.signed, IntKind.bits] at h
  omega
end Go.Proofs.Ytdafgbehhgojnaa.Laws
