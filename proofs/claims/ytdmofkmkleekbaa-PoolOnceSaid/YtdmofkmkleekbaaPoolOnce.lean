/-
  Each value is found at its place, each place has just one, and to keep them once more keeps the same; what was handed in is not changed. For any row of values (of which 30 at most are looked at), any value: no condition.
-/
import Derived.Test.YtdmofkmkleekbaaRows
import Derived.Test.YtdmofkmkleekbaaOnceWalk
import Derived.Test.YtdmofkmkleekbaaOpen
import Derived.Test.YtdmofkmkleekbaaVals
import Derived.WalkKit
import Derived.ProofKit
import Derived.OpenShut
import Derived.ShutString
import Derived.ChangeOld
import Derived.Below
import Derived.SizedLaws
namespace Go.Proofs.Ytdmofkmkleekbaa.poolOnce
open Go.ChangeShapes Go.WideShapes Go.ChangeAt Go.RowKit
open Go.Proofs.Ytdmofkmkleekbaa.Open
set_option linter.unusedVariables false
theorem own : ownKnob Try.prog.godebug = none := by kernel_rfl
set_option maxRecDepth 100000 in
theorem lifted (os : Os) (started : os.Started) (H : Type) (enc : TypeId × Value → H) :
    ReturnsInHanded {} Try.checked os 4 .any (Rows.poolOnceSpec.pre6 enc Try.prog Try.f4 Rows.poolOnceRow.domain false) (Rows.poolOnceSpec.post enc Try.prog Try.f4 false true false false) := by
  refine returnsInHanded_of_change_sized (C := Try.checked) own started (by kernel_rfl) Try.func4
    (ChangeSpec.witness6 (enc := enc) (C := Try.checked) false ⟨#[], #[.slice none 0 0, .agg #[.int .u32 0, .int .i64 0]], []⟩ 8 (by kernel_rfl) (by kernel_rfl) (by kernel_rfl) (by kernel_rfl)) ?_
  intro W base args ds gs before hval0 hW hcnd hsz0 _
  have hval : ∀ (j : Nat) t v, Try.f4.params[j]? = some t → args[j]? = some v → Value.okWide Try.prog W .any base t v := hval0
  have hW' := hW
  obtain ⟨p, q, hA0, hV, rfl, hfz, hnd⟩ := hW
  have hA : DataW.TrodAll enc Try.prog W 0 (fun _ => true) true Try.f4.params.toList args.toList ds p := hA0
  rw [Try.params4] at hA hval
  obtain ⟨v0, vs0, d0, ds0, p0, q0, hargs, rfl, rfl, h0, r0⟩ := trodAll_cons hA
  obtain ⟨v1, vs1, d1, ds1, p1, q1, rfl, rfl, rfl, h1, r1⟩ := trodAll_cons r0
  obtain ⟨rfl, rfl, rfl⟩ := trodAll_nil r1
  obtain rfl : args = #[v0, v1] := by cases args; simp_all
  obtain ⟨rfl, rfl⟩ := trodVars_none hV
  have k0 := h0
  obtain ⟨A0, c0, l0, rfl, w0⟩ := open_vals Try.underlying22 Try.underlying25 (by kernel_rfl) rfl rfl (by kernel_rfl) (by kernel_rfl) Try.underlying23 Try.underlying3 (hval 0 22 v0 rfl rfl) h0
  have k1 := h1
  obtain ⟨a1, b1, rfl, rfl, wa1, wb1⟩ := open_val Try.underlying25 (by kernel_rfl) (by kernel_rfl) Try.underlying23 Try.underlying3 (hval 1 25 v1 rfl rfl) h1
  clear hA0 hval0 hsz0
  refine (Pool.poolOnce_walk A0 c0 l0 a1 b1 W w0 wa1 wb1).mono fun e W' ⟨he, bel⟩ => ?_
  subst he
  exact ⟨_, rfl, _, _, _, [], _, [], hW', trodAll_mk1 (shut_bool Try.underlying4 _), (trodAll_cons_mk (Below.trod laidOut (by kernel_rfl) (of_decide_eq_true (by kernel_rfl)) k0 bel (fun x hx => by simpa using hW'.lt x (by simp [hx]))) (trodAll_cons_mk (Below.trod laidOut (by kernel_rfl) (of_decide_eq_true (by kernel_rfl)) k1 bel (fun _ hx => absurd hx (by simp))) trodAll_mk0)), rfl, bel.frame _, fun h => by cases h⟩
theorem over : Rows.poolOnceRow.holds Try.pinned (OpenSpec.ofChange Rows.poolOnceSpec) :=
  OpenClaim.holds_of_wide 4 Try.f4 rfl rfl rfl rfl rfl rfl rfl ⟨rfl, rfl, rfl, rfl, rfl⟩ rfl rfl rfl rfl rfl (by kernel_rfl) Try.func4 (by kernel_rfl)
    (of_decide_eq_true (by kernel_rfl)) (by unfold Func.isWrapper; first | (rw [if_pos (by decide +kernel)]; kernel_rfl) | (rw [if_neg (by decide +kernel)]; exact ⟨rfl, rfl⟩))
    (fun os started H enc _ => lifted os started H enc)
theorem proved : Rows.PoolOnceSaid := over
#print axioms proved
end Go.Proofs.Ytdmofkmkleekbaa.poolOnce
namespace Go.Proofs.Ytdmofkmkleekbaa
theorem poolOnce_holds : Rows.PoolOnceSaid := poolOnce.proved
end Go.Proofs.Ytdmofkmkleekbaa
