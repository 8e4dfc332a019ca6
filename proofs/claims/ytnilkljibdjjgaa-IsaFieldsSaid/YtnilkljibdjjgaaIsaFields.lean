/-
  The registers, the number and the operation of an instruction stand in their fields of its word. For any instruction (made one that may be): no condition.
-/
import Derived.Test.YtnilkljibdjjgaaRows
import Derived.Test.YtnilkljibdjjgaaLaws3
import Derived.Test.YtnilkljibdjjgaaOpen
import Derived.WalkKit
import Derived.ProofKit
import Derived.OpenShut
import Derived.ShutString
import Derived.ChangeOld
import Derived.Below
import Derived.SizedLaws
namespace Go.Proofs.Ytnilkljibdjjgaa.isaFields
open Go.ChangeShapes Go.WideShapes Go.ChangeAt Go.RowKit
open Go.Proofs.Ytnilkljibdjjgaa.Open
set_option linter.unusedVariables false
theorem own : ownKnob Try.prog.godebug = none := by kernel_rfl
set_option maxRecDepth 100000 in
theorem lifted (os : Os) (started : os.Started) (H : Type) (enc : TypeId × Value → H) :
    ReturnsInHanded {} Try.checked os 8 .any (Rows.isaFieldsSpec.pre6 enc Try.prog Try.f8 Rows.isaFieldsRow.domain false) (Rows.isaFieldsSpec.post enc Try.prog Try.f8 false true false false) := by
  refine returnsInHanded_of_change_sized (C := Try.checked) own started (by kernel_rfl) Try.func8
    (ChangeSpec.witness6 (enc := enc) (C := Try.checked) false ⟨#[], #[.agg #[.int .i64 0, .int .i64 0, .int .i64 0, .int .i64 0, .int .i64 0, .int .i64 0, .bool false]], []⟩ 8 (by kernel_rfl) (by kernel_rfl) (by kernel_rfl) (by kernel_rfl)) ?_
  intro W base args ds gs before hval0 hW hcnd hsz0 _
  have hval : ∀ (j : Nat) t v, Try.f8.params[j]? = some t → args[j]? = some v → Value.okWide Try.prog W .any base t v := hval0
  have hW' := hW
  obtain ⟨p, q, hA0, hV, rfl, hfz, hnd⟩ := hW
  have hA : DataW.TrodAll enc Try.prog W 0 (fun _ => true) true Try.f8.params.toList args.toList ds p := hA0
  rw [Try.params8] at hA hval
  obtain ⟨v0, vs0, d0, ds0, p0, q0, hargs, rfl, rfl, h0, r0⟩ := trodAll_cons hA
  obtain ⟨rfl, rfl, rfl⟩ := trodAll_nil r0
  obtain rfl : args = #[v0] := by cases args; simp_all
  obtain ⟨rfl, rfl⟩ := trodVars_none hV
  have k0 := h0
  obtain ⟨kd0, op0, ra0, rb0, rc0, im0, u0, rfl, rfl, wkd0, wop0, wra0, wrb0, wrc0, wim0⟩ := open_instr Try.underlying23 (by kernel_rfl) (by kernel_rfl) Try.underlying3 Try.underlying3 Try.underlying3 Try.underlying3 Try.underlying3 Try.underlying3 Try.underlying4 (hval 0 23 v0 rfl rfl) h0
  clear hA0 hval0 hsz0
  refine (Isa.fields_walk kd0 op0 ra0 rb0 rc0 im0 u0 W wkd0 wop0 wra0 wrb0 wrc0 wim0).mono fun e W' ⟨he, bel⟩ => ?_
  subst he
  exact ⟨_, rfl, _, _, _, [], _, [], hW', trodAll_mk1 (shut_bool Try.underlying4 _), (trodAll_cons_mk (Below.trod laidOut (by kernel_rfl) (of_decide_eq_true (by kernel_rfl)) k0 bel (fun _ hx => absurd hx (by simp))) trodAll_mk0), rfl, bel.frame _, fun h => by cases h⟩
theorem over : Rows.isaFieldsRow.holds Try.pinned (OpenSpec.ofChange Rows.isaFieldsSpec) :=
  OpenClaim.holds_of_wide 8 Try.f8 rfl rfl rfl rfl rfl rfl rfl ⟨rfl, rfl, rfl, rfl, rfl⟩ rfl rfl rfl rfl rfl (by kernel_rfl) Try.func8 (by kernel_rfl)
    (of_decide_eq_true (by kernel_rfl)) (by unfold Func.isWrapper; first | (rw [if_pos (by decide +kernel)]; kernel_rfl) | (rw [if_neg (by decide +kernel)]; exact ⟨rfl, rfl⟩))
    (fun os started H enc _ => lifted os started H enc)
theorem proved : Rows.IsaFieldsSaid := over
#print axioms proved
end Go.Proofs.Ytnilkljibdjjgaa.isaFields
namespace Go.Proofs.Ytnilkljibdjjgaa
theorem isaFields_holds : Rows.IsaFieldsSaid := isaFields.proved
end Go.Proofs.Ytnilkljibdjjgaa
