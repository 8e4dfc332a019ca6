import Derived.Test.YtjmiaemabhlnjaaGreatDoorRows
import Derived.Test.YtjmiaemabhlnjaaGreatDoorChecked
import Derived.ProofKit
import Derived.JoinedOf
import Derived.KernelRfl
set_option linter.all false
/-! The row's closed facts. -/
namespace Go.Proofs.YtjmiaemabhlnjaaGreatDoor.topChains
open Go
theorem j0 : (Rows.topChainsRow.wf (OpenSpec.ofChange Rows.topChainsSpec)) = true := by kernel_rfl
theorem j1 : (laidOutB Tryz.pinned.checked.prog) = true := by kernel_rfl
theorem j2 : (mapsRowed Tryz.pinned.checked.prog) = true := by kernel_rfl
theorem j3 : (Tryz.f6.params.all (Tryz.pinned.checked.prog.readableRec ·)) = true := by kernel_rfl
theorem j4 : (namedTie Tryz.pinned.checked.prog Rows.topChainsRow.named Rows.topChainsSpec.vars) = true := by kernel_rfl
theorem j5 : ((Rows.topChainsRow.inPlace == Tryz.pinned.checked.prog.inPlace 6)) = true := by kernel_rfl
theorem j6 : ((Rows.topChainsRow.unfollowed == Tryz.pinned.checked.prog.unfollowed 6)) = true := by kernel_rfl
theorem j7 : ((Rows.topChainsRow.recurses == Tryz.pinned.checked.prog.recurses 6)) = true := by kernel_rfl
theorem j8 : ((Rows.topChainsRow.named == Tryz.pinned.checked.prog.varsNamed 6)) = true := by kernel_rfl
theorem j9 : ((Rows.topChainsRow.maps == (Tryz.f6.params.toList ++ Rows.topChainsSpec.plain.varTypes Tryz.pinned.checked.prog).any (Tryz.pinned.checked.prog.mapsRec ·))) = true := by kernel_rfl
theorem j10 : ((Rows.topChainsRow.ifaces == (Tryz.f6.params.toList ++ Rows.topChainsSpec.plain.varTypes Tryz.pinned.checked.prog).any (Tryz.pinned.checked.prog.ifacesRec ·))) = true := by kernel_rfl
theorem j11 : ((Rows.topChainsRow.mapsOut == Tryz.pinned.checked.prog.mapsAmong Tryz.f6.resultTypes.toList)) = true := by kernel_rfl
theorem j12 : ((Rows.topChainsRow.loops == (Tryz.f6.params.toList ++ Rows.topChainsSpec.plain.varTypes Tryz.pinned.checked.prog).any (Tryz.pinned.checked.prog.loopsFrom ·))) = true := by kernel_rfl
theorem j13 : ((Rows.topChainsRow.wideKeys == (Tryz.f6.params.toList ++ Rows.topChainsSpec.plain.varTypes Tryz.pinned.checked.prog ++ Tryz.f6.resultTypes.toList).any (Tryz.pinned.checked.prog.wideKeysFrom ·))) = true := by kernel_rfl
theorem j14 : (Rows.topChainsSpec.vars.all (Tryz.pinned.checked.prog.varReadable ·)) = true := by kernel_rfl
theorem j15 : (Tryz.f6.resultTypes.all (fun t => Tryz.pinned.checked.prog.readableRec t && decide (t < Tryz.pinned.checked.prog.types.size))) = true := by kernel_rfl
theorem j16 : ((Rows.topChainsRow.ifacesOut == Tryz.f6.resultTypes.toList.any (Tryz.pinned.checked.prog.ifacesRec ·))) = true := by kernel_rfl
theorem j17 : ((Rows.topChainsRow.loopsOut == Tryz.f6.resultTypes.toList.any (Tryz.pinned.checked.prog.loopsFrom ·))) = true := by kernel_rfl
theorem j18 : ((Rows.topChainsRow.plainKeys == Tryz.pinned.checked.prog.plainKeys)) = true := by kernel_rfl
theorem j19 : (Tryz.pinned.checked.prog.stopsHeard) = true := by kernel_rfl
theorem j20 : (Tryz.pinned.checked.prog.mayEnter) = true := by kernel_rfl
theorem j21 : ((Rows.topChainsRow.lifted == Tryz.pinned.checked.prog.liftsFinal)) = true := by kernel_rfl
theorem j22 : ((Tryz.pinned.checked.prog.make == some Rows.topChainsRow.make)) = true := by kernel_rfl
theorem j23 : ((Rows.topChainsRow.pinned == Rows.topChainsRow.pinnedBy)) = true := by kernel_rfl
theorem j24 : ((Rows.topChainsRow.veiled == (Tryz.f6.params.toList ++ Rows.topChainsSpec.plain.varTypes Tryz.pinned.checked.prog ++ Tryz.f6.resultTypes.toList).any (Tryz.pinned.checked.prog.veiledRec ·))) = true := by kernel_rfl
theorem j25 : (Rows.topChainsRow.veiledFits Tryz.pinned.checked.prog Tryz.f6.params.toList (Tryz.f6.params.toList ++ Rows.topChainsSpec.plain.varTypes Tryz.pinned.checked.prog ++ Tryz.f6.resultTypes.toList)) = true := by kernel_rfl
theorem k_named : Tryz.pinned.checked.prog.funcNamed Rows.topChainsRow.func = some 6 := by kernel_rfl
theorem k_inst : Tryz.f6.isInstance Tryz.pinned.checked.prog Rows.topChainsRow.origin Rows.topChainsRow.targs := of_decide_eq_true (by kernel_rfl)
theorem k_wrap : Tryz.f6.isWrapper Tryz.pinned.checked.prog Rows.topChainsRow.wrapper Rows.topChainsRow.mainSum := by unfold Func.isWrapper; first | (rw [if_pos (by decide +kernel)]; kernel_rfl) | (rw [if_neg (by decide +kernel)]; exact ⟨rfl, rfl⟩)
theorem closed : joinedFacts Tryz.pinned.checked.prog 6 Tryz.f6 Rows.topChainsSpec Rows.topChainsRow = true := by
  unfold joinedFacts
  simp only [Bool.and_eq_true]
  exact ⟨⟨⟨⟨⟨⟨⟨⟨⟨⟨⟨⟨⟨⟨⟨⟨⟨⟨⟨⟨⟨⟨⟨⟨⟨⟨⟨⟨⟨⟨⟨j0, j1⟩, j2⟩, j3⟩, j4⟩, (by kernel_rfl)⟩, (by kernel_rfl)⟩, (by kernel_rfl)⟩, (by kernel_rfl)⟩, j5⟩, j6⟩, j7⟩, j8⟩, j9⟩, j10⟩, j11⟩, j12⟩, j13⟩, j14⟩, j15⟩, j16⟩, j17⟩, j18⟩, (by kernel_rfl)⟩, j19⟩, j20⟩, j21⟩, j22⟩, (by kernel_rfl)⟩, j23⟩, j24⟩, j25⟩
end Go.Proofs.YtjmiaemabhlnjaaGreatDoor.topChains
