/- A part of the proof of TopShifts. -/
import Derived.Test.YtjmiaemabhlnjaaGreatDoorRows
import Derived.Test.YtjmiaemabhlnjaaGreatDoorChecked
import Derived.ProofKit
import Derived.JoinedOf
import Derived.KernelRfl
section
set_option linter.all false
set_option maxRecDepth 20000
namespace Go.Proofs.YtjmiaemabhlnjaaGreatDoor.topShifts
open Go
theorem j0:(Rows.topShiftsRow.wf (OpenSpec.ofChange Rows.topShiftsSpec))=true:=by kernel_rfl
theorem j1:(laidOutB Tryz.pinned.checked.prog)=true:=by kernel_rfl
theorem j2:(mapsRowed Tryz.pinned.checked.prog)=true:=by kernel_rfl
theorem j3:(Tryz.f3.params.all (Tryz.pinned.checked.prog.readableRec ·))=true:=by kernel_rfl
theorem j4:(namedTie Tryz.pinned.checked.prog Rows.topShiftsRow.named Rows.topShiftsSpec.vars)=true:=by kernel_rfl
theorem j5:((Rows.topShiftsRow.inPlace==Tryz.pinned.checked.prog.inPlace 3))=true:=by kernel_rfl
theorem j6:((Rows.topShiftsRow.unfollowed==Tryz.pinned.checked.prog.unfollowed 3))=true:=by kernel_rfl
theorem j7:((Rows.topShiftsRow.recurses==Tryz.pinned.checked.prog.recurses 3))=true:=by kernel_rfl
theorem j8:((Rows.topShiftsRow.named==Tryz.pinned.checked.prog.varsNamed 3))=true:=by kernel_rfl
theorem j9:((Rows.topShiftsRow.maps==(Tryz.f3.params.toList++Rows.topShiftsSpec.plain.varTypes Tryz.pinned.checked.prog).any (Tryz.pinned.checked.prog.mapsRec ·)))=true:=by kernel_rfl
theorem j10:((Rows.topShiftsRow.ifaces==(Tryz.f3.params.toList++Rows.topShiftsSpec.plain.varTypes Tryz.pinned.checked.prog).any (Tryz.pinned.checked.prog.ifacesRec ·)))=true:=by kernel_rfl
theorem j11:((Rows.topShiftsRow.mapsOut==Tryz.pinned.checked.prog.mapsAmong Tryz.f3.resultTypes.toList))=true:=by kernel_rfl
theorem j12:((Rows.topShiftsRow.loops==(Tryz.f3.params.toList++Rows.topShiftsSpec.plain.varTypes Tryz.pinned.checked.prog).any (Tryz.pinned.checked.prog.loopsFrom ·)))=true:=by kernel_rfl
theorem j13:((Rows.topShiftsRow.wideKeys==(Tryz.f3.params.toList++Rows.topShiftsSpec.plain.varTypes Tryz.pinned.checked.prog++Tryz.f3.resultTypes.toList).any (Tryz.pinned.checked.prog.wideKeysFrom ·)))=true:=by kernel_rfl
theorem j14:(Rows.topShiftsSpec.vars.all (Tryz.pinned.checked.prog.varReadable ·))=true:=by kernel_rfl
theorem j15:(Tryz.f3.resultTypes.all (fun t=>Tryz.pinned.checked.prog.readableRec t&&decide (t<Tryz.pinned.checked.prog.types.size)))=true:=by kernel_rfl
theorem j16:((Rows.topShiftsRow.ifacesOut==Tryz.f3.resultTypes.toList.any (Tryz.pinned.checked.prog.ifacesRec ·)))=true:=by kernel_rfl
theorem j17:((Rows.topShiftsRow.loopsOut==Tryz.f3.resultTypes.toList.any (Tryz.pinned.checked.prog.loopsFrom ·)))=true:=by kernel_rfl
theorem j18:((Rows.topShiftsRow.plainKeys==Tryz.pinned.checked.prog.plainKeys))=true:=by kernel_rfl
theorem j19:(Tryz.pinned.checked.prog.stopsHeard)=true:=by kernel_rfl
theorem j20:(Tryz.pinned.checked.prog.mayEnter)=true:=by kernel_rfl
theorem j21:((Rows.topShiftsRow.lifted==Tryz.pinned.checked.prog.liftsFinal))=true:=by kernel_rfl
theorem j22:((Tryz.pinned.checked.prog.make==some Rows.topShiftsRow.make))=true:=by kernel_rfl
theorem j23:((Rows.topShiftsRow.pinned==Rows.topShiftsRow.pinnedBy))=true:=by kernel_rfl
theorem j24:((Rows.topShiftsRow.veiled==(Tryz.f3.params.toList++Rows.topShiftsSpec.plain.varTypes Tryz.pinned.checked.prog++Tryz.f3.resultTypes.toList).any (Tryz.pinned.checked.prog.veiledRec ·)))=true:=by kernel_rfl
theorem j25:(Rows.topShiftsRow.veiledFits Tryz.pinned.checked.prog Tryz.f3.params.toList (Tryz.f3.params.toList++Rows.topShiftsSpec.plain.varTypes Tryz.pinned.checked.prog++Tryz.f3.resultTypes.toList))=true:=by kernel_rfl
theorem k_named:Tryz.pinned.checked.prog.funcNamed Rows.topShiftsRow.func=some 3:=by kernel_rfl
theorem k_inst:Tryz.f3.isInstance Tryz.pinned.checked.prog Rows.topShiftsRow.origin Rows.topShiftsRow.targs:=of_decide_eq_true (by kernel_rfl)
theorem k_wrap:Tryz.f3.isWrapper Tryz.pinned.checked.prog Rows.topShiftsRow.wrapper Rows.topShiftsRow.mainSum:=by unfold Func.isWrapper;first | (rw [if_pos (by decide +kernel)];kernel_rfl) | (rw [if_neg (by decide +kernel)];exact ⟨rfl,rfl⟩)
theorem closed:joinedFacts Tryz.pinned.checked.prog 3 Tryz.f3 Rows.topShiftsSpec Rows.topShiftsRow=true:=by
 unfold joinedFacts;simp only [Bool.and_eq_true];exact ⟨⟨⟨⟨⟨⟨⟨⟨⟨⟨⟨⟨⟨⟨⟨⟨⟨⟨⟨⟨⟨⟨⟨⟨⟨⟨⟨⟨⟨⟨⟨j0,j1⟩,j2⟩,j3⟩,j4⟩,(by kernel_rfl)⟩,(by kernel_rfl)⟩,(by kernel_rfl)⟩,(by kernel_rfl)⟩,j5⟩,j6⟩,j7⟩,j8⟩,j9⟩,j10⟩,j11⟩,j12⟩,j13⟩,j14⟩,j15⟩,j16⟩,j17⟩,j18⟩,(by kernel_rfl)⟩,j19⟩,j20⟩,j21⟩,j22⟩,(by kernel_rfl)⟩,j23⟩,j24⟩,j25⟩
end Go.Proofs.YtjmiaemabhlnjaaGreatDoor.topShifts
end
