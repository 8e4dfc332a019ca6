/- A part of the proof of TopShifts. -/
import Derived.Test.YtjmiaemabhlnjaaGreatDoorRows
import Derived.Test.YtjmiaemabhlnjaaGreatDoorChecked
import Derived.ProofKit
import Derived.LaidMore
import Derived.Lay
import Derived.Lib.LaidIn
import Derived.OpenShut
import Derived.KernelRfl
import Derived.HandedShaped
section
set_option linter.all false
set_option maxRecDepth 20000
namespace Go.Proofs.YtjmiaemabhlnjaaGreatDoor.Wit
open Go Go.ChangeShapes Go.WideShapes Go.ChangeAt Go.RowKit
def greats:List String:=["math/bits.deBruijn32tab", "math/bits.deBruijn64tab", "internal/strconv.uint64pow10", "unicode/utf8.acceptRanges", "strconv.ErrRange", "strconv.ErrSyntax", "unicode.White_Space", "strings.asciiSpace", "unicode/utf8.first"]
noncomputable def door (os:Os):World:=World.doorLaid Tryz.prog 116 os
noncomputable def start (os:Os):World:=(door os).layVars Tryz.prog (Rows.topChainsRow.laid.filter fun x=>greats.contains x.1)
theorem start_os (os:Os):(start os).os=os:=World.layVars_os _ _ _
set_option maxRecDepth 1000000
theorem w_fits (os:Os):(door os).layFits Tryz.prog (Rows.topChainsRow.laid.filter fun x=>greats.contains x.1) [7,21]=true:=by kernel_rfl
theorem w_ifaces (os:Os) (args:Array Value):(door os).layIfaces Tryz.prog (Rows.topChainsRow.laid.filter fun x=>greats.contains x.1) ((start os).forCall (fun _ _=>0) ⟨#[],args,[]⟩).memory=true:=by kernel_rfl
theorem w_kinds (os:Os) (args:Array Value):LaidIn Tryz.prog ((start os).forCall (fun _ _=>0) ⟨#[],args,[]⟩).memory (Rows.topChainsRow.laid.filter fun x => !greats.contains x.1) [7,21] :=
 LaidIn.of_run [7,21] 8 (by kernel_rfl) (by kernel_rfl) (by kernel_rfl) (by kernel_rfl)
theorem met (os:Os) (args:Array Value):laidMet Tryz.prog Rows.topChainsRow.laid ((start os).forCall (fun _ _=>0) ⟨#[],args,[]⟩).memory :=
 laidMet_layVars (w0:=door os) greats [7,21] (by simp [World.memory,World.forCall,Input.heap,start]) (w_fits os) (w_ifaces os args) (w_kinds os args)
theorem shaped (os:Os) (args:Array Value):((start os).forCall (fun _ _=>0) ⟨#[],args,[]⟩).Shaped Tryz.prog:=World.shaped_of_ZipB (by kernel_rfl) (by kernel_rfl)
end Go.Proofs.YtjmiaemabhlnjaaGreatDoor.Wit
end
