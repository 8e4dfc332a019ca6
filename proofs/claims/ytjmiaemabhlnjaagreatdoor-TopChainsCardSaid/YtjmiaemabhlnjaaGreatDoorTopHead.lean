import Derived.Test.YtjmiaemabhlnjaaGreatDoorTopShown
set_option linter.all false
/-! shown() at a row's own world. -/
namespace Go.Proofs.YtjmiaemabhlnjaaGreatDoor.Sym
open Go Go.RowKit
theorem shown_shaped {W : World} {E : Value} (hW : W.ShapedOpen Tryz.prog) (hE1 : E.oneCell' = true) (hE : W.cell? ⟨4, 0, none⟩ = some E) (htab : Lib.TabIs Tryz.prog W "strings.asciiSpace" .u8 Lib.asciiSpaceTab) :
    Calls Tryz.prog 7 #[] W fun e w' => e = .returned (.bool true) ∧ Below W.heap.size W w' :=
  let ⟨_, hm⟩ := Tryz.laysM155.s1_3 W hW
  shown_any hE1 hE hm htab
#print axioms shown_shaped
end Go.Proofs.YtjmiaemabhlnjaaGreatDoor.Sym
