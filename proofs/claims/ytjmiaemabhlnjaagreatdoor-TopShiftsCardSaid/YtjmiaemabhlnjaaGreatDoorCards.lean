/-
  DERIVED. GIVEN WITH THE SEED: THE CARDS: each row of YtjmiaemabhlnjaaGreatDoorRows.lean that lists a variable, with what it lists TIED to the program's text (the seventh form; the later family's looks); each row that meets fmt, with fmt's text TOLD by the authors' own Lean function (tested against real Go, not proved from fmt's source: count such statements apart). THE CARD IS WHAT COUNTS. Prove the row's statement (the work); the ties are given (YtjmiaemabhlnjaaGreatDoorTie.lean); close each card by the builder's one call (the guide's Derived/Test/ToyasCard.lean, 'card_holds'). Laid BY PROGRAM, IN A SANDBOX (cutbox-door.mjs). By AI agents, Wed Nov 11 2026. No macro, syntax, notation, axiom, sorry.
-/
import Derived.Test.YtjmiaemabhlnjaaGreatDoorRows
import GoSem.ClaimSeven
namespace Go.Proofs.YtjmiaemabhlnjaaGreatDoor
namespace Rows

/-- THE TIED CARD OF 'rivettop.TopShifts'. -/
def topShiftsCard : Claim7 := { stood := { row := topShiftsRow, standIns := [], harness := (true, "226a5722ef5b7ddfab7bcd4e31c5912b987deefa9ffaf5fbf9674233bb017b7d"), looks := true }, kinds := [], alts := [], laidByText := true, laidKinds := [.data, .data, .data, .data, .sentinel, .sentinel, .listed, .data, .mapped, .pinned], laidTests := true, laidLooks := .later }
def TopShiftsCardSaid : Prop := Claim7.holds Tryz.pinned (.plain (OpenSpec.ofChange topShiftsSpec)) topShiftsCard

/-- THE TIED CARD OF 'rivettop.TopMoves'. -/
def topMovesCard : Claim7 := { stood := { row := topMovesRow, standIns := [], harness := (true, "226a5722ef5b7ddfab7bcd4e31c5912b987deefa9ffaf5fbf9674233bb017b7d"), looks := true }, kinds := [], alts := [], laidByText := true, laidKinds := [.data, .data, .data, .data, .sentinel, .sentinel, .listed, .data, .mapped, .pinned], laidTests := true, laidLooks := .later }
def TopMovesCardSaid : Prop := Claim7.holds Tryz.pinned (.plain (OpenSpec.ofChange topMovesSpec)) topMovesCard

/-- THE TIED CARD OF 'rivettop.TopParts'. -/
def topPartsCard : Claim7 := { stood := { row := topPartsRow, standIns := [], harness := (true, "226a5722ef5b7ddfab7bcd4e31c5912b987deefa9ffaf5fbf9674233bb017b7d"), looks := true }, kinds := [], alts := [], laidByText := true, laidKinds := [.data, .data, .data, .data, .sentinel, .sentinel, .listed, .data, .mapped, .pinned], laidTests := true, laidLooks := .later }
def TopPartsCardSaid : Prop := Claim7.holds Tryz.pinned (.plain (OpenSpec.ofChange topPartsSpec)) topPartsCard

/-- THE TIED CARD OF 'rivettop.TopChains'. -/
def topChainsCard : Claim7 := { stood := { row := topChainsRow, standIns := [], harness := (true, "226a5722ef5b7ddfab7bcd4e31c5912b987deefa9ffaf5fbf9674233bb017b7d"), looks := true }, kinds := [], alts := [], laidByText := true, laidKinds := [.data, .data, .data, .data, .sentinel, .sentinel, .listed, .data, .mapped, .pinned], laidTests := true, laidLooks := .later }
def TopChainsCardSaid : Prop := Claim7.holds Tryz.pinned (.plain (OpenSpec.ofChange topChainsSpec)) topChainsCard

/-- THE SECOND FORM's CARD OF 'rivettop.TopShifts'. -/
def topShiftsUptoCard : Claim7 := { stood := { row := topShiftsUptoRow, standIns := [], harness := (true, "226a5722ef5b7ddfab7bcd4e31c5912b987deefa9ffaf5fbf9674233bb017b7d"), looks := true }, kinds := [], alts := [], laidByText := true, laidKinds := [.data, .data, .data, .data, .sentinel, .sentinel, .listed, .data, .mapped, .pinned], laidTests := true, laidLooks := .later }
def TopShiftsUptoCardSaid : Prop := Claim7.holds Tryz.pinned (.plain (OpenSpec.upto topShiftsSpec)) topShiftsUptoCard

/-- THE SECOND FORM's CARD OF 'rivettop.TopMoves'. -/
def topMovesUptoCard : Claim7 := { stood := { row := topMovesUptoRow, standIns := [], harness := (true, "226a5722ef5b7ddfab7bcd4e31c5912b987deefa9ffaf5fbf9674233bb017b7d"), looks := true }, kinds := [], alts := [], laidByText := true, laidKinds := [.data, .data, .data, .data, .sentinel, .sentinel, .listed, .data, .mapped, .pinned], laidTests := true, laidLooks := .later }
def TopMovesUptoCardSaid : Prop := Claim7.holds Tryz.pinned (.plain (OpenSpec.upto topMovesSpec)) topMovesUptoCard

/-- THE SECOND FORM's CARD OF 'rivettop.TopParts'. -/
def topPartsUptoCard : Claim7 := { stood := { row := topPartsUptoRow, standIns := [], harness := (true, "226a5722ef5b7ddfab7bcd4e31c5912b987deefa9ffaf5fbf9674233bb017b7d"), looks := true }, kinds := [], alts := [], laidByText := true, laidKinds := [.data, .data, .data, .data, .sentinel, .sentinel, .listed, .data, .mapped, .pinned], laidTests := true, laidLooks := .later }
def TopPartsUptoCardSaid : Prop := Claim7.holds Tryz.pinned (.plain (OpenSpec.upto topPartsSpec)) topPartsUptoCard

/-- THE SECOND FORM's CARD OF 'rivettop.TopChains'. -/
def topChainsUptoCard : Claim7 := { stood := { row := topChainsUptoRow, standIns := [], harness := (true, "226a5722ef5b7ddfab7bcd4e31c5912b987deefa9ffaf5fbf9674233bb017b7d"), looks := true }, kinds := [], alts := [], laidByText := true, laidKinds := [.data, .data, .data, .data, .sentinel, .sentinel, .listed, .data, .mapped, .pinned], laidTests := true, laidLooks := .later }
def TopChainsUptoCardSaid : Prop := Claim7.holds Tryz.pinned (.plain (OpenSpec.upto topChainsSpec)) topChainsUptoCard
end Rows
end Go.Proofs.YtjmiaemabhlnjaaGreatDoor
