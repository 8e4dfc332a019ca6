/-
  No cell of these rows narrows 'for every input' (looked for: loops, veiled, ifaces, maps, wideKeys, modest, calm, conditions, laid).
  DERIVED. THE GIVEN ROWS OF THIS SEAT. 8 by the template 'for every input the law returns true; each argument reads behind the call as it read before'; 0 by the template 'total and deterministic' (their statements: YthgnniiiekkodaaTotals.lean).
  GIVEN WITH THE SEED: the statements are not yours to turn. If you find one false, say at which input.
  Laid BY PROGRAM, IN A SANDBOX (cutbox-rows.mjs): the forced cells as the released guide's own fill.sh prints them over the translation 043654b45a4bd3f8… (all of the seat's roots in one cut). By AI agents, Wed Nov 11 2026. No macro, syntax, notation, axiom, sorry.
-/
import Derived.Test.YthgnniiiekkodaaChecked
import GoSem.Claim
import GoSem.ClaimJoined
import GoSem.ClaimMapViews
import Derived.JoinedTies
import Derived.KernelRfl
namespace Go.Proofs.Ythgnniiiekkodaa
/- THE CELL 'sum', in the pinned program and in every row, IS THE sha256 OF THE DUMP (.gsa) THAT YthgnniiiekkodaaProg.lean LOADS. Nothing in Lean hashes anything: it is a label: what it is worth is what the hold of that sum in a sandbox is worth. -/
noncomputable def Try.pinned : Pinned := { name := "ythgnniiiekkodaa", sum := "043654b45a4bd3f8b90205c308863a6fbc2fdcef757580d4422e8b688d8a35f6", checked := Try.checked }
namespace Rows
def none {H : Type} : Left H := { results := [], args := [] }

/-- 'rivetlaw01.WordDivides': WHATEVER THE INPUT: true; the input reads as it did. -/
def wordDividesSpec : ChangeSpec := { name := "wordDivides", fn := fun _ => fun
  | [d1, d2] => { results := [.lit (.bool true)], args := [d1, d2] }
  | _ => none }
def wordDividesRow : OpenClaim := { program := "ythgnniiiekkodaa", sum := "043654b45a4bd3f8b90205c308863a6fbc2fdcef757580d4422e8b688d8a35f6", func := "rivet/rivetlaw01.WordDivides", spec := "wordDivides", apart := false }
def WordDividesSaid : Prop := wordDividesRow.holds Try.pinned (OpenSpec.ofChange wordDividesSpec)

/-- ITS FALSE NEIGHBOUR: 'it returns false'. Refute it at one input. -/
def wordDividesWrong : ChangeSpec := { name := "wordDivides", fn := fun _ => fun
  | [d1, d2] => { results := [.lit (.bool false)], args := [d1, d2] }
  | _ => none }
def WordDividesWrongFalsely : Prop := wordDividesRow.holds Try.pinned (OpenSpec.ofChange wordDividesWrong)

/-- 'rivetlaw01.WordQuotients': WHATEVER THE INPUT: true; the input reads as it did. -/
def wordQuotientsSpec : ChangeSpec := { name := "wordQuotients", fn := fun _ => fun
  | [d1, d2] => { results := [.lit (.bool true)], args := [d1, d2] }
  | _ => none }
def wordQuotientsRow : OpenClaim := { program := "ythgnniiiekkodaa", sum := "043654b45a4bd3f8b90205c308863a6fbc2fdcef757580d4422e8b688d8a35f6", func := "rivet/rivetlaw01.WordQuotients", spec := "wordQuotients", apart := false }
def WordQuotientsSaid : Prop := wordQuotientsRow.holds Try.pinned (OpenSpec.ofChange wordQuotientsSpec)

/-- ITS FALSE NEIGHBOUR: 'it returns false'. Refute it at one input. -/
def wordQuotientsWrong : ChangeSpec := { name := "wordQuotients", fn := fun _ => fun
  | [d1, d2] => { results := [.lit (.bool false)], args := [d1, d2] }
  | _ => none }
def WordQuotientsWrongFalsely : Prop := wordQuotientsRow.holds Try.pinned (OpenSpec.ofChange wordQuotientsWrong)

/-- 'rivetlaw01.WordProducts': WHATEVER THE INPUT: true; the input reads as it did. -/
def wordProductsSpec : ChangeSpec := { name := "wordProducts", fn := fun _ => fun
  | [d1, d2] => { results := [.lit (.bool true)], args := [d1, d2] }
  | _ => none }
def wordProductsRow : OpenClaim := { program := "ythgnniiiekkodaa", sum := "043654b45a4bd3f8b90205c308863a6fbc2fdcef757580d4422e8b688d8a35f6", func := "rivet/rivetlaw01.WordProducts", spec := "wordProducts", apart := false }
def WordProductsSaid : Prop := wordProductsRow.holds Try.pinned (OpenSpec.ofChange wordProductsSpec)

/-- ITS FALSE NEIGHBOUR: 'it returns false'. Refute it at one input. -/
def wordProductsWrong : ChangeSpec := { name := "wordProducts", fn := fun _ => fun
  | [d1, d2] => { results := [.lit (.bool false)], args := [d1, d2] }
  | _ => none }
def WordProductsWrongFalsely : Prop := wordProductsRow.holds Try.pinned (OpenSpec.ofChange wordProductsWrong)

/-- 'rivetlaw01.WordShifts': WHATEVER THE INPUT: true; the input reads as it did. -/
def wordShiftsSpec : ChangeSpec := { name := "wordShifts", fn := fun _ => fun
  | [d1, d2, d3] => { results := [.lit (.bool true)], args := [d1, d2, d3] }
  | _ => none }
def wordShiftsRow : OpenClaim := { program := "ythgnniiiekkodaa", sum := "043654b45a4bd3f8b90205c308863a6fbc2fdcef757580d4422e8b688d8a35f6", func := "rivet/rivetlaw01.WordShifts", spec := "wordShifts", apart := false }
def WordShiftsSaid : Prop := wordShiftsRow.holds Try.pinned (OpenSpec.ofChange wordShiftsSpec)

/-- ITS FALSE NEIGHBOUR: 'it returns false'. Refute it at one input. -/
def wordShiftsWrong : ChangeSpec := { name := "wordShifts", fn := fun _ => fun
  | [d1, d2, d3] => { results := [.lit (.bool false)], args := [d1, d2, d3] }
  | _ => none }
def WordShiftsWrongFalsely : Prop := wordShiftsRow.holds Try.pinned (OpenSpec.ofChange wordShiftsWrong)

/-- 'rivetlaw01.WordBack': WHATEVER THE INPUT: true; the input reads as it did. -/
def wordBackSpec : ChangeSpec := { name := "wordBack", fn := fun _ => fun
  | [d1, d2, d3] => { results := [.lit (.bool true)], args := [d1, d2, d3] }
  | _ => none }
def wordBackRow : OpenClaim := { program := "ythgnniiiekkodaa", sum := "043654b45a4bd3f8b90205c308863a6fbc2fdcef757580d4422e8b688d8a35f6", func := "rivet/rivetlaw01.WordBack", spec := "wordBack", apart := false }
def WordBackSaid : Prop := wordBackRow.holds Try.pinned (OpenSpec.ofChange wordBackSpec)

/-- ITS FALSE NEIGHBOUR: 'it returns false'. Refute it at one input. -/
def wordBackWrong : ChangeSpec := { name := "wordBack", fn := fun _ => fun
  | [d1, d2, d3] => { results := [.lit (.bool false)], args := [d1, d2, d3] }
  | _ => none }
def WordBackWrongFalsely : Prop := wordBackRow.holds Try.pinned (OpenSpec.ofChange wordBackWrong)

/-- 'rivetlaw01.WordLong': WHATEVER THE INPUT: true; the input reads as it did. -/
def wordLongSpec : ChangeSpec := { name := "wordLong", fn := fun _ => fun
  | [d1, d2] => { results := [.lit (.bool true)], args := [d1, d2] }
  | _ => none }
def wordLongRow : OpenClaim := { program := "ythgnniiiekkodaa", sum := "043654b45a4bd3f8b90205c308863a6fbc2fdcef757580d4422e8b688d8a35f6", func := "rivet/rivetlaw01.WordLong", spec := "wordLong", apart := false }
def WordLongSaid : Prop := wordLongRow.holds Try.pinned (OpenSpec.ofChange wordLongSpec)

/-- ITS FALSE NEIGHBOUR: 'it returns false'. Refute it at one input. -/
def wordLongWrong : ChangeSpec := { name := "wordLong", fn := fun _ => fun
  | [d1, d2] => { results := [.lit (.bool false)], args := [d1, d2] }
  | _ => none }
def WordLongWrongFalsely : Prop := wordLongRow.holds Try.pinned (OpenSpec.ofChange wordLongWrong)

/-- 'rivetlaw01.WordOpposites': WHATEVER THE INPUT: true; the input reads as it did. -/
def wordOppositesSpec : ChangeSpec := { name := "wordOpposites", fn := fun _ => fun
  | [d1, d2] => { results := [.lit (.bool true)], args := [d1, d2] }
  | _ => none }
def wordOppositesRow : OpenClaim := { program := "ythgnniiiekkodaa", sum := "043654b45a4bd3f8b90205c308863a6fbc2fdcef757580d4422e8b688d8a35f6", func := "rivet/rivetlaw01.WordOpposites", spec := "wordOpposites", apart := false }
def WordOppositesSaid : Prop := wordOppositesRow.holds Try.pinned (OpenSpec.ofChange wordOppositesSpec)

/-- ITS FALSE NEIGHBOUR: 'it returns false'. Refute it at one input. -/
def wordOppositesWrong : ChangeSpec := { name := "wordOpposites", fn := fun _ => fun
  | [d1, d2] => { results := [.lit (.bool false)], args := [d1, d2] }
  | _ => none }
def WordOppositesWrongFalsely : Prop := wordOppositesRow.holds Try.pinned (OpenSpec.ofChange wordOppositesWrong)

/-- 'rivetlaw01.WordAll': WHATEVER THE INPUT: true; the input reads as it did. -/
def wordAllSpec : ChangeSpec := { name := "wordAll", fn := fun _ => fun
  | [d1, d2, d3] => { results := [.lit (.bool true)], args := [d1, d2, d3] }
  | _ => none }
def wordAllRow : OpenClaim := { program := "ythgnniiiekkodaa", sum := "043654b45a4bd3f8b90205c308863a6fbc2fdcef757580d4422e8b688d8a35f6", func := "rivet/rivetlaw01.WordAll", spec := "wordAll", apart := false }
def WordAllSaid : Prop := wordAllRow.holds Try.pinned (OpenSpec.ofChange wordAllSpec)

/-- ITS FALSE NEIGHBOUR: 'it returns false'. Refute it at one input. -/
def wordAllWrong : ChangeSpec := { name := "wordAll", fn := fun _ => fun
  | [d1, d2, d3] => { results := [.lit (.bool false)], args := [d1, d2, d3] }
  | _ => none }
def WordAllWrongFalsely : Prop := wordAllRow.holds Try.pinned (OpenSpec.ofChange wordAllWrong)

/- THE SECOND FORM. 'bulk': how many values and letters a reading holds, each counted each time it is reached (what is shared counts as often as it is met; a slice's spare places count too). A statement '..UptoSaid' is the law's where the arguments, and the package variables that the reading takes, are together of bulk at most 1048576: NARROWER than '..Said'. Prove '..Said' where nothing that the law and all that it calls make is longer than what came in: it says more and counts as full. Else prove '..UptoSaid'. A law counts once. -/
mutual
def uptoBulk {H : Type} : DataW H → Nat
  | .lit (.string bytes) => bytes.length + 1
  | .lit _ => 1
  | .nil => 1
  | .ptr d => uptoBulk d + 1
  | .slice elems spare => uptoBulkAll elems + uptoBulkAll spare + 1
  | .agg parts => uptoBulkAll parts + 1
  | .iface _ d => uptoBulk d + 1
  | .map entries => uptoBulkEntries entries + 1
  | .held _ => 1
def uptoBulkAll {H : Type} : List (DataW H) → Nat
  | [] => 0
  | d :: r => uptoBulk d + uptoBulkAll r
def uptoBulkEntries {H : Type} : List (Lit × DataW H) → Nat
  | [] => 0
  | x :: r => uptoBulkEntry x + uptoBulkEntries r
def uptoBulkEntry {H : Type} : Lit × DataW H → Nat
  | (.string bytes, d) => bytes.length + uptoBulk d + 1
  | (_, d) => uptoBulk d + 1
 end
def uptoSmall : (H : Type) → List (DataW H) → Bool := fun _ ds => decide (uptoBulkAll ds ≤ 1048576)
def OpenSpec.upto (s : _root_.Go.ChangeSpec) : _root_.Go.OpenSpec := { _root_.Go.OpenSpec.ofChange s with cond := some uptoSmall }

/-- 'rivetlaw01.WordDivides', WHERE WHAT IT READS IS OF BULK AT MOST 1048576: true; the input reads as it did. -/
def wordDividesUptoRow : OpenClaim := { program := "ythgnniiiekkodaa", sum := "043654b45a4bd3f8b90205c308863a6fbc2fdcef757580d4422e8b688d8a35f6", func := "rivet/rivetlaw01.WordDivides", spec := "wordDivides", apart := false, narrowed := true }
def WordDividesUptoSaid : Prop := wordDividesUptoRow.holds Try.pinned (OpenSpec.upto wordDividesSpec)

/-- 'rivetlaw01.WordQuotients', WHERE WHAT IT READS IS OF BULK AT MOST 1048576: true; the input reads as it did. -/
def wordQuotientsUptoRow : OpenClaim := { program := "ythgnniiiekkodaa", sum := "043654b45a4bd3f8b90205c308863a6fbc2fdcef757580d4422e8b688d8a35f6", func := "rivet/rivetlaw01.WordQuotients", spec := "wordQuotients", apart := false, narrowed := true }
def WordQuotientsUptoSaid : Prop := wordQuotientsUptoRow.holds Try.pinned (OpenSpec.upto wordQuotientsSpec)

/-- 'rivetlaw01.WordProducts', WHERE WHAT IT READS IS OF BULK AT MOST 1048576: true; the input reads as it did. -/
def wordProductsUptoRow : OpenClaim := { program := "ythgnniiiekkodaa", sum := "043654b45a4bd3f8b90205c308863a6fbc2fdcef757580d4422e8b688d8a35f6", func := "rivet/rivetlaw01.WordProducts", spec := "wordProducts", apart := false, narrowed := true }
def WordProductsUptoSaid : Prop := wordProductsUptoRow.holds Try.pinned (OpenSpec.upto wordProductsSpec)

/-- 'rivetlaw01.WordShifts', WHERE WHAT IT READS IS OF BULK AT MOST 1048576: true; the input reads as it did. -/
def wordShiftsUptoRow : OpenClaim := { program := "ythgnniiiekkodaa", sum := "043654b45a4bd3f8b90205c308863a6fbc2fdcef757580d4422e8b688d8a35f6", func := "rivet/rivetlaw01.WordShifts", spec := "wordShifts", apart := false, narrowed := true }
def WordShiftsUptoSaid : Prop := wordShiftsUptoRow.holds Try.pinned (OpenSpec.upto wordShiftsSpec)

/-- 'rivetlaw01.WordBack', WHERE WHAT IT READS IS OF BULK AT MOST 1048576: true; the input reads as it did. -/
def wordBackUptoRow : OpenClaim := { program := "ythgnniiiekkodaa", sum := "043654b45a4bd3f8b90205c308863a6fbc2fdcef757580d4422e8b688d8a35f6", func := "rivet/rivetlaw01.WordBack", spec := "wordBack", apart := false, narrowed := true }
def WordBackUptoSaid : Prop := wordBackUptoRow.holds Try.pinned (OpenSpec.upto wordBackSpec)

/-- 'rivetlaw01.WordLong', WHERE WHAT IT READS IS OF BULK AT MOST 1048576: true; the input reads as it did. -/
def wordLongUptoRow : OpenClaim := { program := "ythgnniiiekkodaa", sum := "043654b45a4bd3f8b90205c308863a6fbc2fdcef757580d4422e8b688d8a35f6", func := "rivet/rivetlaw01.WordLong", spec := "wordLong", apart := false, narrowed := true }
def WordLongUptoSaid : Prop := wordLongUptoRow.holds Try.pinned (OpenSpec.upto wordLongSpec)

/-- 'rivetlaw01.WordOpposites', WHERE WHAT IT READS IS OF BULK AT MOST 1048576: true; the input reads as it did. -/
def wordOppositesUptoRow : OpenClaim := { program := "ythgnniiiekkodaa", sum := "043654b45a4bd3f8b90205c308863a6fbc2fdcef757580d4422e8b688d8a35f6", func := "rivet/rivetlaw01.WordOpposites", spec := "wordOpposites", apart := false, narrowed := true }
def WordOppositesUptoSaid : Prop := wordOppositesUptoRow.holds Try.pinned (OpenSpec.upto wordOppositesSpec)

/-- 'rivetlaw01.WordAll', WHERE WHAT IT READS IS OF BULK AT MOST 1048576: true; the input reads as it did. -/
def wordAllUptoRow : OpenClaim := { program := "ythgnniiiekkodaa", sum := "043654b45a4bd3f8b90205c308863a6fbc2fdcef757580d4422e8b688d8a35f6", func := "rivet/rivetlaw01.WordAll", spec := "wordAll", apart := false, narrowed := true }
def WordAllUptoSaid : Prop := wordAllUptoRow.holds Try.pinned (OpenSpec.upto wordAllSpec)

end Rows
end Go.Proofs.Ythgnniiiekkodaa
