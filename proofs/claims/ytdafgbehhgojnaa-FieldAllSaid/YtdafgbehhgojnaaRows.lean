/-
  No cell of these rows narrows 'for every input' (looked for: loops, veiled, ifaces, maps, wideKeys, modest, calm, conditions, laid).
  DERIVED. THE GIVEN ROWS OF THIS SEAT. 5 by the template 'for every input the law returns true; each argument reads behind the call as it read before'; 0 by the template 'total and deterministic' (their statements: YtdafgbehhgojnaaTotals.lean).
  GIVEN WITH THE SEED: the statements are not yours to turn. If you find one false, say at which input.
  Laid BY PROGRAM, IN A SANDBOX (cutbox-rows.mjs): the forced cells as the released guide's own fill.sh prints them over the translation 0219cc7201034ad2… (all of the seat's roots in one cut). By AI agents, Wed Nov 11 2026. No macro, syntax, notation, axiom, sorry.
-/
import Derived.Test.YtdafgbehhgojnaaChecked
import GoSem.Claim
import GoSem.ClaimJoined
import GoSem.ClaimMapViews
import Derived.JoinedTies
import Derived.KernelRfl
namespace Go.Proofs.Ytdafgbehhgojnaa
/- THE CELL 'sum', in the pinned program and in every row, IS THE sha256 OF THE DUMP (.gsa) THAT YtdafgbehhgojnaaProg.lean LOADS. Nothing in Lean hashes anything: it is a label: what it is worth is what the hold of that sum in a sandbox is worth. -/
noncomputable def Try.pinned : Pinned := { name := "ytdafgbehhgojnaa", sum := "0219cc7201034ad27dd98db383e24a5f322885220e72124bb30a0dbc38768657", checked := Try.checked }
namespace Rows
def none {H : Type} : Left H := { results := [], args := [] }

/-- 'rivetlaw02.FieldBack': WHATEVER THE INPUT: true; the input reads as it did. -/
def fieldBackSpec : ChangeSpec := { name := "fieldBack", fn := fun _ => fun
  | [d1, d2, d3] => { results := [.lit (.bool true)], args := [d1, d2, d3] }
  | _ => none }
def fieldBackRow : OpenClaim := { program := "ytdafgbehhgojnaa", sum := "0219cc7201034ad27dd98db383e24a5f322885220e72124bb30a0dbc38768657", func := "rivet/rivetlaw02.FieldBack", spec := "fieldBack", unfollowed := true, recurses := true, apart := false }
def FieldBackSaid : Prop := fieldBackRow.holds Try.pinned (OpenSpec.ofChange fieldBackSpec)

/-- ITS FALSE NEIGHBOUR: 'it returns false'. Refute it at one input. -/
def fieldBackWrong : ChangeSpec := { name := "fieldBack", fn := fun _ => fun
  | [d1, d2, d3] => { results := [.lit (.bool false)], args := [d1, d2, d3] }
  | _ => none }
def FieldBackWrongFalsely : Prop := fieldBackRow.holds Try.pinned (OpenSpec.ofChange fieldBackWrong)

/-- 'rivetlaw02.FieldSigned': WHATEVER THE INPUT: true; the input reads as it did. -/
def fieldSignedSpec : ChangeSpec := { name := "fieldSigned", fn := fun _ => fun
  | [d1, d2, d3] => { results := [.lit (.bool true)], args := [d1, d2, d3] }
  | _ => none }
def fieldSignedRow : OpenClaim := { program := "ytdafgbehhgojnaa", sum := "0219cc7201034ad27dd98db383e24a5f322885220e72124bb30a0dbc38768657", func := "rivet/rivetlaw02.FieldSigned", spec := "fieldSigned", unfollowed := true, recurses := true, apart := false }
def FieldSignedSaid : Prop := fieldSignedRow.holds Try.pinned (OpenSpec.ofChange fieldSignedSpec)

/-- ITS FALSE NEIGHBOUR: 'it returns false'. Refute it at one input. -/
def fieldSignedWrong : ChangeSpec := { name := "fieldSigned", fn := fun _ => fun
  | [d1, d2, d3] => { results := [.lit (.bool false)], args := [d1, d2, d3] }
  | _ => none }
def FieldSignedWrongFalsely : Prop := fieldSignedRow.holds Try.pinned (OpenSpec.ofChange fieldSignedWrong)

/-- 'rivetlaw02.FieldParts': WHATEVER THE INPUT: true; the input reads as it did. -/
def fieldPartsSpec : ChangeSpec := { name := "fieldParts", fn := fun _ => fun
  | [d1, d2, d3] => { results := [.lit (.bool true)], args := [d1, d2, d3] }
  | _ => none }
def fieldPartsRow : OpenClaim := { program := "ytdafgbehhgojnaa", sum := "0219cc7201034ad27dd98db383e24a5f322885220e72124bb30a0dbc38768657", func := "rivet/rivetlaw02.FieldParts", spec := "fieldParts", unfollowed := true, recurses := true, apart := false }
def FieldPartsSaid : Prop := fieldPartsRow.holds Try.pinned (OpenSpec.ofChange fieldPartsSpec)

/-- ITS FALSE NEIGHBOUR: 'it returns false'. Refute it at one input. -/
def fieldPartsWrong : ChangeSpec := { name := "fieldParts", fn := fun _ => fun
  | [d1, d2, d3] => { results := [.lit (.bool false)], args := [d1, d2, d3] }
  | _ => none }
def FieldPartsWrongFalsely : Prop := fieldPartsRow.holds Try.pinned (OpenSpec.ofChange fieldPartsWrong)

/-- 'rivetlaw02.FieldShifts': WHATEVER THE INPUT: true; the input reads as it did. -/
def fieldShiftsSpec : ChangeSpec := { name := "fieldShifts", fn := fun _ => fun
  | [d1, d2, d3] => { results := [.lit (.bool true)], args := [d1, d2, d3] }
  | _ => none }
def fieldShiftsRow : OpenClaim := { program := "ytdafgbehhgojnaa", sum := "0219cc7201034ad27dd98db383e24a5f322885220e72124bb30a0dbc38768657", func := "rivet/rivetlaw02.FieldShifts", spec := "fieldShifts", unfollowed := true, recurses := true, apart := false }
def FieldShiftsSaid : Prop := fieldShiftsRow.holds Try.pinned (OpenSpec.ofChange fieldShiftsSpec)

/-- ITS FALSE NEIGHBOUR: 'it returns false'. Refute it at one input. -/
def fieldShiftsWrong : ChangeSpec := { name := "fieldShifts", fn := fun _ => fun
  | [d1, d2, d3] => { results := [.lit (.bool false)], args := [d1, d2, d3] }
  | _ => none }
def FieldShiftsWrongFalsely : Prop := fieldShiftsRow.holds Try.pinned (OpenSpec.ofChange fieldShiftsWrong)

/-- 'rivetlaw02.FieldAll': WHATEVER THE INPUT: true; the input reads as it did. -/
def fieldAllSpec : ChangeSpec := { name := "fieldAll", fn := fun _ => fun
  | [d1, d2, d3] => { results := [.lit (.bool true)], args := [d1, d2, d3] }
  | _ => none }
def fieldAllRow : OpenClaim := { program := "ytdafgbehhgojnaa", sum := "0219cc7201034ad27dd98db383e24a5f322885220e72124bb30a0dbc38768657", func := "rivet/rivetlaw02.FieldAll", spec := "fieldAll", unfollowed := true, recurses := true, apart := false }
def FieldAllSaid : Prop := fieldAllRow.holds Try.pinned (OpenSpec.ofChange fieldAllSpec)

/-- ITS FALSE NEIGHBOUR: 'it returns false'. Refute it at one input. -/
def fieldAllWrong : ChangeSpec := { name := "fieldAll", fn := fun _ => fun
  | [d1, d2, d3] => { results := [.lit (.bool false)], args := [d1, d2, d3] }
  | _ => none }
def FieldAllWrongFalsely : Prop := fieldAllRow.holds Try.pinned (OpenSpec.ofChange fieldAllWrong)

/- THE SECOND FORM. 'bulk': how many values and letters a reading holds, each counted each time it is reached (what is shared counts as often as it is met; a slice's spare places count too). A statement '..UptoSaid' is the law's where the arguments, and the package variables that the reading takes, are together of bulk at most 1048576: NARROWER than '..Said'. Prove '..Said' where nothing that the law and all that it calls make is longer than what came in: it says more and counts as full. Else prove '..UptoSaid'. A law counts once. -/
mutual
def uptoBulk {H : Type} : DataW H → Nat
  | .lit (.string bytes) => bytes.length + 1
  | .lit _ => 1
  | .nil => 1
  | .ptr d => uptoBulk d + 1
  | .slice elems spare => uptoBulkAll elems + uptoBulkAll spare + 1
  | .agg parts => uptoBulkAll parts + 1
  | .iface _ d => uptoBulk d + 1
  | .map entries => uptoBulkEntries entries + 1
  | .held _ => 1
def uptoBulkAll {H : Type} : List (DataW H) → Nat
  | [] => 0
  | d :: r => uptoBulk d + uptoBulkAll r
def uptoBulkEntries {H : Type} : List (Lit × DataW H) → Nat
  | [] => 0
  | x :: r => uptoBulkEntry x + uptoBulkEntries r
def uptoBulkEntry {H : Type} : Lit × DataW H → Nat
  | (.string bytes, d) => bytes.length + uptoBulk d + 1
  | (_, d) => uptoBulk d + 1
 end
def uptoSmall : (H : Type) → List (DataW H) → Bool := fun _ ds => decide (uptoBulkAll ds ≤ 1048576)
def OpenSpec.upto (s : _root_.Go.ChangeSpec) : _root_.Go.OpenSpec := { _root_.Go.OpenSpec.ofChange s with cond := some uptoSmall }

/-- 'rivetlaw02.FieldBack', WHERE WHAT IT READS IS OF BULK AT MOST 1048576: true; the input reads as it did. -/
def fieldBackUptoRow : OpenClaim := { program := "ytdafgbehhgojnaa", sum := "0219cc7201034ad27dd98db383e24a5f322885220e72124bb30a0dbc38768657", func := "rivet/rivetlaw02.FieldBack", spec := "fieldBack", unfollowed := true, recurses := true, apart := false, narrowed := true }
def FieldBackUptoSaid : Prop := fieldBackUptoRow.holds Try.pinned (OpenSpec.upto fieldBackSpec)

/-- 'rivetlaw02.FieldSigned', WHERE WHAT IT READS IS OF BULK AT MOST 1048576: true; the input reads as it did. -/
def fieldSignedUptoRow : OpenClaim := { program := "ytdafgbehhgojnaa", sum := "0219cc7201034ad27dd98db383e24a5f322885220e72124bb30a0dbc38768657", func := "rivet/rivetlaw02.FieldSigned", spec := "fieldSigned", unfollowed := true, recurses := true, apart := false, narrowed := true }
def FieldSignedUptoSaid : Prop := fieldSignedUptoRow.holds Try.pinned (OpenSpec.upto fieldSignedSpec)

/-- 'rivetlaw02.FieldParts', WHERE WHAT IT READS IS OF BULK AT MOST 1048576: true; the input reads as it did. -/
def fieldPartsUptoRow : OpenClaim := { program := "ytdafgbehhgojnaa", sum := "0219cc7201034ad27dd98db383e24a5f322885220e72124bb30a0dbc38768657", func := "rivet/rivetlaw02.FieldParts", spec := "fieldParts", unfollowed := true, recurses := true, apart := false, narrowed := true }
def FieldPartsUptoSaid : Prop := fieldPartsUptoRow.holds Try.pinned (OpenSpec.upto fieldPartsSpec)

/-- 'rivetlaw02.FieldShifts', WHERE WHAT IT READS IS OF BULK AT MOST 1048576: true; the input reads as it did. -/
def fieldShiftsUptoRow : OpenClaim := { program := "ytdafgbehhgojnaa", sum := "0219cc7201034ad27dd98db383e24a5f322885220e72124bb30a0dbc38768657", func := "rivet/rivetlaw02.FieldShifts", spec := "fieldShifts", unfollowed := true, recurses := true, apart := false, narrowed := true }
def FieldShiftsUptoSaid : Prop := fieldShiftsUptoRow.holds Try.pinned (OpenSpec.upto fieldShiftsSpec)

/-- 'rivetlaw02.FieldAll', WHERE WHAT IT READS IS OF BULK AT MOST 1048576: true; the input reads as it did. -/
def fieldAllUptoRow : OpenClaim := { program := "ytdafgbehhgojnaa", sum := "0219cc7201034ad27dd98db383e24a5f322885220e72124bb30a0dbc38768657", func := "rivet/rivetlaw02.FieldAll", spec := "fieldAll", unfollowed := true, recurses := true, apart := false, narrowed := true }
def FieldAllUptoSaid : Prop := fieldAllUptoRow.holds Try.pinned (OpenSpec.upto fieldAllSpec)

end Rows
end Go.Proofs.Ytdafgbehhgojnaa
