/-
  No cell of these rows narrows 'for every input' (looked for: loops, veiled, ifaces, maps, wideKeys, modest, calm, conditions, laid).
  DERIVED. THE GIVEN ROWS OF THIS SEAT. 8 by the template 'for every input the law returns true; each argument reads behind the call as it read before'; 0 by the template 'total and deterministic' (their statements: YtnilkljibdjjgaaTotals.lean).
  GIVEN WITH THE SEED: the statements are not yours to turn. If you find one false, say at which input.
  Laid BY PROGRAM, IN A SANDBOX (cutbox-rows.mjs): the forced cells as the released guide's own fill.sh prints them over the translation 9c49ff81cff07050… (all of the seat's roots in one cut). By AI agents, Wed Nov 11 2026. No macro, syntax, notation, axiom, sorry.
-/
import Derived.Test.YtnilkljibdjjgaaChecked
import GoSem.Claim
import GoSem.ClaimJoined
import GoSem.ClaimMapViews
import Derived.JoinedTies
import Derived.KernelRfl
namespace Go.Proofs.Ytnilkljibdjjgaa
/- THE CELL 'sum', in the pinned program and in every row, IS THE sha256 OF THE DUMP (.gsa) THAT YtnilkljibdjjgaaProg.lean LOADS. Nothing in Lean hashes anything: it is a label: what it is worth is what the hold of that sum in a sandbox is worth. -/
noncomputable def Try.pinned : Pinned := { name := "ytnilkljibdjjgaa", sum := "9c49ff81cff0705020cf76fe2d0853c25c0312bc514727d478046168af185d97", checked := Try.checked }
namespace Rows
def none {H : Type} : Left H := { results := [], args := [] }

/-- 'rivetlaw03.IsaAll': WHATEVER THE INPUT: true; the input reads as it did. -/
def isaAllSpec : ChangeSpec := { name := "isaAll", fn := fun _ => fun
  | [d1, d2] => { results := [.lit (.bool true)], args := [d1, d2] }
  | _ => none }
def isaAllRow : OpenClaim := { program := "ytnilkljibdjjgaa", sum := "9c49ff81cff0705020cf76fe2d0853c25c0312bc514727d478046168af185d97", func := "rivet/rivetlaw03.IsaAll", spec := "isaAll", unfollowed := true, recurses := true, apart := false }
def IsaAllSaid : Prop := isaAllRow.holds Try.pinned (OpenSpec.ofChange isaAllSpec)

/-- ITS FALSE NEIGHBOUR: 'it returns false'. Refute it at one input. -/
def isaAllWrong : ChangeSpec := { name := "isaAll", fn := fun _ => fun
  | [d1, d2] => { results := [.lit (.bool false)], args := [d1, d2] }
  | _ => none }
def IsaAllWrongFalsely : Prop := isaAllRow.holds Try.pinned (OpenSpec.ofChange isaAllWrong)

/-- 'rivetlaw03.IsaBack': WHATEVER THE INPUT: true; the input reads as it did. -/
def isaBackSpec : ChangeSpec := { name := "isaBack", fn := fun _ => fun
  | [d] => { results := [.lit (.bool true)], args := [d] }
  | _ => none }
def isaBackRow : OpenClaim := { program := "ytnilkljibdjjgaa", sum := "9c49ff81cff0705020cf76fe2d0853c25c0312bc514727d478046168af185d97", func := "rivet/rivetlaw03.IsaBack", spec := "isaBack", unfollowed := true, recurses := true, apart := false }
def IsaBackSaid : Prop := isaBackRow.holds Try.pinned (OpenSpec.ofChange isaBackSpec)

/-- ITS FALSE NEIGHBOUR: 'it returns false'. Refute it at one input. -/
def isaBackWrong : ChangeSpec := { name := "isaBack", fn := fun _ => fun
  | [d] => { results := [.lit (.bool false)], args := [d] }
  | _ => none }
def IsaBackWrongFalsely : Prop := isaBackRow.holds Try.pinned (OpenSpec.ofChange isaBackWrong)

/-- 'rivetlaw03.IsaWords': WHATEVER THE INPUT: true; the input reads as it did. -/
def isaWordsSpec : ChangeSpec := { name := "isaWords", fn := fun _ => fun
  | [d] => { results := [.lit (.bool true)], args := [d] }
  | _ => none }
def isaWordsRow : OpenClaim := { program := "ytnilkljibdjjgaa", sum := "9c49ff81cff0705020cf76fe2d0853c25c0312bc514727d478046168af185d97", func := "rivet/rivetlaw03.IsaWords", spec := "isaWords", unfollowed := true, recurses := true, apart := false }
def IsaWordsSaid : Prop := isaWordsRow.holds Try.pinned (OpenSpec.ofChange isaWordsSpec)

/-- ITS FALSE NEIGHBOUR: 'it returns false'. Refute it at one input. -/
def isaWordsWrong : ChangeSpec := { name := "isaWords", fn := fun _ => fun
  | [d] => { results := [.lit (.bool false)], args := [d] }
  | _ => none }
def IsaWordsWrongFalsely : Prop := isaWordsRow.holds Try.pinned (OpenSpec.ofChange isaWordsWrong)

/-- 'rivetlaw03.IsaBits': WHATEVER THE INPUT: true; the input reads as it did. -/
def isaBitsSpec : ChangeSpec := { name := "isaBits", fn := fun _ => fun
  | [d1, d2] => { results := [.lit (.bool true)], args := [d1, d2] }
  | _ => none }
def isaBitsRow : OpenClaim := { program := "ytnilkljibdjjgaa", sum := "9c49ff81cff0705020cf76fe2d0853c25c0312bc514727d478046168af185d97", func := "rivet/rivetlaw03.IsaBits", spec := "isaBits", unfollowed := true, recurses := true, apart := false }
def IsaBitsSaid : Prop := isaBitsRow.holds Try.pinned (OpenSpec.ofChange isaBitsSpec)

/-- ITS FALSE NEIGHBOUR: 'it returns false'. Refute it at one input. -/
def isaBitsWrong : ChangeSpec := { name := "isaBits", fn := fun _ => fun
  | [d1, d2] => { results := [.lit (.bool false)], args := [d1, d2] }
  | _ => none }
def IsaBitsWrongFalsely : Prop := isaBitsRow.holds Try.pinned (OpenSpec.ofChange isaBitsWrong)

/-- 'rivetlaw03.IsaSpoilt': WHATEVER THE INPUT: true; the input reads as it did. -/
def isaSpoiltSpec : ChangeSpec := { name := "isaSpoilt", fn := fun _ => fun
  | [d1, d2, d3] => { results := [.lit (.bool true)], args := [d1, d2, d3] }
  | _ => none }
def isaSpoiltRow : OpenClaim := { program := "ytnilkljibdjjgaa", sum := "9c49ff81cff0705020cf76fe2d0853c25c0312bc514727d478046168af185d97", func := "rivet/rivetlaw03.IsaSpoilt", spec := "isaSpoilt", unfollowed := true, recurses := true, apart := false }
def IsaSpoiltSaid : Prop := isaSpoiltRow.holds Try.pinned (OpenSpec.ofChange isaSpoiltSpec)

/-- ITS FALSE NEIGHBOUR: 'it returns false'. Refute it at one input. -/
def isaSpoiltWrong : ChangeSpec := { name := "isaSpoilt", fn := fun _ => fun
  | [d1, d2, d3] => { results := [.lit (.bool false)], args := [d1, d2, d3] }
  | _ => none }
def IsaSpoiltWrongFalsely : Prop := isaSpoiltRow.holds Try.pinned (OpenSpec.ofChange isaSpoiltWrong)

/-- 'rivetlaw03.IsaFields': WHATEVER THE INPUT: true; the input reads as it did. -/
def isaFieldsSpec : ChangeSpec := { name := "isaFields", fn := fun _ => fun
  | [d] => { results := [.lit (.bool true)], args := [d] }
  | _ => none }
def isaFieldsRow : OpenClaim := { program := "ytnilkljibdjjgaa", sum := "9c49ff81cff0705020cf76fe2d0853c25c0312bc514727d478046168af185d97", func := "rivet/rivetlaw03.IsaFields", spec := "isaFields", unfollowed := true, recurses := true, apart := false }
def IsaFieldsSaid : Prop := isaFieldsRow.holds Try.pinned (OpenSpec.ofChange isaFieldsSpec)

/-- ITS FALSE NEIGHBOUR: 'it returns false'. Refute it at one input. -/
def isaFieldsWrong : ChangeSpec := { name := "isaFields", fn := fun _ => fun
  | [d] => { results := [.lit (.bool false)], args := [d] }
  | _ => none }
def IsaFieldsWrongFalsely : Prop := isaFieldsRow.holds Try.pinned (OpenSpec.ofChange isaFieldsWrong)

/-- 'rivetlaw03.IsaUnlike': WHATEVER THE INPUT: true; the input reads as it did. -/
def isaUnlikeSpec : ChangeSpec := { name := "isaUnlike", fn := fun _ => fun
  | [d1, d2] => { results := [.lit (.bool true)], args := [d1, d2] }
  | _ => none }
def isaUnlikeRow : OpenClaim := { program := "ytnilkljibdjjgaa", sum := "9c49ff81cff0705020cf76fe2d0853c25c0312bc514727d478046168af185d97", func := "rivet/rivetlaw03.IsaUnlike", spec := "isaUnlike", unfollowed := true, recurses := true, apart := false }
def IsaUnlikeSaid : Prop := isaUnlikeRow.holds Try.pinned (OpenSpec.ofChange isaUnlikeSpec)

/-- ITS FALSE NEIGHBOUR: 'it returns false'. Refute it at one input. -/
def isaUnlikeWrong : ChangeSpec := { name := "isaUnlike", fn := fun _ => fun
  | [d1, d2] => { results := [.lit (.bool false)], args := [d1, d2] }
  | _ => none }
def IsaUnlikeWrongFalsely : Prop := isaUnlikeRow.holds Try.pinned (OpenSpec.ofChange isaUnlikeWrong)

/-- 'rivetlaw03.IsaFree': WHATEVER THE INPUT: true; the input reads as it did. -/
def isaFreeSpec : ChangeSpec := { name := "isaFree", fn := fun _ => fun
  | [d] => { results := [.lit (.bool true)], args := [d] }
  | _ => none }
def isaFreeRow : OpenClaim := { program := "ytnilkljibdjjgaa", sum := "9c49ff81cff0705020cf76fe2d0853c25c0312bc514727d478046168af185d97", func := "rivet/rivetlaw03.IsaFree", spec := "isaFree", unfollowed := true, recurses := true, apart := false }
def IsaFreeSaid : Prop := isaFreeRow.holds Try.pinned (OpenSpec.ofChange isaFreeSpec)

/-- ITS FALSE NEIGHBOUR: 'it returns false'. Refute it at one input. -/
def isaFreeWrong : ChangeSpec := { name := "isaFree", fn := fun _ => fun
  | [d] => { results := [.lit (.bool false)], args := [d] }
  | _ => none }
def IsaFreeWrongFalsely : Prop := isaFreeRow.holds Try.pinned (OpenSpec.ofChange isaFreeWrong)

/- THE SECOND FORM. 'bulk': how many values and letters a reading holds, each counted each time it is reached (what is shared counts as often as it is met; a slice's spare places count too). A statement '..UptoSaid' is the law's where the arguments, and the package variables that the reading takes, are together of bulk at most 1048576: NARROWER than '..Said'. Prove '..Said' where nothing that the law and all that it calls make is longer than what came in: it says more and counts as full. Else prove '..UptoSaid'. A law counts once. -/
mutual
def uptoBulk {H : Type} : DataW H → Nat
  | .lit (.string bytes) => bytes.length + 1
  | .lit _ => 1
  | .nil => 1
  | .ptr d => uptoBulk d + 1
  | .slice elems spare => uptoBulkAll elems + uptoBulkAll spare + 1
  | .agg parts => uptoBulkAll parts + 1
  | .iface _ d => uptoBulk d + 1
  | .map entries => uptoBulkEntries entries + 1
  | .held _ => 1
def uptoBulkAll {H : Type} : List (DataW H) → Nat
  | [] => 0
  | d :: r => uptoBulk d + uptoBulkAll r
def uptoBulkEntries {H : Type} : List (Lit × DataW H) → Nat
  | [] => 0
  | x :: r => uptoBulkEntry x + uptoBulkEntries r
def uptoBulkEntry {H : Type} : Lit × DataW H → Nat
  | (.string bytes, d) => bytes.length + uptoBulk d + 1
  | (_, d) => uptoBulk d + 1
 end
def uptoSmall : (H : Type) → List (DataW H) → Bool := fun _ ds => decide (uptoBulkAll ds ≤ 1048576)
def OpenSpec.upto (s : _root_.Go.ChangeSpec) : _root_.Go.OpenSpec := { _root_.Go.OpenSpec.ofChange s with cond := some uptoSmall }

/-- 'rivetlaw03.IsaAll', WHERE WHAT IT READS IS OF BULK AT MOST 1048576: true; the input reads as it did. -/
def isaAllUptoRow : OpenClaim := { program := "ytnilkljibdjjgaa", sum := "9c49ff81cff0705020cf76fe2d0853c25c0312bc514727d478046168af185d97", func := "rivet/rivetlaw03.IsaAll", spec := "isaAll", unfollowed := true, recurses := true, apart := false, narrowed := true }
def IsaAllUptoSaid : Prop := isaAllUptoRow.holds Try.pinned (OpenSpec.upto isaAllSpec)

/-- 'rivetlaw03.IsaBack', WHERE WHAT IT READS IS OF BULK AT MOST 1048576: true; the input reads as it did. -/
def isaBackUptoRow : OpenClaim := { program := "ytnilkljibdjjgaa", sum := "9c49ff81cff0705020cf76fe2d0853c25c0312bc514727d478046168af185d97", func := "rivet/rivetlaw03.IsaBack", spec := "isaBack", unfollowed := true, recurses := true, apart := false, narrowed := true }
def IsaBackUptoSaid : Prop := isaBackUptoRow.holds Try.pinned (OpenSpec.upto isaBackSpec)

/-- 'rivetlaw03.IsaWords', WHERE WHAT IT READS IS OF BULK AT MOST 1048576: true; the input reads as it did. -/
def isaWordsUptoRow : OpenClaim := { program := "ytnilkljibdjjgaa", sum := "9c49ff81cff0705020cf76fe2d0853c25c0312bc514727d478046168af185d97", func := "rivet/rivetlaw03.IsaWords", spec := "isaWords", unfollowed := true, recurses := true, apart := false, narrowed := true }
def IsaWordsUptoSaid : Prop := isaWordsUptoRow.holds Try.pinned (OpenSpec.upto isaWordsSpec)

/-- 'rivetlaw03.IsaBits', WHERE WHAT IT READS IS OF BULK AT MOST 1048576: true; the input reads as it did. -/
def isaBitsUptoRow : OpenClaim := { program := "ytnilkljibdjjgaa", sum := "9c49ff81cff0705020cf76fe2d0853c25c0312bc514727d478046168af185d97", func := "rivet/rivetlaw03.IsaBits", spec := "isaBits", unfollowed := true, recurses := true, apart := false, narrowed := true }
def IsaBitsUptoSaid : Prop := isaBitsUptoRow.holds Try.pinned (OpenSpec.upto isaBitsSpec)

/-- 'rivetlaw03.IsaSpoilt', WHERE WHAT IT READS IS OF BULK AT MOST 1048576: true; the input reads as it did. -/
def isaSpoiltUptoRow : OpenClaim := { program := "ytnilkljibdjjgaa", sum := "9c49ff81cff0705020cf76fe2d0853c25c0312bc514727d478046168af185d97", func := "rivet/rivetlaw03.IsaSpoilt", spec := "isaSpoilt", unfollowed := true, recurses := true, apart := false, narrowed := true }
def IsaSpoiltUptoSaid : Prop := isaSpoiltUptoRow.holds Try.pinned (OpenSpec.upto isaSpoiltSpec)

/-- 'rivetlaw03.IsaFields', WHERE WHAT IT READS IS OF BULK AT MOST 1048576: true; the input reads as it did. -/
def isaFieldsUptoRow : OpenClaim := { program := "ytnilkljibdjjgaa", sum := "9c49ff81cff0705020cf76fe2d0853c25c0312bc514727d478046168af185d97", func := "rivet/rivetlaw03.IsaFields", spec := "isaFields", unfollowed := true, recurses := true, apart := false, narrowed := true }
def IsaFieldsUptoSaid : Prop := isaFieldsUptoRow.holds Try.pinned (OpenSpec.upto isaFieldsSpec)

/-- 'rivetlaw03.IsaUnlike', WHERE WHAT IT READS IS OF BULK AT MOST 1048576: true; the input reads as it did. -/
def isaUnlikeUptoRow : OpenClaim := { program := "ytnilkljibdjjgaa", sum := "9c49ff81cff0705020cf76fe2d0853c25c0312bc514727d478046168af185d97", func := "rivet/rivetlaw03.IsaUnlike", spec := "isaUnlike", unfollowed := true, recurses := true, apart := false, narrowed := true }
def IsaUnlikeUptoSaid : Prop := isaUnlikeUptoRow.holds Try.pinned (OpenSpec.upto isaUnlikeSpec)

/-- 'rivetlaw03.IsaFree', WHERE WHAT IT READS IS OF BULK AT MOST 1048576: true; the input reads as it did. -/
def isaFreeUptoRow : OpenClaim := { program := "ytnilkljibdjjgaa", sum := "9c49ff81cff0705020cf76fe2d0853c25c0312bc514727d478046168af185d97", func := "rivet/rivetlaw03.IsaFree", spec := "isaFree", unfollowed := true, recurses := true, apart := false, narrowed := true }
def IsaFreeUptoSaid : Prop := isaFreeUptoRow.holds Try.pinned (OpenSpec.upto isaFreeSpec)

end Rows
end Go.Proofs.Ytnilkljibdjjgaa
