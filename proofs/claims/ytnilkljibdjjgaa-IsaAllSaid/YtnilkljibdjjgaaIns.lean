/-
  Package isa: an instruction as plain numbers, what a word looks like, its word, and whether it may be. No program in sight.
-/
import Derived.Test.YtnilkljibdjjgaaWord
namespace Go.Proofs.Ytnilkljibdjjgaa.Isa
open Go.RowKit Go.Proofs.Ytnilkljibdjjgaa.FieldM Go.Proofs.Ytnilkljibdjjgaa.Field

structure Ins where
  (kd op a b c im : Int)
  (u : Bool)
deriving DecidableEq

/-- The instruction as the program holds it. -/
def Ins.v (i : Ins) : Value := .agg #[.int .i64 i.kd, .int .i64 i.op, .int .i64 i.a, .int .i64 i.b, .int .i64 i.c, .int .i64 i.im, .bool i.u]

/-- What a word looks like. -/
def readN (w : Nat) : Ins :=
  if w / 1073741824 % 4 = 0 then
    if w / 536870912 % 2 = 1 ∧ w / 65536 % 16 = 0 then ⟨3 + (w / 268435456 % 2 : Nat), 0, (w / 16777216 % 16 : Nat), 0, 0, 0, false⟩
    else ⟨1, (w / 65536 % 16 : Nat), (w / 16777216 % 16 : Nat), (w / 1048576 % 16 : Nat), (w % 16 : Nat), 0, decide (w / 536870912 % 2 = 1)⟩
  else if w / 1073741824 % 4 = 1 then ⟨2, (w / 65536 % 16 : Nat), (w / 16777216 % 16 : Nat), (w / 1048576 % 16 : Nat), 0, ((w % 65536 : Nat) : Int) - ((w / 268435456 % 2 : Nat) : Int) * 65536, decide (w / 536870912 % 2 = 1)⟩
  else if w / 1073741824 % 4 = 2 then ⟨5, 2 * (w / 536870912 % 2 : Nat) + (w / 268435456 % 2 : Nat), (w / 16777216 % 16 : Nat), (w / 1048576 % 16 : Nat), 0, signedN w 19, false⟩
  else if w / 536870912 % 2 = 1 then ⟨7, (w / 16777216 % 16 : Nat), 0, 0, 0, signedN w 23, decide (w / 268435456 % 2 = 1)⟩
  else ⟨6, (w / 16777216 % 16 : Nat), 0, 0, (w % 16 : Nat), 0, decide (w / 268435456 % 2 = 1)⟩

/-- The word of an instruction. -/
def wordN (i : Ins) : Nat := layN (wordL i.kd i.op i.a i.b i.c i.im i.u) 0
theorem wordN_lt (i : Ins) : wordN i < 4294967296 := layN_lt _ _ (by omega)

/-- Whether an instruction may be. -/
def mayN (i : Ins) : Bool :=
  decide (1 ≤ i.kd) && decide (i.kd ≤ 7) && (decide (0 ≤ i.op) && decide (i.op ≤ 15)) && decide (i = readN (wordN i)) &&
    (if i.kd = 1 ∨ i.kd = 2 then
      if i.op = 0 then i.b == 0 && (i.kd == 2 || !i.u) && (!i.u || decide (0 ≤ i.im))
      else if 11 < i.op then false
      else !i.u || (decide (8 ≤ i.op) && decide (i.op ≤ 10))
    else true)
end Go.Proofs.Ytnilkljibdjjgaa.Isa
