/-
  DERIVED: THE SHELF's CONTRACTS AT THIS DUMP, IN PLAIN WORDS (tools/lay-plain.mjs out of 'TryzShelf.lean', which tools/lay-shelf.mjs wrote): THE SAME DECLARATIONS UNDER THE SAME NAMES: 'import', 'namespace', 'open', 'def', 'theorem' AND NOTHING ELSE: no command of the shelf's: FOR A HAND-IN. Each laying: the table of numbers ('.._ren') and one theorem, a field a fact of the dump's own or the kernel's comparison; each contract: ONE APPLICATION.
-/
import Derived.Shelf.Strings.Builder1
import Derived.Shelf.Strings.Builder2
import Derived.Shelf.Strings.Trim
import Derived.Shelf.Small.Utf8
import Derived.Shelf.Small.Strs
import Derived.Shelf.Utf8.RuneCount
import Derived.Shelf.Strconv.Itoa0
import Derived.Shelf.Strconv.Itoa1
import Derived.Shelf.LaysM
import Derived.Shelf.Strconv.Itoa2
import Derived.Shelf.Strconv.Itoa3
import Derived.Shelf.Strings.Search1
import Derived.Shelf.Strings.Search2
import Derived.Shelf.Strings.Search3
import Derived.Shelf.Strings.Count
import Derived.Shelf.Strings.Shaped
import Derived.Shelf.Strings.Prefix
import Derived.Shelf.Strings.Split
import Derived.Shelf.Strings.Fields
import Derived.Shelf.Strings.Replace
import Derived.Shelf.Strings.SplitShaped
import Derived.Shelf.Unicode.Latin
import Derived.Shelf.Unicode.Decode
import Derived.Shelf.Strings.Runes
import Derived.Shelf.Strings.RuneCount
import Derived.Shelf.Strings.AsciiSet
import Derived.Shelf.Strings.Explode
import Derived.Shelf.Unicode.DecodeSlow
import Derived.Shelf.Unicode.DecodeAny
import Derived.Shelf.Unicode.Is16White
import Derived.Shelf.Unicode.IsSpaceAny
import Derived.Shelf.Unicode.DecodeLast
import Derived.Shelf.Unicode.Is16WhiteD
import Derived.Shelf.Unicode.Is16Any
import Derived.Shelf.Unicode.Is32Any
import Derived.Shelf.Unicode.ExclAny
import Derived.Shelf.Slices.Reverse
import Derived.Shelf.Slices.Cells
import Derived.Ground.SlgnProg
import Derived.Shelf.SlicesE.Clone
import Derived.Test.YtjmiaemabhlnjaaGreatDoorProg

namespace Go.Proofs
def Tryz.lays102_ren : Go.Shelf.Ren := ⟨fun | 102 => 210 | 209 => 235 | 207 => 247 | n => n, fun | 9 => 9 | 4 => 4 | 3 => 3 | n => n, fun | n => n⟩
theorem Tryz.lays102 : Go.Proofs.Lays.n102 Tryz.prog Tryz.lays102_ren := {
  mixed := by kernel_rfl
  f102 := Tryz.func210.trans (congrArg some (by kernel_rfl))
  f207 := Tryz.func247.trans (congrArg some (by kernel_rfl))
  f209 := Tryz.func235.trans (congrArg some (by kernel_rfl))
  t3 := Tryz.underlying3
  a3 := Tryz.isAgg3
  z3 := Tryz.sizeOf3
  v3 := Tryz.zeroValue3
  t4 := Tryz.underlying4
  a4 := Tryz.isAgg4
  z4 := Tryz.sizeOf4
  v4 := Tryz.zeroValue4
  t9 := Tryz.underlying9
  a9 := Tryz.isAgg9
  z9 := Tryz.sizeOf9
  v9 := Tryz.zeroValue9 }
open Go.RowKit Go.Lib in
/-- strings.TrimSuffix: "TrimSuffix returns s without the provided trailing suffix string. If s doesn't end with suffix, s is returned unchanged.": IT RETURNS 'Lib.trimSuffix s suffix'; the world is as it was. (LAID: no walk: one application.) -/
theorem Tryz.strings_TrimSuffix (s p : ByteArray) (w : World) (hs : s.size ≤ 9223372036854775807) :
    Calls Tryz.prog 210 #[.string s, .string p] w fun e w' => e = .returned (.string ⟨(Lib.trimSuffix s.data.toList p.data.toList).toArray⟩) ∧ w' = w := Any.strings_TrimSuffix Tryz.lays102 s p w hs
def Tryz.lays157_ren : Go.Shelf.Ren := ⟨fun | 157 => 209 | 229 => 233 | 199 => 234 | 261 => 246 | 311 => 259 | 312 => 260 | n => n, fun | 9 => 9 | 31 => 24 | 3 => 3 | 5 => 5 | 4 => 4 | 119 => 291 | 0 => 0 | 40 => 303 | 152 => 317 | 21 => 21 | 154 => 319 | 51 => 56 | 141 => 321 | 196 => 336 | 193 => 333 | 198 => 339 | 49 => 337 | 194 => 334 | 201 => 342 | 226 => 356 | 46 => 109 | 227 => 357 | n => n, fun | 0 => 3 | 6 => 6 | n => n⟩
theorem Tryz.lays157 : Go.Proofs.Lays.n157 Tryz.prog Tryz.lays157_ren := {
  mixed := by kernel_rfl
  f157 := Tryz.func209.trans (congrArg some (by kernel_rfl))
  f199 := Tryz.func234.trans (congrArg some (by kernel_rfl))
  f229 := Tryz.func233.trans (congrArg some (by kernel_rfl))
  f261 := Tryz.func246.trans (congrArg some (by kernel_rfl))
  f311 := Tryz.func259.trans (congrArg some (by kernel_rfl))
  f312 := Tryz.func260.trans (congrArg some (by kernel_rfl))
  t0 := Tryz.underlying0
  a0 := Tryz.isAgg0
  z0 := Tryz.sizeOf0
  v0 := Tryz.zeroValue0
  t3 := Tryz.underlying3
  a3 := Tryz.isAgg3
  z3 := Tryz.sizeOf3
  v3 := Tryz.zeroValue3
  t4 := Tryz.underlying4
  a4 := Tryz.isAgg4
  z4 := Tryz.sizeOf4
  v4 := Tryz.zeroValue4
  t5 := Tryz.underlying5
  a5 := Tryz.isAgg5
  z5 := Tryz.sizeOf5
  v5 := Tryz.zeroValue5
  t9 := Tryz.underlying9
  a9 := Tryz.isAgg9
  z9 := Tryz.sizeOf9
  v9 := Tryz.zeroValue9
  t21 := Tryz.underlying21
  a21 := Tryz.isAgg21
  z21 := Tryz.sizeOf21
  v21 := Tryz.zeroValue21
  t31 := Tryz.underlying24
  a31 := Tryz.isAgg24
  z31 := Tryz.sizeOf24
  v31 := Tryz.zeroValue24
  t40 := Tryz.underlying303
  a40 := Tryz.isAgg303
  z40 := Tryz.sizeOf303
  v40 := Tryz.zeroValue303
  t46 := Tryz.underlying109
  a46 := Tryz.isAgg109
  z46 := Tryz.sizeOf109
  v46 := Tryz.zeroValue109
  t49 := Tryz.underlying337
  a49 := Tryz.isAgg337
  z49 := Tryz.sizeOf337
  v49 := Tryz.zeroValue337
  t51 := Tryz.underlying56
  a51 := Tryz.isAgg56
  z51 := Tryz.sizeOf56
  v51 := Tryz.zeroValue56
  t119 := Tryz.underlying291
  a119 := Tryz.isAgg291
  z119 := Tryz.sizeOf291
  t141 := Tryz.underlying321
  a141 := Tryz.isAgg321
  z141 := Tryz.sizeOf321
  v141 := Tryz.zeroValue321
  t152 := Tryz.underlying317
  a152 := Tryz.isAgg317
  z152 := Tryz.sizeOf317
  v152 := Tryz.zeroValue317
  t154 := Tryz.underlying319
  a154 := Tryz.isAgg319
  z154 := Tryz.sizeOf319
  v154 := Tryz.zeroValue319
  t193 := Tryz.underlying333
  a193 := Tryz.isAgg333
  z193 := Tryz.sizeOf333
  v193 := Tryz.zeroValue333
  t194 := Tryz.underlying334
  a194 := Tryz.isAgg334
  z194 := Tryz.sizeOf334
  v194 := Tryz.zeroValue334
  t196 := Tryz.underlying336
  a196 := Tryz.isAgg336
  z196 := Tryz.sizeOf336
  v196 := Tryz.zeroValue336
  t198 := Tryz.underlying339
  a198 := Tryz.isAgg339
  z198 := Tryz.sizeOf339
  v198 := Tryz.zeroValue339
  t201 := Tryz.underlying342
  a201 := Tryz.isAgg342
  z201 := Tryz.sizeOf342
  v201 := Tryz.zeroValue342
  t226 := Tryz.underlying356
  a226 := Tryz.isAgg356
  z226 := Tryz.sizeOf356
  v226 := Tryz.zeroValue356
  t227 := Tryz.underlying357
  a227 := Tryz.isAgg357
  z227 := Tryz.sizeOf357
  v227 := Tryz.zeroValue357
  g0 := by kernel_rfl
  g6 := by kernel_rfl }
open Go.RowKit Go.Lib in
/-- strings.Fields, the table by 'Lib.TabIs' (as strings.TrimSpace's contract). 'hg': the table's number, by its name: at a dump 'by kernel_rfl'. (LAID: no walk: one application.) -/
theorem Tryz.strings_Fields (s : ByteArray) (w : World) (hs : s.size < 4294967281) (hascii : ∀ (j : Nat) b, s.data.toList[j]? = some b → b.toNat < 128) (htab : Lib.TabIs Tryz.prog w "strings.asciiSpace" .u8 Lib.asciiSpaceTab) :
    Calls Tryz.prog 209 #[.string s] w fun e w' =>
      e = .returned (.slice (some ⟨w.heap.size, 0, none⟩) (Lib.fields s.data.toList).length (Lib.fields s.data.toList).length) ∧ w' = w.alloc (.cells ((Lib.fields s.data.toList).map fun l => Value.string ⟨l.toArray⟩).toArray 9) := Any.strings_Fields Tryz.lays157 (by kernel_rfl) (by kernel_rfl) s w hs hascii htab
def Tryz.lays155_ren : Go.Shelf.Ren := ⟨fun | 155 => 232 | 154 => 245 | 138 => 124 | 165 => 256 | 143 => 125 | 166 => 257 | 197 => 168 | 169 => 258 | 195 => 167 | 218 => 169 | 240 => 270 | 241 => 271 | 219 => 170 | 260 => 200 | 276 => 277 | 277 => 278 | 217 => 174 | 225 => 201 | 224 => 202 | 267 => 203 | 266 => 207 | 314 => 224 | n => n, fun | 9 => 9 | 3 => 3 | 4 => 4 | 72 => 331 | 0 => 0 | 76 => 287 | 105 => 252 | 21 => 21 | 5 => 5 | 70 => 329 | 20 => 20 | 37 => 23 | 75 => 259 | 127 => 325 | 164 => 362 | 46 => 109 | 119 => 291 | 139 => 294 | 138 => 293 | 146 => 247 | 51 => 56 | 80 => 332 | n => n, fun | 1 => 0 | 3 => 1 | 4 => 2 | n => n⟩
theorem Tryz.lays155 : Go.Proofs.Lays.n155 Tryz.prog Tryz.lays155_ren := {
  mixed := by kernel_rfl
  f138 := Tryz.func124.trans (congrArg some (by kernel_rfl))
  f143 := Tryz.func125.trans (congrArg some (by kernel_rfl))
  f154 := Tryz.func245.trans (congrArg some (by kernel_rfl))
  f155 := Tryz.func232.trans (congrArg some (by kernel_rfl))
  f165 := Tryz.func256.trans (congrArg some (by kernel_rfl))
  f166 := Tryz.func257.trans (congrArg some (by kernel_rfl))
  f169 := Tryz.func258.trans (congrArg some (by kernel_rfl))
  f195 := Tryz.func167.trans (congrArg some (by kernel_rfl))
  f197 := Tryz.func168.trans (congrArg some (by kernel_rfl))
  f217 := Tryz.func174.trans (congrArg some (by kernel_rfl))
  f218 := Tryz.func169.trans (congrArg some (by kernel_rfl))
  f219 := Tryz.func170.trans (congrArg some (by kernel_rfl))
  f224 := Tryz.func202.trans (congrArg some (by kernel_rfl))
  f225 := Tryz.func201.trans (congrArg some (by kernel_rfl))
  f240 := Tryz.func270.trans (congrArg some (by kernel_rfl))
  f241 := Tryz.func271.trans (congrArg some (by kernel_rfl))
  f260 := Tryz.func200.trans (congrArg some (by kernel_rfl))
  f266 := Tryz.func207.trans (congrArg some (by kernel_rfl))
  f267 := Tryz.func203.trans (congrArg some (by kernel_rfl))
  f276 := Tryz.func277.trans (congrArg some (by kernel_rfl))
  f277 := Tryz.func278.trans (congrArg some (by kernel_rfl))
  f314 := Tryz.func224.trans (congrArg some (by kernel_rfl))
  t0 := Tryz.underlying0
  a0 := Tryz.isAgg0
  z0 := Tryz.sizeOf0
  v0 := Tryz.zeroValue0
  t3 := Tryz.underlying3
  a3 := Tryz.isAgg3
  z3 := Tryz.sizeOf3
  v3 := Tryz.zeroValue3
  t4 := Tryz.underlying4
  a4 := Tryz.isAgg4
  z4 := Tryz.sizeOf4
  v4 := Tryz.zeroValue4
  t5 := Tryz.underlying5
  a5 := Tryz.isAgg5
  z5 := Tryz.sizeOf5
  v5 := Tryz.zeroValue5
  t9 := Tryz.underlying9
  a9 := Tryz.isAgg9
  z9 := Tryz.sizeOf9
  v9 := Tryz.zeroValue9
  t20 := Tryz.underlying20
  a20 := Tryz.isAgg20
  z20 := Tryz.sizeOf20
  v20 := Tryz.zeroValue20
  t21 := Tryz.underlying21
  a21 := Tryz.isAgg21
  z21 := Tryz.sizeOf21
  v21 := Tryz.zeroValue21
  t37 := Tryz.underlying23
  a37 := Tryz.isAgg23
  z37 := Tryz.sizeOf23
  v37 := Tryz.zeroValue23
  t46 := Tryz.underlying109
  a46 := Tryz.isAgg109
  z46 := Tryz.sizeOf109
  v46 := Tryz.zeroValue109
  t51 := Tryz.underlying56
  a51 := Tryz.isAgg56
  z51 := Tryz.sizeOf56
  v51 := Tryz.zeroValue56
  t70 := Tryz.underlying329
  a70 := Tryz.isAgg329
  z70 := Tryz.sizeOf329
  v70 := Tryz.zeroValue329
  t72 := Tryz.underlying331
  a72 := Tryz.isAgg331
  z72 := Tryz.sizeOf331
  v72 := Tryz.zeroValue331
  t75 := Tryz.underlying259
  a75 := Tryz.isAgg259
  z75 := Tryz.sizeOf259
  v75 := Tryz.zeroValue259
  t76 := Tryz.underlying287
  a76 := Tryz.isAgg287
  z76 := Tryz.sizeOf287
  v76 := Tryz.zeroValue287
  t105 := Tryz.underlying252
  a105 := Tryz.isAgg252
  z105 := Tryz.sizeOf252
  v105 := Tryz.zeroValue252
  t119 := Tryz.underlying291
  a119 := Tryz.isAgg291
  z119 := Tryz.sizeOf291
  t127 := Tryz.underlying325
  a127 := Tryz.isAgg325
  z127 := Tryz.sizeOf325
  v127 := Tryz.zeroValue325
  t138 := Tryz.underlying293
  a138 := Tryz.isAgg293
  z138 := Tryz.sizeOf293
  v138 := Tryz.zeroValue293
  t139 := Tryz.underlying294
  a139 := Tryz.isAgg294
  z139 := Tryz.sizeOf294
  v139 := Tryz.zeroValue294
  t146 := Tryz.underlying247
  a146 := Tryz.isAgg247
  z146 := Tryz.sizeOf247
  v146 := Tryz.zeroValue247
  t164 := Tryz.underlying362
  a164 := Tryz.isAgg362
  z164 := Tryz.sizeOf362
  v164 := Tryz.zeroValue362
  g1 := by kernel_rfl
  g3 := by kernel_rfl
  g4 := by kernel_rfl }
theorem Tryz.Builder_Extra_155 : Builder.Extra Tryz.prog Tryz.lays155_ren := {
  sizeBuilder := by kernel_rfl
  liesBuilder := by kernel_rfl
  t5 := Tryz.underlying5
  a5 := Tryz.isAgg5
  z5 := Tryz.sizeOf5
  v5 := Tryz.zeroValue5
  infoByte := by kernel_rfl
  cellsByte := by kernel_rfl
  sizeByte := by kernel_rfl
  neB5 := by decide }
open Go.RowKit Go.Lib in
/-- strings.ReplaceAll: "ReplaceAll returns a copy of the string s with all non-overlapping instances of old replaced by new.": AT AN old THAT IS NOT EMPTY: 'Lib.replaceAll s old new'. (LAID: no walk: one application.) -/
theorem Tryz.strings_ReplaceAll (s old new : ByteArray) (m : Int) (w : World) (hs : s.size < 4294967281) (hm : w.cell? ⟨0, 0, none⟩ = some (.int .i64 m)) (h1 : 1 ≤ old.size) (hlen : s.size + Lib.countB s old * new.size ≤ 140737488355328) :
    Calls Tryz.prog 232 #[.string s, .string old, .string new] w fun e w' =>
      e = .returned (.string ⟨(Lib.replaceAll s.data.toList old.data.toList new.data.toList).toArray⟩) ∧ Below w.heap.size w w' := Any.strings_ReplaceAll Tryz.lays155 Tryz.Builder_Extra_155 s old new m w hs hm h1 hlen
def Tryz.laysM155_ren : Go.Shelf.Ren := ⟨fun | 155 => 232 | 154 => 245 | 138 => 124 | 165 => 256 | 143 => 125 | 166 => 257 | 197 => 168 | 169 => 258 | 195 => 167 | 218 => 169 | 240 => 270 | 241 => 271 | 219 => 170 | 260 => 200 | 276 => 277 | 277 => 278 | 217 => 174 | 225 => 201 | 224 => 202 | 267 => 203 | 266 => 207 | 314 => 224 | n => n, fun | 9 => 9 | 3 => 3 | 4 => 4 | 72 => 331 | 0 => 0 | 76 => 287 | 105 => 252 | 21 => 21 | 5 => 5 | 70 => 329 | 20 => 20 | 37 => 23 | 75 => 259 | 127 => 325 | 164 => 362 | 46 => 109 | 119 => 291 | 139 => 294 | 138 => 293 | 146 => 247 | 51 => 56 | 80 => 332 | n => n, fun | 1 => 0 | 3 => 1 | 4 => 2 | n => n⟩
theorem Tryz.laysM155 : Go.Proofs.LaysM.n155 Tryz.prog Tryz.laysM155_ren := {
  mixed := by kernel_rfl
  f138 := Tryz.func124.trans (congrArg some (by kernel_rfl))
  f143 := Tryz.func125.trans (congrArg some (by kernel_rfl))
  f154 := Tryz.func245.trans (congrArg some (by kernel_rfl))
  f155 := Tryz.func232.trans (congrArg some (by kernel_rfl))
  f165 := Tryz.func256.trans (congrArg some (by kernel_rfl))
  f166 := Tryz.func257.trans (congrArg some (by kernel_rfl))
  f169 := Tryz.func258.trans (congrArg some (by kernel_rfl))
  f195 := Tryz.func167.trans (congrArg some (by kernel_rfl))
  f197 := Tryz.func168.trans (congrArg some (by kernel_rfl))
  f217 := Tryz.func174.trans (congrArg some (by kernel_rfl))
  f218 := Tryz.func169.trans (congrArg some (by kernel_rfl))
  f219 := Tryz.func170.trans (congrArg some (by kernel_rfl))
  f224 := Tryz.func202.trans (congrArg some (by kernel_rfl))
  f225 := Tryz.func201.trans (congrArg some (by kernel_rfl))
  f240 := Tryz.func270.trans (congrArg some (by kernel_rfl))
  f241 := Tryz.func271.trans (congrArg some (by kernel_rfl))
  f260 := Tryz.func200.trans (congrArg some (by kernel_rfl))
  f266 := Tryz.func207.trans (congrArg some (by kernel_rfl))
  f267 := Tryz.func203.trans (congrArg some (by kernel_rfl))
  f276 := Tryz.func277.trans (congrArg some (by kernel_rfl))
  f277 := Tryz.func278.trans (congrArg some (by kernel_rfl))
  f314 := Tryz.func224.trans (congrArg some (by kernel_rfl))
  t0 := Tryz.underlying0
  a0 := Tryz.isAgg0
  z0 := Tryz.sizeOf0
  v0 := Tryz.zeroValue0
  t3 := Tryz.underlying3
  a3 := Tryz.isAgg3
  z3 := Tryz.sizeOf3
  v3 := Tryz.zeroValue3
  t4 := Tryz.underlying4
  a4 := Tryz.isAgg4
  z4 := Tryz.sizeOf4
  v4 := Tryz.zeroValue4
  t5 := Tryz.underlying5
  a5 := Tryz.isAgg5
  z5 := Tryz.sizeOf5
  v5 := Tryz.zeroValue5
  t9 := Tryz.underlying9
  a9 := Tryz.isAgg9
  z9 := Tryz.sizeOf9
  v9 := Tryz.zeroValue9
  t20 := Tryz.underlying20
  a20 := Tryz.isAgg20
  z20 := Tryz.sizeOf20
  v20 := Tryz.zeroValue20
  t21 := Tryz.underlying21
  a21 := Tryz.isAgg21
  z21 := Tryz.sizeOf21
  v21 := Tryz.zeroValue21
  t37 := Tryz.underlying23
  a37 := Tryz.isAgg23
  z37 := Tryz.sizeOf23
  v37 := Tryz.zeroValue23
  t46 := Tryz.underlying109
  a46 := Tryz.isAgg109
  z46 := Tryz.sizeOf109
  v46 := Tryz.zeroValue109
  t51 := Tryz.underlying56
  a51 := Tryz.isAgg56
  z51 := Tryz.sizeOf56
  v51 := Tryz.zeroValue56
  t70 := Tryz.underlying329
  a70 := Tryz.isAgg329
  z70 := Tryz.sizeOf329
  v70 := Tryz.zeroValue329
  t72 := Tryz.underlying331
  a72 := Tryz.isAgg331
  z72 := Tryz.sizeOf331
  v72 := Tryz.zeroValue331
  t75 := Tryz.underlying259
  a75 := Tryz.isAgg259
  z75 := Tryz.sizeOf259
  v75 := Tryz.zeroValue259
  t76 := Tryz.underlying287
  a76 := Tryz.isAgg287
  z76 := Tryz.sizeOf287
  v76 := Tryz.zeroValue287
  t105 := Tryz.underlying252
  a105 := Tryz.isAgg252
  z105 := Tryz.sizeOf252
  v105 := Tryz.zeroValue252
  t119 := Tryz.underlying291
  a119 := Tryz.isAgg291
  z119 := Tryz.sizeOf291
  t127 := Tryz.underlying325
  a127 := Tryz.isAgg325
  z127 := Tryz.sizeOf325
  v127 := Tryz.zeroValue325
  t138 := Tryz.underlying293
  a138 := Tryz.isAgg293
  z138 := Tryz.sizeOf293
  v138 := Tryz.zeroValue293
  t139 := Tryz.underlying294
  a139 := Tryz.isAgg294
  z139 := Tryz.sizeOf294
  v139 := Tryz.zeroValue294
  t146 := Tryz.underlying247
  a146 := Tryz.isAgg247
  z146 := Tryz.sizeOf247
  v146 := Tryz.zeroValue247
  t164 := Tryz.underlying362
  a164 := Tryz.isAgg362
  z164 := Tryz.sizeOf362
  v164 := Tryz.zeroValue362
  g1 := by kernel_rfl
  g3 := by kernel_rfl
  g4 := by kernel_rfl
  t80 := Tryz.underlying332
  a80 := Tryz.isAgg332
  z80 := Tryz.sizeOf332
  v80 := Tryz.zeroValue332
  i0 := by kernel_rfl
  i3 := by kernel_rfl
  i4 := by kernel_rfl
  i5 := by kernel_rfl
  i9 := by kernel_rfl
  i20 := by kernel_rfl
  i21 := by kernel_rfl
  i37 := by kernel_rfl
  i46 := by kernel_rfl
  i51 := by kernel_rfl
  i70 := by kernel_rfl
  i72 := by kernel_rfl
  i75 := by kernel_rfl
  i76 := by kernel_rfl
  i80 := by kernel_rfl
  i105 := by kernel_rfl
  i127 := by kernel_rfl
  i138 := by kernel_rfl
  i139 := by kernel_rfl
  i146 := by kernel_rfl
  i164 := by kernel_rfl
  m1 := by kernel_rfl
  s1_3 := fun w h => Go.Proofs.cell_of_shapedOpen_int (zero := #[.int .i64 0]) (t := 3) h (of_decide_eq_true (by kernel_rfl)) (by kernel_rfl) rfl (by kernel_rfl) (by kernel_rfl) Tryz.underlying3
  m3 := by kernel_rfl
  m4 := by kernel_rfl }
theorem Tryz.Builder_Extra_M155 : Builder.Extra Tryz.prog Tryz.laysM155_ren := {
  sizeBuilder := by kernel_rfl
  liesBuilder := by kernel_rfl
  t5 := Tryz.underlying5
  a5 := Tryz.isAgg5
  z5 := Tryz.sizeOf5
  v5 := Tryz.zeroValue5
  infoByte := by kernel_rfl
  cellsByte := by kernel_rfl
  sizeByte := by kernel_rfl
  neB5 := by decide }
open Go.RowKit Go.Lib in
/-- strings.ReplaceAll, old not empty. (LAID: no walk: one application.) -/
theorem Tryz.strings_ReplaceAll_shaped (s old new : ByteArray) (w : World) (h : w.ShapedOpen Tryz.prog) (hs : s.size < 4294967281) (h1 : 1 ≤ old.size) (hlen : s.size + Lib.countB s old * new.size ≤ 140737488355328) :
    Calls Tryz.prog 232 #[.string s, .string old, .string new] w fun e w' =>
      e = .returned (.string ⟨(Lib.replaceAll s.data.toList old.data.toList new.data.toList).toArray⟩) ∧ Below w.heap.size w w' := Any.strings_ReplaceAll_shaped Tryz.laysM155 Tryz.Builder_Extra_M155 s old new w h hs h1 hlen
end Go.Proofs

