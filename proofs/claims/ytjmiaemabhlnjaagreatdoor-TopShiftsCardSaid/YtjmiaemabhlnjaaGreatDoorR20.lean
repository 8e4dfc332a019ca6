/- A part of the proof of TopShifts. -/
import Derived.Test.YtjmiaemabhlnjaaGreatDoorR15
import Derived.BigQuiet
import Derived.Deep.QuietTactic
import Derived.Test.YtjmiaemabhlnjaaGreatDoorR16
import Derived.Test.YtjmiaemabhlnjaaGreatDoorR17
import Derived.Test.YtjmiaemabhlnjaaGreatDoorR18
import Derived.Test.YtjmiaemabhlnjaaGreatDoorR19
import Derived.Deep.RegionHeld3
section
set_option linter.all false
set_option maxRecDepth 20000
namespace Go.Proofs.YtjmiaemabhlnjaaGreatDoor.Isa
open Go Go.RowKit Go.Proofs.YtjmiaemabhlnjaaGreatDoor.FieldM Go.Proofs.YtjmiaemabhlnjaaGreatDoor.Field
theorem below_dN (w:World) (n:Nat):Below w.heap.size w (w.drewN n):=by
 induction n with
 | zero=>exact Below.refl _ _
 | succ n ih=>rw [←World.drew_drewN];exact ih.drew
set_option maxRecDepth 100000 in
set_option maxHeartbeats 4000000 in
theorem renc_1 (op a b c im p:Int) (u:Bool) (W:World) (_o0:0≤op) (_o1:op≤15) (_a0:0≤a) (_a1:a≤15) (_b0:0≤b) (_b1:b≤15) (_c0:0≤c) (_c1:c≤15) (_p0:0≤p) (_p1:p≤1)
 (MY:Field.Aside (∀wx,Calls Tryz.prog 78 #[.agg #[.int .i64 1,.int .i64 op,.int .i64 a,.int .i64 b,.int .i64 c,.int .i64 im,.bool u]] wx fun e w'=>e=.returned (.bool true)∧Bl wx w'))
 (O1:Field.Aside (∀wx,Calls Tryz.prog 76 #[.bool u] wx fun e w'=>e=.returned (.int .u32 p)∧w'=wx)) :
 Calls Tryz.prog 47 #[.agg #[.int .i64 1,.int .i64 op,.int .i64 a,.int .i64 b,.int .i64 c,.int .i64 im,.bool u]] W fun e w'=>e=.returned (.tuple #[.int .u32 (bits .or .u32 (bits .or .u32 (bits .or .u32 (bits .or .u32 (p*536870912) (a*16777216)) (b*1048576)) (op*65536)) c),.int .i64 0])∧Bl W w':=by
 obtain ⟨W1,hW1⟩:∃W1,W1=W.alloc (.cells #[.int .i64 1,.int .i64 op,.int .i64 a,.int .i64 b,.int .i64 c,.int .i64 im,.bool u] 72):=⟨_,rfl⟩;have HWB:Field.Aside (Bl W W1):=⟨by rw [hW1];exact (Bl.refl _).alloc _⟩;have RZ:Field.Aside (IBox W.heap.size 1 op a b c im u W1):=⟨by rw [hW1];exact IBox.new W 1 op a b c im u _⟩;have HW:=Field.Aside.mk hW1;clear hW1;go_enter Tryz.func47,Tryz.ntmps47
 go_wp2_with fail
 rw [←HW.out];refine (MY.out _).mono ?_;rintro e w1 ⟨rfl,k1⟩;obtain ⟨i0,i1,i2,i3,i4,i5,i6,fz⟩:=RZ.out.keep k1;have K1:=Field.Aside.mk (HWB.out.then k1.out);clear k1 fz
 go_wp2_with fail
 refine (O1.out _).mono ?_;rintro e w2 ⟨rfl,rfl⟩
 go_wp2_with fail
 go_ret2;exact ⟨rfl,K1.out⟩
set_option maxRecDepth 100000 in
set_option maxHeartbeats 4000000 in
theorem renc_3 (op a b c im p:Int) (u:Bool) (W:World) (_o0:0≤op) (_o1:op≤15) (_a0:0≤a) (_a1:a≤15) (_b0:0≤b) (_b1:b≤15) (_c0:0≤c) (_c1:c≤15) (_p0:0≤p) (_p1:p≤1)
 (MY:Field.Aside (∀wx,Calls Tryz.prog 78 #[.agg #[.int .i64 3,.int .i64 op,.int .i64 a,.int .i64 b,.int .i64 c,.int .i64 im,.bool u]] wx fun e w'=>e=.returned (.bool true)∧Bl wx w'))
 (O1:Field.Aside (∀wx,Calls Tryz.prog 76 #[.bool u] wx fun e w'=>e=.returned (.int .u32 p)∧w'=wx)) :
 Calls Tryz.prog 47 #[.agg #[.int .i64 3,.int .i64 op,.int .i64 a,.int .i64 b,.int .i64 c,.int .i64 im,.bool u]] W fun e w'=>e=.returned (.tuple #[.int .u32 (bits .or .u32 536870912 (a*16777216)),.int .i64 0])∧Bl W w':=by
 obtain ⟨W1,hW1⟩:∃W1,W1=W.alloc (.cells #[.int .i64 3,.int .i64 op,.int .i64 a,.int .i64 b,.int .i64 c,.int .i64 im,.bool u] 72):=⟨_,rfl⟩;have HWB:Field.Aside (Bl W W1):=⟨by rw [hW1];exact (Bl.refl _).alloc _⟩;have RZ:Field.Aside (IBox W.heap.size 3 op a b c im u W1):=⟨by rw [hW1];exact IBox.new W 3 op a b c im u _⟩;have HW:=Field.Aside.mk hW1;clear hW1;go_enter Tryz.func47,Tryz.ntmps47
 go_wp2_with fail
 rw [←HW.out];refine (MY.out _).mono ?_;rintro e w1 ⟨rfl,k1⟩;obtain ⟨i0,i1,i2,i3,i4,i5,i6,fz⟩:=RZ.out.keep k1;have K1:=Field.Aside.mk (HWB.out.then k1.out);clear k1 fz
 go_wp2_with fail
 refine (O1.out _).mono ?_;rintro e w2 ⟨rfl,rfl⟩
 go_wp2_with fail
 go_ret2;exact ⟨rfl,K1.out⟩
set_option maxRecDepth 100000 in
set_option maxHeartbeats 4000000 in
theorem renc_4 (op a b c im p:Int) (u:Bool) (W:World) (_o0:0≤op) (_o1:op≤15) (_a0:0≤a) (_a1:a≤15) (_b0:0≤b) (_b1:b≤15) (_c0:0≤c) (_c1:c≤15) (_p0:0≤p) (_p1:p≤1)
 (MY:Field.Aside (∀wx,Calls Tryz.prog 78 #[.agg #[.int .i64 4,.int .i64 op,.int .i64 a,.int .i64 b,.int .i64 c,.int .i64 im,.bool u]] wx fun e w'=>e=.returned (.bool true)∧Bl wx w'))
 (O1:Field.Aside (∀wx,Calls Tryz.prog 76 #[.bool u] wx fun e w'=>e=.returned (.int .u32 p)∧w'=wx)) :
 Calls Tryz.prog 47 #[.agg #[.int .i64 4,.int .i64 op,.int .i64 a,.int .i64 b,.int .i64 c,.int .i64 im,.bool u]] W fun e w'=>e=.returned (.tuple #[.int .u32 (bits .or .u32 805306368 (a*16777216)),.int .i64 0])∧Bl W w':=by
 obtain ⟨W1,hW1⟩:∃W1,W1=W.alloc (.cells #[.int .i64 4,.int .i64 op,.int .i64 a,.int .i64 b,.int .i64 c,.int .i64 im,.bool u] 72):=⟨_,rfl⟩;have HWB:Field.Aside (Bl W W1):=⟨by rw [hW1];exact (Bl.refl _).alloc _⟩;have RZ:Field.Aside (IBox W.heap.size 4 op a b c im u W1):=⟨by rw [hW1];exact IBox.new W 4 op a b c im u _⟩;have HW:=Field.Aside.mk hW1;clear hW1;go_enter Tryz.func47,Tryz.ntmps47
 go_wp2_with fail
 rw [←HW.out];refine (MY.out _).mono ?_;rintro e w1 ⟨rfl,k1⟩;obtain ⟨i0,i1,i2,i3,i4,i5,i6,fz⟩:=RZ.out.keep k1;have K1:=Field.Aside.mk (HWB.out.then k1.out);clear k1 fz
 go_wp2_with fail
 refine (O1.out _).mono ?_;rintro e w2 ⟨rfl,rfl⟩
 go_wp2_with fail
 go_ret2;exact ⟨rfl,K1.out⟩
set_option maxRecDepth 100000 in
set_option maxHeartbeats 4000000 in
theorem renc_6 (op a b c im p:Int) (u:Bool) (W:World) (_o0:0≤op) (_o1:op≤15) (_a0:0≤a) (_a1:a≤15) (_b0:0≤b) (_b1:b≤15) (_c0:0≤c) (_c1:c≤15) (_p0:0≤p) (_p1:p≤1)
 (MY:Field.Aside (∀wx,Calls Tryz.prog 78 #[.agg #[.int .i64 6,.int .i64 op,.int .i64 a,.int .i64 b,.int .i64 c,.int .i64 im,.bool u]] wx fun e w'=>e=.returned (.bool true)∧Bl wx w'))
 (O1:Field.Aside (∀wx,Calls Tryz.prog 76 #[.bool u] wx fun e w'=>e=.returned (.int .u32 p)∧w'=wx)) :
 Calls Tryz.prog 47 #[.agg #[.int .i64 6,.int .i64 op,.int .i64 a,.int .i64 b,.int .i64 c,.int .i64 im,.bool u]] W fun e w'=>e=.returned (.tuple #[.int .u32 (bits .or .u32 (bits .or .u32 (bits .or .u32 3221225472 (p*268435456)) (op*16777216)) c),.int .i64 0])∧Bl W w':=by
 obtain ⟨W1,hW1⟩:∃W1,W1=W.alloc (.cells #[.int .i64 6,.int .i64 op,.int .i64 a,.int .i64 b,.int .i64 c,.int .i64 im,.bool u] 72):=⟨_,rfl⟩;have HWB:Field.Aside (Bl W W1):=⟨by rw [hW1];exact (Bl.refl _).alloc _⟩;have RZ:Field.Aside (IBox W.heap.size 6 op a b c im u W1):=⟨by rw [hW1];exact IBox.new W 6 op a b c im u _⟩;have HW:=Field.Aside.mk hW1;clear hW1;go_enter Tryz.func47,Tryz.ntmps47
 go_wp2_with fail
 rw [←HW.out];refine (MY.out _).mono ?_;rintro e w1 ⟨rfl,k1⟩;obtain ⟨i0,i1,i2,i3,i4,i5,i6,fz⟩:=RZ.out.keep k1;have K1:=Field.Aside.mk (HWB.out.then k1.out);clear k1 fz
 go_wp2_with fail
 refine (O1.out _).mono ?_;rintro e w2 ⟨rfl,rfl⟩
 go_wp2_with fail
 go_ret2;exact ⟨rfl,K1.out⟩
set_option maxRecDepth 100000 in
set_option maxHeartbeats 4000000 in
theorem renc_7 (op a b c im p:Int) (u:Bool) (W:World) (_o0:0≤op) (_o1:op≤15) (_a0:0≤a) (_a1:a≤15) (_b0:0≤b) (_b1:b≤15) (_c0:0≤c) (_c1:c≤15) (_p0:0≤p) (_p1:p≤1)
 (MY:Field.Aside (∀wx,Calls Tryz.prog 78 #[.agg #[.int .i64 7,.int .i64 op,.int .i64 a,.int .i64 b,.int .i64 c,.int .i64 im,.bool u]] wx fun e w'=>e=.returned (.bool true)∧Bl wx w'))
 (O1:Field.Aside (∀wx,Calls Tryz.prog 76 #[.bool u] wx fun e w'=>e=.returned (.int .u32 p)∧w'=wx)) :
 Calls Tryz.prog 47 #[.agg #[.int .i64 7,.int .i64 op,.int .i64 a,.int .i64 b,.int .i64 c,.int .i64 im,.bool u]] W fun e w'=>e=.returned (.tuple #[.int .u32 (bits .or .u32 (bits .or .u32 (bits .or .u32 3758096384 (p*268435456)) (op*16777216)) (im%16777216)),.int .i64 0])∧Bl W w':=by
 obtain ⟨W1,hW1⟩:∃W1,W1=W.alloc (.cells #[.int .i64 7,.int .i64 op,.int .i64 a,.int .i64 b,.int .i64 c,.int .i64 im,.bool u] 72):=⟨_,rfl⟩;have HWB:Field.Aside (Bl W W1):=⟨by rw [hW1];exact (Bl.refl _).alloc _⟩;have RZ:Field.Aside (IBox W.heap.size 7 op a b c im u W1):=⟨by rw [hW1];exact IBox.new W 7 op a b c im u _⟩;have HW:=Field.Aside.mk hW1;clear hW1;go_enter Tryz.func47,Tryz.ntmps47
 go_wp2_with fail
 rw [←HW.out];refine (MY.out _).mono ?_;rintro e w1 ⟨rfl,k1⟩;obtain ⟨i0,i1,i2,i3,i4,i5,i6,fz⟩:=RZ.out.keep k1;have K1:=Field.Aside.mk (HWB.out.then k1.out);clear k1 fz
 go_wp2_with fail
 refine (O1.out _).mono ?_;rintro e w2 ⟨rfl,rfl⟩
 go_wp2_with fail
 go_ret2;exact ⟨rfl,K1.out⟩
set_option maxRecDepth 100000 in
set_option maxHeartbeats 4000000 in
theorem renc_2a (op a b c im p:Int) (u:Bool) (W:World) (_o0:0≤op) (_o1:op≤15) (_a0:0≤a) (_a1:a≤15) (_b0:0≤b) (_b1:b≤15) (_c0:0≤c) (_c1:c≤15) (_p0:0≤p) (_p1:p≤1) (_m:decide (im<0)=true)
 (OT:Field.Aside (∀wx,Calls Tryz.prog 76 #[.bool true] wx fun e w'=>e=.returned (.int .u32 1)∧w'=wx))
 (OF:Field.Aside (∀wx,Calls Tryz.prog 76 #[.bool false] wx fun e w'=>e=.returned (.int .u32 0)∧w'=wx))
 (MY:Field.Aside (∀wx,Calls Tryz.prog 78 #[.agg #[.int .i64 2,.int .i64 op,.int .i64 a,.int .i64 b,.int .i64 c,.int .i64 im,.bool u]] wx fun e w'=>e=.returned (.bool true)∧Bl wx w'))
 (O1:Field.Aside (∀wx,Calls Tryz.prog 76 #[.bool u] wx fun e w'=>e=.returned (.int .u32 p)∧w'=wx)) :
 Calls Tryz.prog 47 #[.agg #[.int .i64 2,.int .i64 op,.int .i64 a,.int .i64 b,.int .i64 c,.int .i64 im,.bool u]] W fun e w'=>e=.returned (.tuple #[.int .u32 (bits .or .u32 (bits .or .u32 (bits .or .u32 (bits .or .u32 (bits .or .u32 (bits .or .u32 1073741824 (p*536870912)) 268435456) (a*16777216)) (b*1048576)) (op*65536)) (im%65536)),.int .i64 0])∧Bl W w':=by
 obtain ⟨W1,hW1⟩:∃W1,W1=W.alloc (.cells #[.int .i64 2,.int .i64 op,.int .i64 a,.int .i64 b,.int .i64 c,.int .i64 im,.bool u] 72):=⟨_,rfl⟩;have HWB:Field.Aside (Bl W W1):=⟨by rw [hW1];exact (Bl.refl _).alloc _⟩;have RZ:Field.Aside (IBox W.heap.size 2 op a b c im u W1):=⟨by rw [hW1];exact IBox.new W 2 op a b c im u _⟩;have HW:=Field.Aside.mk hW1;clear hW1;go_enter Tryz.func47,Tryz.ntmps47
 go_wp2_with fail
 rw [←HW.out];refine (MY.out _).mono ?_;rintro e w1 ⟨rfl,k1⟩;obtain ⟨i0,i1,i2,i3,i4,i5,i6,fz⟩:=RZ.out.keep k1;have K1:=Field.Aside.mk (HWB.out.then k1.out);clear k1 fz
 go_wp2_with fail
 refine (O1.out _).mono ?_;rintro e w2 ⟨rfl,rfl⟩
 go_wp2_with fail
 have t1:Int.tmod (im%4294967296) 65536=im%65536:=by rw [Int.tmod_eq_emod_of_nonneg (by omega)];omega
 have t2:im%4294967296%65536=im%65536:=by omega
 go_quiet ((first | (go_at_call 76;exact Calls.quiet_of_same (OT.out _)) | (go_at_call 76;exact Calls.quiet_of_same (OF.out _))))
 go_wp2;go_ret2;exact ⟨rfl,K1.out.then (below_dN _ _)⟩
set_option maxRecDepth 100000 in
set_option maxHeartbeats 4000000 in
theorem renc_2b (op a b c im p:Int) (u:Bool) (W:World) (_o0:0≤op) (_o1:op≤15) (_a0:0≤a) (_a1:a≤15) (_b0:0≤b) (_b1:b≤15) (_c0:0≤c) (_c1:c≤15) (_p0:0≤p) (_p1:p≤1) (_m:decide (im<0)=false)
 (OT:Field.Aside (∀wx,Calls Tryz.prog 76 #[.bool true] wx fun e w'=>e=.returned (.int .u32 1)∧w'=wx))
 (OF:Field.Aside (∀wx,Calls Tryz.prog 76 #[.bool false] wx fun e w'=>e=.returned (.int .u32 0)∧w'=wx))
 (MY:Field.Aside (∀wx,Calls Tryz.prog 78 #[.agg #[.int .i64 2,.int .i64 op,.int .i64 a,.int .i64 b,.int .i64 c,.int .i64 im,.bool u]] wx fun e w'=>e=.returned (.bool true)∧Bl wx w'))
 (O1:Field.Aside (∀wx,Calls Tryz.prog 76 #[.bool u] wx fun e w'=>e=.returned (.int .u32 p)∧w'=wx)) :
 Calls Tryz.prog 47 #[.agg #[.int .i64 2,.int .i64 op,.int .i64 a,.int .i64 b,.int .i64 c,.int .i64 im,.bool u]] W fun e w'=>e=.returned (.tuple #[.int .u32 (bits .or .u32 (bits .or .u32 (bits .or .u32 (bits .or .u32 (bits .or .u32 (bits .or .u32 1073741824 (p*536870912)) 0) (a*16777216)) (b*1048576)) (op*65536)) (im%65536)),.int .i64 0])∧Bl W w':=by
 obtain ⟨W1,hW1⟩:∃W1,W1=W.alloc (.cells #[.int .i64 2,.int .i64 op,.int .i64 a,.int .i64 b,.int .i64 c,.int .i64 im,.bool u] 72):=⟨_,rfl⟩;have HWB:Field.Aside (Bl W W1):=⟨by rw [hW1];exact (Bl.refl _).alloc _⟩;have RZ:Field.Aside (IBox W.heap.size 2 op a b c im u W1):=⟨by rw [hW1];exact IBox.new W 2 op a b c im u _⟩;have HW:=Field.Aside.mk hW1;clear hW1;go_enter Tryz.func47,Tryz.ntmps47
 go_wp2_with fail
 rw [←HW.out];refine (MY.out _).mono ?_;rintro e w1 ⟨rfl,k1⟩;obtain ⟨i0,i1,i2,i3,i4,i5,i6,fz⟩:=RZ.out.keep k1;have K1:=Field.Aside.mk (HWB.out.then k1.out);clear k1 fz
 go_wp2_with fail
 refine (O1.out _).mono ?_;rintro e w2 ⟨rfl,rfl⟩
 go_wp2_with fail
 have t1:Int.tmod (im%4294967296) 65536=im%65536:=by rw [Int.tmod_eq_emod_of_nonneg (by omega)];omega
 have t2:im%4294967296%65536=im%65536:=by omega
 go_quiet ((first | (go_at_call 76;exact Calls.quiet_of_same (OT.out _)) | (go_at_call 76;exact Calls.quiet_of_same (OF.out _))))
 go_wp2;go_ret2;exact ⟨rfl,K1.out.then (below_dN _ _)⟩
set_option maxRecDepth 100000 in
set_option maxHeartbeats 4000000 in
theorem renc_5a (a b c im p:Int) (u:Bool) (W:World) (_a0:0≤a) (_a1:a≤15) (_b0:0≤b) (_b1:b≤15) (_c0:0≤c) (_c1:c≤15) (_p0:0≤p) (_p1:p≤1)
 (OT:Field.Aside (∀wx,Calls Tryz.prog 76 #[.bool true] wx fun e w'=>e=.returned (.int .u32 1)∧w'=wx))
 (OF:Field.Aside (∀wx,Calls Tryz.prog 76 #[.bool false] wx fun e w'=>e=.returned (.int .u32 0)∧w'=wx))
 (MY:Field.Aside (∀wx,Calls Tryz.prog 78 #[.agg #[.int .i64 5,.int .i64 0,.int .i64 a,.int .i64 b,.int .i64 c,.int .i64 im,.bool u]] wx fun e w'=>e=.returned (.bool true)∧Bl wx w'))
 (O1:Field.Aside (∀wx,Calls Tryz.prog 76 #[.bool u] wx fun e w'=>e=.returned (.int .u32 p)∧w'=wx)) :
 Calls Tryz.prog 47 #[.agg #[.int .i64 5,.int .i64 0,.int .i64 a,.int .i64 b,.int .i64 c,.int .i64 im,.bool u]] W fun e w'=>e=.returned (.tuple #[.int .u32 (bits .or .u32 (bits .or .u32 (bits .or .u32 (bits .or .u32 (bits .or .u32 2147483648 0) 0) (a*16777216)) (b*1048576)) (im%1048576)),.int .i64 0])∧Bl W w':=by
 obtain ⟨W1,hW1⟩:∃W1,W1=W.alloc (.cells #[.int .i64 5,.int .i64 0,.int .i64 a,.int .i64 b,.int .i64 c,.int .i64 im,.bool u] 72):=⟨_,rfl⟩;have HWB:Field.Aside (Bl W W1):=⟨by rw [hW1];exact (Bl.refl _).alloc _⟩;have RZ:Field.Aside (IBox W.heap.size 5 0 a b c im u W1):=⟨by rw [hW1];exact IBox.new W 5 0 a b c im u _⟩;have HW:=Field.Aside.mk hW1;clear hW1;go_enter Tryz.func47,Tryz.ntmps47
 go_wp2_with fail
 rw [←HW.out];refine (MY.out _).mono ?_;rintro e w1 ⟨rfl,k1⟩;obtain ⟨i0,i1,i2,i3,i4,i5,i6,fz⟩:=RZ.out.keep k1;have K1:=Field.Aside.mk (HWB.out.then k1.out);clear k1 fz
 go_wp2_with fail
 refine (O1.out _).mono ?_;rintro e w2 ⟨rfl,rfl⟩
 go_wp2_with fail
 have t1:Int.tmod (im%4294967296) 1048576=im%1048576:=by rw [Int.tmod_eq_emod_of_nonneg (by omega)];omega
 have t2:im%4294967296%1048576=im%1048576:=by omega
 go_quiet ((first | (go_at_call 76;exact Calls.quiet_of_same (OT.out _)) | (go_at_call 76;exact Calls.quiet_of_same (OF.out _))))
 go_wp2;go_ret2;exact ⟨rfl,K1.out.then (below_dN _ _)⟩
set_option maxRecDepth 100000 in
set_option maxHeartbeats 4000000 in
theorem renc_5b (a b c im p:Int) (u:Bool) (W:World) (_a0:0≤a) (_a1:a≤15) (_b0:0≤b) (_b1:b≤15) (_c0:0≤c) (_c1:c≤15) (_p0:0≤p) (_p1:p≤1)
 (OT:Field.Aside (∀wx,Calls Tryz.prog 76 #[.bool true] wx fun e w'=>e=.returned (.int .u32 1)∧w'=wx))
 (OF:Field.Aside (∀wx,Calls Tryz.prog 76 #[.bool false] wx fun e w'=>e=.returned (.int .u32 0)∧w'=wx))
 (MY:Field.Aside (∀wx,Calls Tryz.prog 78 #[.agg #[.int .i64 5,.int .i64 1,.int .i64 a,.int .i64 b,.int .i64 c,.int .i64 im,.bool u]] wx fun e w'=>e=.returned (.bool true)∧Bl wx w'))
 (O1:Field.Aside (∀wx,Calls Tryz.prog 76 #[.bool u] wx fun e w'=>e=.returned (.int .u32 p)∧w'=wx)) :
 Calls Tryz.prog 47 #[.agg #[.int .i64 5,.int .i64 1,.int .i64 a,.int .i64 b,.int .i64 c,.int .i64 im,.bool u]] W fun e w'=>e=.returned (.tuple #[.int .u32 (bits .or .u32 (bits .or .u32 (bits .or .u32 (bits .or .u32 (bits .or .u32 2147483648 0) 268435456) (a*16777216)) (b*1048576)) (im%1048576)),.int .i64 0])∧Bl W w':=by
 obtain ⟨W1,hW1⟩:∃W1,W1=W.alloc (.cells #[.int .i64 5,.int .i64 1,.int .i64 a,.int .i64 b,.int .i64 c,.int .i64 im,.bool u] 72):=⟨_,rfl⟩;have HWB:Field.Aside (Bl W W1):=⟨by rw [hW1];exact (Bl.refl _).alloc _⟩;have RZ:Field.Aside (IBox W.heap.size 5 1 a b c im u W1):=⟨by rw [hW1];exact IBox.new W 5 1 a b c im u _⟩;have HW:=Field.Aside.mk hW1;clear hW1;go_enter Tryz.func47,Tryz.ntmps47
 go_wp2_with fail
 rw [←HW.out];refine (MY.out _).mono ?_;rintro e w1 ⟨rfl,k1⟩;obtain ⟨i0,i1,i2,i3,i4,i5,i6,fz⟩:=RZ.out.keep k1;have K1:=Field.Aside.mk (HWB.out.then k1.out);clear k1 fz
 go_wp2_with fail
 refine (O1.out _).mono ?_;rintro e w2 ⟨rfl,rfl⟩
 go_wp2_with fail
 have t1:Int.tmod (im%4294967296) 1048576=im%1048576:=by rw [Int.tmod_eq_emod_of_nonneg (by omega)];omega
 have t2:im%4294967296%1048576=im%1048576:=by omega
 go_quiet ((first | (go_at_call 76;exact Calls.quiet_of_same (OT.out _)) | (go_at_call 76;exact Calls.quiet_of_same (OF.out _))))
 go_wp2;go_ret2;exact ⟨rfl,K1.out.then (below_dN _ _)⟩
set_option maxRecDepth 100000 in
set_option maxHeartbeats 4000000 in
theorem renc_5c (a b c im p:Int) (u:Bool) (W:World) (_a0:0≤a) (_a1:a≤15) (_b0:0≤b) (_b1:b≤15) (_c0:0≤c) (_c1:c≤15) (_p0:0≤p) (_p1:p≤1)
 (OT:Field.Aside (∀wx,Calls Tryz.prog 76 #[.bool true] wx fun e w'=>e=.returned (.int .u32 1)∧w'=wx))
 (OF:Field.Aside (∀wx,Calls Tryz.prog 76 #[.bool false] wx fun e w'=>e=.returned (.int .u32 0)∧w'=wx))
 (MY:Field.Aside (∀wx,Calls Tryz.prog 78 #[.agg #[.int .i64 5,.int .i64 2,.int .i64 a,.int .i64 b,.int .i64 c,.int .i64 im,.bool u]] wx fun e w'=>e=.returned (.bool true)∧Bl wx w'))
 (O1:Field.Aside (∀wx,Calls Tryz.prog 76 #[.bool u] wx fun e w'=>e=.returned (.int .u32 p)∧w'=wx)) :
 Calls Tryz.prog 47 #[.agg #[.int .i64 5,.int .i64 2,.int .i64 a,.int .i64 b,.int .i64 c,.int .i64 im,.bool u]] W fun e w'=>e=.returned (.tuple #[.int .u32 (bits .or .u32 (bits .or .u32 (bits .or .u32 (bits .or .u32 (bits .or .u32 2147483648 536870912) 0) (a*16777216)) (b*1048576)) (im%1048576)),.int .i64 0])∧Bl W w':=by
 obtain ⟨W1,hW1⟩:∃W1,W1=W.alloc (.cells #[.int .i64 5,.int .i64 2,.int .i64 a,.int .i64 b,.int .i64 c,.int .i64 im,.bool u] 72):=⟨_,rfl⟩;have HWB:Field.Aside (Bl W W1):=⟨by rw [hW1];exact (Bl.refl _).alloc _⟩;have RZ:Field.Aside (IBox W.heap.size 5 2 a b c im u W1):=⟨by rw [hW1];exact IBox.new W 5 2 a b c im u _⟩;have HW:=Field.Aside.mk hW1;clear hW1;go_enter Tryz.func47,Tryz.ntmps47
 go_wp2_with fail
 rw [←HW.out];refine (MY.out _).mono ?_;rintro e w1 ⟨rfl,k1⟩;obtain ⟨i0,i1,i2,i3,i4,i5,i6,fz⟩:=RZ.out.keep k1;have K1:=Field.Aside.mk (HWB.out.then k1.out);clear k1 fz
 go_wp2_with fail
 refine (O1.out _).mono ?_;rintro e w2 ⟨rfl,rfl⟩
 go_wp2_with fail
 have t1:Int.tmod (im%4294967296) 1048576=im%1048576:=by rw [Int.tmod_eq_emod_of_nonneg (by omega)];omega
 have t2:im%4294967296%1048576=im%1048576:=by omega
 go_quiet ((first | (go_at_call 76;exact Calls.quiet_of_same (OT.out _)) | (go_at_call 76;exact Calls.quiet_of_same (OF.out _))))
 go_wp2;go_ret2;exact ⟨rfl,K1.out.then (below_dN _ _)⟩
set_option maxRecDepth 100000 in
set_option maxHeartbeats 4000000 in
theorem renc_5d (a b c im p:Int) (u:Bool) (W:World) (_a0:0≤a) (_a1:a≤15) (_b0:0≤b) (_b1:b≤15) (_c0:0≤c) (_c1:c≤15) (_p0:0≤p) (_p1:p≤1)
 (OT:Field.Aside (∀wx,Calls Tryz.prog 76 #[.bool true] wx fun e w'=>e=.returned (.int .u32 1)∧w'=wx))
 (OF:Field.Aside (∀wx,Calls Tryz.prog 76 #[.bool false] wx fun e w'=>e=.returned (.int .u32 0)∧w'=wx))
 (MY:Field.Aside (∀wx,Calls Tryz.prog 78 #[.agg #[.int .i64 5,.int .i64 3,.int .i64 a,.int .i64 b,.int .i64 c,.int .i64 im,.bool u]] wx fun e w'=>e=.returned (.bool true)∧Bl wx w'))
 (O1:Field.Aside (∀wx,Calls Tryz.prog 76 #[.bool u] wx fun e w'=>e=.returned (.int .u32 p)∧w'=wx)) :
 Calls Tryz.prog 47 #[.agg #[.int .i64 5,.int .i64 3,.int .i64 a,.int .i64 b,.int .i64 c,.int .i64 im,.bool u]] W fun e w'=>e=.returned (.tuple #[.int .u32 (bits .or .u32 (bits .or .u32 (bits .or .u32 (bits .or .u32 (bits .or .u32 2147483648 536870912) 268435456) (a*16777216)) (b*1048576)) (im%1048576)),.int .i64 0])∧Bl W w':=by
 obtain ⟨W1,hW1⟩:∃W1,W1=W.alloc (.cells #[.int .i64 5,.int .i64 3,.int .i64 a,.int .i64 b,.int .i64 c,.int .i64 im,.bool u] 72):=⟨_,rfl⟩;have HWB:Field.Aside (Bl W W1):=⟨by rw [hW1];exact (Bl.refl _).alloc _⟩;have RZ:Field.Aside (IBox W.heap.size 5 3 a b c im u W1):=⟨by rw [hW1];exact IBox.new W 5 3 a b c im u _⟩;have HW:=Field.Aside.mk hW1;clear hW1;go_enter Tryz.func47,Tryz.ntmps47
 go_wp2_with fail
 rw [←HW.out];refine (MY.out _).mono ?_;rintro e w1 ⟨rfl,k1⟩;obtain ⟨i0,i1,i2,i3,i4,i5,i6,fz⟩:=RZ.out.keep k1;have K1:=Field.Aside.mk (HWB.out.then k1.out);clear k1 fz
 go_wp2_with fail
 refine (O1.out _).mono ?_;rintro e w2 ⟨rfl,rfl⟩
 go_wp2_with fail
 have t1:Int.tmod (im%4294967296) 1048576=im%1048576:=by rw [Int.tmod_eq_emod_of_nonneg (by omega)];omega
 have t2:im%4294967296%1048576=im%1048576:=by omega
 go_quiet ((first | (go_at_call 76;exact Calls.quiet_of_same (OT.out _)) | (go_at_call 76;exact Calls.quiet_of_same (OF.out _))))
 go_wp2;go_ret2;exact ⟨rfl,K1.out.then (below_dN _ _)⟩
theorem rmay_is (i:Ins) {m:Bool} (h:mayN i=m):Field.Aside (∀wx,Calls Tryz.prog 78 #[i.v] wx fun e w'=>e=.returned (.bool m)∧Bl wx w'):=by
 refine ⟨fun W=>?_⟩;rw [←h];obtain ⟨kd,op,a,b,c,im,u⟩:=i
 by_cases hr:0≤a∧a≤15∧0≤b∧b≤15∧0≤c∧c≤15
 · obtain ⟨a0,a1,b0,b1,c0,c1⟩:=hr
   by_cases hk:1≤kd∧kd≤7
   · rcases (show kd=1∨kd=2∨kd=3∨kd=4∨kd=5∨kd=6∨kd=7 by omega) with rfl | rfl | rfl | rfl | rfl | rfl | rfl
     · exact rmay_1 op a b c im u W a0 a1 b0 b1 c0 c1
     · exact rmay_2 op a b c im u W a0 a1 b0 b1 c0 c1
     · exact rmay_3 op a b c im u W a0 a1 b0 b1 c0 c1
     · exact rmay_4 op a b c im u W a0 a1 b0 b1 c0 c1
     · exact rmay_5 op a b c im u W a0 a1 b0 b1 c0 c1
     · exact rmay_6 op a b c im u W a0 a1 b0 b1 c0 c1
     · exact rmay_7 op a b c im u W a0 a1 b0 b1 c0 c1
   · exact rmay_o kd op a b c im u W a0 a1 b0 b1 c0 c1 (by omega)
 · exact rmay_r kd op a b c im u W hr
theorem or_add {x y:Int} (i:Nat) {d:Int} (hd:((2 ^ i:Nat):Int)=d) (x0:0≤x) (x1:x<4294967296) (hx:x%d=0) (y0:0≤y) (y1:y<d) (hy:y<4294967296):bits .or .u32 x y=x+y:=by
 rw [u32_or x y x0 x1 y0 hy,nat_join i x.toNat y.toNat,Int.natCast_add]
 · omega
 · have e:((x.toNat%2 ^ i:Nat):Int)=0:=by
    rw [Int.natCast_emod,hd,Int.toNat_of_nonneg x0,hx]
   omega
 · have e:((y.toNat:Nat):Int)<((2 ^ i:Nat):Int):=by rw [hd,Int.toNat_of_nonneg y0];exact y1
   omega
theorem p28:((2 ^ 28:Nat):Int)=268435456:=by decide
theorem p24:((2 ^ 24:Nat):Int)=16777216:=by decide
theorem p20:((2 ^ 20:Nat):Int)=1048576:=by decide
theorem p16:((2 ^ 16:Nat):Int)=65536:=by decide
theorem p29:((2 ^ 29:Nat):Int)=536870912:=by decide
theorem p30:((2 ^ 30:Nat):Int)=1073741824:=by decide
theorem p31:((2 ^ 31:Nat):Int)=2147483648:=by decide
section
variable {op a b c im p:Int} {u:Bool}
theorem ew1 (o0:0≤op) (o1:op≤15) (a0:0≤a) (a1:a≤15) (b0:0≤b) (b1:b≤15) (c0:0≤c) (c1:c≤15) :
 bits .or .u32 (bits .or .u32 (bits .or .u32 (bits .or .u32 (b2i u*536870912) (a*16777216)) (b*1048576)) (op*65536)) c=(wordN ⟨1,op,a,b,c,im,u⟩:Int):=by
 have h:=b2i_range u;rw [word1];generalize b2i u=p at *;rw [or_add (x:=p*536870912) (y:=a*16777216) 28 p28 (by omega) (by omega) (by omega) (by omega) (by omega) (by omega)];rw [or_add (x:=p*536870912+a*16777216) (y:=b*1048576) 24 p24 (by omega) (by omega) (by omega) (by omega) (by omega) (by omega)];rw [or_add (x:=p*536870912+a*16777216+b*1048576) (y:=op*65536) 20 p20 (by omega) (by omega) (by omega) (by omega) (by omega) (by omega)]
 rw [or_add (x:=p*536870912+a*16777216+b*1048576+op*65536) (y:=c) 16 p16 (by omega) (by omega) (by omega) (by omega) (by omega) (by omega)];omega
theorem ew2 (q:Int) (o0:0≤op) (o1:op≤15) (a0:0≤a) (a1:a≤15) (b0:0≤b) (b1:b≤15) (hq:(im<0∧q=268435456)∨(¬im<0∧q=0)) :
 bits .or .u32 (bits .or .u32 (bits .or .u32 (bits .or .u32 (bits .or .u32 (bits .or .u32 1073741824 (b2i u*536870912)) q) (a*16777216)) (b*1048576)) (op*65536)) (im%65536)=(wordN ⟨2,op,a,b,c,im,u⟩:Int):=by
 have h:=b2i_range u;rw [word2,b2i_dec];generalize b2i u=p at *;rw [or_add (x:=1073741824) (y:=p*536870912) 30 p30 (by omega) (by omega) (by omega) (by omega) (by omega) (by omega)];rw [or_add (x:=1073741824+p*536870912) (y:=q) 29 p29 (by omega) (by omega) (by omega) (by omega) (by omega) (by omega)];rw [or_add (x:=1073741824+p*536870912+q) (y:=a*16777216) 28 p28 (by omega) (by omega) (by omega) (by omega) (by omega) (by omega)]
 rw [or_add (x:=1073741824+p*536870912+q+a*16777216) (y:=b*1048576) 24 p24 (by omega) (by omega) (by omega) (by omega) (by omega) (by omega)];rw [or_add (x:=1073741824+p*536870912+q+a*16777216+b*1048576) (y:=op*65536) 20 p20 (by omega) (by omega) (by omega) (by omega) (by omega) (by omega)];rw [or_add (x:=1073741824+p*536870912+q+a*16777216+b*1048576+op*65536) (y:=im%65536) 16 p16 (by omega) (by omega) (by omega) (by omega) (by omega) (by omega)]
 split<;>omega
theorem ew3 (a0:0≤a) (a1:a≤15):bits .or .u32 536870912 (a*16777216)=(wordN ⟨3,op,a,b,c,im,u⟩:Int):=by
 rw [word3];rw [or_add (x:=536870912) (y:=a*16777216) 29 p29 (by omega) (by omega) (by omega) (by omega) (by omega) (by omega)];omega
theorem ew4 (a0:0≤a) (a1:a≤15):bits .or .u32 805306368 (a*16777216)=(wordN ⟨4,op,a,b,c,im,u⟩:Int):=by
 rw [word4];rw [or_add (x:=805306368) (y:=a*16777216) 28 p28 (by omega) (by omega) (by omega) (by omega) (by omega) (by omega)];omega
theorem ew5 (k x y:Int) (hk:(k=0∧x=0∧y=0)∨(k=1∧x=0∧y=268435456)∨(k=2∧x=536870912∧y=0)∨(k=3∧x=536870912∧y=268435456)) (a0:0≤a) (a1:a≤15) (b0:0≤b) (b1:b≤15) :
 bits .or .u32 (bits .or .u32 (bits .or .u32 (bits .or .u32 (bits .or .u32 2147483648 x) y) (a*16777216)) (b*1048576)) (im%1048576)=(wordN ⟨5,k,a,b,c,im,u⟩:Int):=by
 have e2:b2i (k%2==1)=k%2:=by
  rcases (show k%2=0∨k%2=1 by omega) with h | h<;>rw [h]<;>rfl
 rw [word5,b2i_dec,e2];clear e2;rw [or_add (x:=2147483648) (y:=x) 31 p31 (by omega) (by omega) (by omega) (by omega) (by omega) (by omega)];rw [or_add (x:=2147483648+x) (y:=y) 29 p29 (by omega) (by omega) (by omega) (by omega) (by omega) (by omega)];rw [or_add (x:=2147483648+x+y) (y:=a*16777216) 28 p28 (by omega) (by omega) (by omega) (by omega) (by omega) (by omega)];rw [or_add (x:=2147483648+x+y+a*16777216) (y:=b*1048576) 24 p24 (by omega) (by omega) (by omega) (by omega) (by omega) (by omega)]
 rw [or_add (x:=2147483648+x+y+a*16777216+b*1048576) (y:=im%1048576) 20 p20 (by omega) (by omega) (by omega) (by omega) (by omega) (by omega)]
 split<;>omega
theorem ew6 (o0:0≤op) (o1:op≤15) (c0:0≤c) (c1:c≤15) :
 bits .or .u32 (bits .or .u32 (bits .or .u32 3221225472 (b2i u*268435456)) (op*16777216)) c=(wordN ⟨6,op,a,b,c,im,u⟩:Int):=by
 have h:=b2i_range u;rw [word6];generalize b2i u=p at *;rw [or_add (x:=3221225472) (y:=p*268435456) 29 p29 (by omega) (by omega) (by omega) (by omega) (by omega) (by omega)];rw [or_add (x:=3221225472+p*268435456) (y:=op*16777216) 28 p28 (by omega) (by omega) (by omega) (by omega) (by omega) (by omega)];rw [or_add (x:=3221225472+p*268435456+op*16777216) (y:=c) 24 p24 (by omega) (by omega) (by omega) (by omega) (by omega) (by omega)]
 omega
theorem ew7 (o0:0≤op) (o1:op≤15) :
 bits .or .u32 (bits .or .u32 (bits .or .u32 3758096384 (b2i u*268435456)) (op*16777216)) (im%16777216)=(wordN ⟨7,op,a,b,c,im,u⟩:Int):=by
 have h:=b2i_range u;rw [word7];generalize b2i u=p at *;rw [or_add (x:=3758096384) (y:=p*268435456) 29 p29 (by omega) (by omega) (by omega) (by omega) (by omega) (by omega)];rw [or_add (x:=3758096384+p*268435456) (y:=op*16777216) 28 p28 (by omega) (by omega) (by omega) (by omega) (by omega) (by omega)];rw [or_add (x:=3758096384+p*268435456+op*16777216) (y:=im%16777216) 24 p24 (by omega) (by omega) (by omega) (by omega) (by omega) (by omega)]
 omega
end
theorem one_is (u:Bool):Field.Aside (∀wx,Calls Tryz.prog 76 #[.bool u] wx fun e w'=>e=.returned (.int .u32 (b2i u))∧w'=wx):=⟨fun wx=>rone_any u wx⟩
set_option maxHeartbeats 4000000 in
theorem rencode_ok (i:Ins) (h:mayN i=true):Field.Aside (∀wx,Calls Tryz.prog 47 #[i.v] wx fun e w'=>e=.returned (.tuple #[.int .u32 (wordN i),.int .i64 0])∧Bl wx w'):=by
 refine ⟨fun W=>?_⟩;have hb:=may_bounds h;have hf:=may_fields h;have MY:=rmay_is i h;obtain ⟨kd,op,a,b,c,im,u⟩:=i;have hr:=may_iff.1 h;have hp:=b2i_range u;have O1:=one_is u;have OT:=one_is true;have OF:=one_is false
 dsimp only [Ins.v] at *
 rcases (show kd=1∨kd=2∨kd=3∨kd=4∨kd=5∨kd=6∨kd=7 by omega) with rfl | rfl | rfl | rfl | rfl | rfl | rfl
 · rw [←ew1 hb.2.2.1 hb.2.2.2 hf.1 hf.2.1 hf.2.2.1 hf.2.2.2.1 hf.2.2.2.2.1 hf.2.2.2.2.2.1]
   exact renc_1 op a b c im (b2i u) u W hb.2.2.1 hb.2.2.2 hf.1 hf.2.1 hf.2.2.1 hf.2.2.2.1 hf.2.2.2.2.1 hf.2.2.2.2.2.1 hp.1 hp.2 MY O1
 · by_cases hm:im<0
   · rw [←ew2 268435456 hb.2.2.1 hb.2.2.2 hf.1 hf.2.1 hf.2.2.1 hf.2.2.2.1 (Or.inl ⟨hm,rfl⟩)]
     exact renc_2a op a b c im (b2i u) u W hb.2.2.1 hb.2.2.2 hf.1 hf.2.1 hf.2.2.1 hf.2.2.2.1 hf.2.2.2.2.1 hf.2.2.2.2.2.1 hp.1 hp.2 (decide_eq_true hm) OT OF MY O1
   · rw [←ew2 0 hb.2.2.1 hb.2.2.2 hf.1 hf.2.1 hf.2.2.1 hf.2.2.2.1 (Or.inr ⟨hm,rfl⟩)]
     exact renc_2b op a b c im (b2i u) u W hb.2.2.1 hb.2.2.2 hf.1 hf.2.1 hf.2.2.1 hf.2.2.2.1 hf.2.2.2.2.1 hf.2.2.2.2.2.1 hp.1 hp.2 (decide_eq_false hm) OT OF MY O1
 · rw [←ew3 hf.1 hf.2.1]
   exact renc_3 op a b c im (b2i u) u W hb.2.2.1 hb.2.2.2 hf.1 hf.2.1 hf.2.2.1 hf.2.2.2.1 hf.2.2.2.2.1 hf.2.2.2.2.2.1 hp.1 hp.2 MY O1
 · rw [←ew4 hf.1 hf.2.1]
   exact renc_4 op a b c im (b2i u) u W hb.2.2.1 hb.2.2.2 hf.1 hf.2.1 hf.2.2.1 hf.2.2.2.1 hf.2.2.2.2.1 hf.2.2.2.2.2.1 hp.1 hp.2 MY O1
 · have ho:op=0∨op=1∨op=2∨op=3:=by
    obtain ⟨_,_,_,_,_,_,q⟩:=hr;omega
   clear hr h hb
   rcases ho with rfl | rfl | rfl | rfl
   · rw [←ew5 0 0 0 (Or.inl ⟨rfl,rfl,rfl⟩) hf.1 hf.2.1 hf.2.2.1 hf.2.2.2.1]
     exact renc_5a a b c im (b2i u) u W hf.1 hf.2.1 hf.2.2.1 hf.2.2.2.1 hf.2.2.2.2.1 hf.2.2.2.2.2.1 hp.1 hp.2 OT OF MY O1
   · rw [←ew5 1 0 268435456 (Or.inr (Or.inl ⟨rfl,rfl,rfl⟩)) hf.1 hf.2.1 hf.2.2.1 hf.2.2.2.1]
     exact renc_5b a b c im (b2i u) u W hf.1 hf.2.1 hf.2.2.1 hf.2.2.2.1 hf.2.2.2.2.1 hf.2.2.2.2.2.1 hp.1 hp.2 OT OF MY O1
   · rw [←ew5 2 536870912 0 (Or.inr (Or.inr (Or.inl ⟨rfl,rfl,rfl⟩))) hf.1 hf.2.1 hf.2.2.1 hf.2.2.2.1]
     exact renc_5c a b c im (b2i u) u W hf.1 hf.2.1 hf.2.2.1 hf.2.2.2.1 hf.2.2.2.2.1 hf.2.2.2.2.2.1 hp.1 hp.2 OT OF MY O1
   · rw [←ew5 3 536870912 268435456 (Or.inr (Or.inr (Or.inr ⟨rfl,rfl,rfl⟩))) hf.1 hf.2.1 hf.2.2.1 hf.2.2.2.1]
     exact renc_5d a b c im (b2i u) u W hf.1 hf.2.1 hf.2.2.1 hf.2.2.2.1 hf.2.2.2.2.1 hf.2.2.2.2.2.1 hp.1 hp.2 OT OF MY O1
 · rw [←ew6 hb.2.2.1 hb.2.2.2 hf.2.2.2.2.1 hf.2.2.2.2.2.1]
   exact renc_6 op a b c im (b2i u) u W hb.2.2.1 hb.2.2.2 hf.1 hf.2.1 hf.2.2.1 hf.2.2.2.1 hf.2.2.2.2.1 hf.2.2.2.2.2.1 hp.1 hp.2 MY O1
 · rw [←ew7 hb.2.2.1 hb.2.2.2]
   exact renc_7 op a b c im (b2i u) u W hb.2.2.1 hb.2.2.2 hf.1 hf.2.1 hf.2.2.1 hf.2.2.2.1 hf.2.2.2.2.1 hf.2.2.2.2.2.1 hp.1 hp.2 MY O1
set_option maxRecDepth 100000 in
set_option maxHeartbeats 4000000 in
theorem renc_no (kd op a b c im:Int) (u:Bool) (W:World)
 (MY:Field.Aside (∀wx,Calls Tryz.prog 78 #[.agg #[.int .i64 kd,.int .i64 op,.int .i64 a,.int .i64 b,.int .i64 c,.int .i64 im,.bool u]] wx fun e w'=>e=.returned (.bool false)∧Bl wx w')) :
 Calls Tryz.prog 47 #[.agg #[.int .i64 kd,.int .i64 op,.int .i64 a,.int .i64 b,.int .i64 c,.int .i64 im,.bool u]] W fun e w'=>e=.returned (.tuple #[.int .u32 0,.int .i64 1])∧Bl W w':=by
 go_enter Tryz.func47,Tryz.ntmps47
 go_wp2_with fail
 refine (MY.out _).mono ?_;rintro e w1 ⟨rfl,k1⟩;have K1:=Field.Aside.mk (((Bl.refl W).alloc (.cells #[.int .i64 kd,.int .i64 op,.int .i64 a,.int .i64 b,.int .i64 c,.int .i64 im,.bool u] 72)).then k1.out);clear k1
 go_wp2_with fail
 go_ret2;exact ⟨rfl,K1.out⟩
theorem rencode_bad (i:Ins) (h:mayN i=false):Field.Aside (∀wx,Calls Tryz.prog 47 #[i.v] wx fun e w'=>e=.returned (.tuple #[.int .u32 0,.int .i64 1])∧Bl wx w') :=
 ⟨fun W=>renc_no i.kd i.op i.a i.b i.c i.im i.u W (rmay_is i h)⟩
theorem q30:(2:Nat) ^ 30=1073741824:=by decide
theorem q29:(2:Nat) ^ 29=536870912:=by decide
theorem q28:(2:Nat) ^ 28=268435456:=by decide
theorem q20:(2:Nat) ^ 20=1048576:=by decide
theorem q16:(2:Nat) ^ 16=65536:=by decide
theorem q4:(2:Nat) ^ 4=16:=by decide
theorem q2:(2:Nat) ^ 2=4:=by decide
theorem q1:(2:Nat) ^ 1=2:=by decide
theorem q12:(2:Nat) ^ 12=4096:=by decide
theorem t4:∀f:Fin 16,12≤12 ||| (f.1 &&& 3):=by decide
def v1 (w x:Nat):Nat:=w &&& 1341194239 ||| 786432 ||| (x &&& 196608)
def odd (x:Nat):Nat:=x &&& 65520 ||| 16
def v2 (w x:Nat):Nat:=w &&& 268107791 ||| odd x
def v3 (w x:Nat):Nat:=w &&& 520093711 ||| 3221225472 ||| odd x
def v4 (w:Nat):Nat:=w &&& 267386895 ||| 537133056
def v5 (w:Nat):Nat:=w &&& 251658255 ||| 1048576
def v6 (w:Nat):Nat:=w &&& 268107791 ||| 268435456
theorem mask_is (x m k d:Nat) (mi:Int) (hi:mi=(m:Int)) (hd:2 ^ k=d) (hm:m=d - 1) (hx:x<4294967296) (hk:k≤32):bits .and .u32 (x:Int) mi=((x%d:Nat):Int):=by
 have h2:2 ^ k≤2 ^ 32:=Nat.pow_le_pow_right (by decide) hk;have h3:=Nat.two_pow_pos k;rw [hi,u32_and_nat _ _ hx (by omega),hm,←hd,Nat.and_two_pow_sub_one_eq_mod]
set_option maxHeartbeats 4000000 in
theorem guess_0a (w fa fb fo fc fi s20 s24:Int) (u v:Bool) (W:World) (_w0:0≤w) (_w1:w≤4294967295) (_a0:0≤fa) (_a1:fa≤15) (_b0:0≤fb) (_b1:fb≤15) (_o0:0≤fo) (_o1:fo≤15) (_c0:0≤fc) (_c1:fc≤15) (_i0:0≤fi) (_i1:fi≤65535)
 (_hu:(bits .and .u32 (w / 536870912) 1==1)=false) (_hv:(bits .and .u32 (w / 268435456) 1==1)=v) (_ha:bits .and .u32 (w / 16777216) 15=fa) (_hb:bits .and .u32 (w / 1048576) 15=fb) (_ho:bits .and .u32 (w / 65536) 15=fo) (_hc:bits .and .u32 w 15=fc) (_hi:bits .and .u32 w 65535=fi) (_h0:(w / 1073741824==0)=true) (_h1:(w / 1073741824==1)=false) (_h2:(w / 1073741824==2)=false)
 (_S20:Field.Aside (∀wx,Calls Tryz.prog 77 #[.int .u32 w,.int .i64 20] wx fun e w'=>e=.returned (.int .i64 s20)∧wx=w'))
 (_S24:Field.Aside (∀wx,Calls Tryz.prog 77 #[.int .u32 w,.int .i64 24] wx fun e w'=>e=.returned (.int .i64 s24)∧wx=w')) :
 Calls Tryz.prog 46 #[.int .u32 w] W fun e w'=>e=.returned (.agg #[.int .i64 1,.int .i64 fo,.int .i64 fa,.int .i64 fb,.int .i64 fc,.int .i64 0,.bool false])∧Bl W w':=by
 go_enter Tryz.func46,Tryz.ntmps46
 go_wp2_with fail
 refine bodyPost_ret (v:=.agg #[.int .i64 1,.int .i64 fo,.int .i64 fa,.int .i64 fb,.int .i64 fc,.int .i64 0,.bool false]) ?_ rfl ⟨rfl,?_⟩
 · simp only [results,Tryz.results46]
   go_simp
 · exact (Bl.refl W).alloc _
set_option maxHeartbeats 4000000 in
theorem guess_0b (w fa fb fo fc fi s20 s24:Int) (u v:Bool) (W:World) (_w0:0≤w) (_w1:w≤4294967295) (_a0:0≤fa) (_a1:fa≤15) (_b0:0≤fb) (_b1:fb≤15) (_o0:0≤fo) (_o1:fo≤15) (_c0:0≤fc) (_c1:fc≤15) (_i0:0≤fi) (_i1:fi≤65535)
 (_hu:(bits .and .u32 (w / 536870912) 1==1)=true) (_hv:(bits .and .u32 (w / 268435456) 1==1)=v) (_ha:bits .and .u32 (w / 16777216) 15=fa) (_hb:bits .and .u32 (w / 1048576) 15=fb) (_ho:bits .and .u32 (w / 65536) 15=fo) (_hc:bits .and .u32 w 15=fc) (_hi:bits .and .u32 w 65535=fi) (_h0:(w / 1073741824==0)=true) (_h1:(w / 1073741824==1)=false) (_h2:(w / 1073741824==2)=false) (_f:(fo==0)=false)
 (_S20:Field.Aside (∀wx,Calls Tryz.prog 77 #[.int .u32 w,.int .i64 20] wx fun e w'=>e=.returned (.int .i64 s20)∧wx=w'))
 (_S24:Field.Aside (∀wx,Calls Tryz.prog 77 #[.int .u32 w,.int .i64 24] wx fun e w'=>e=.returned (.int .i64 s24)∧wx=w')) :
 Calls Tryz.prog 46 #[.int .u32 w] W fun e w'=>e=.returned (.agg #[.int .i64 1,.int .i64 fo,.int .i64 fa,.int .i64 fb,.int .i64 fc,.int .i64 0,.bool true])∧Bl W w':=by
 go_enter Tryz.func46,Tryz.ntmps46
 go_wp2_with fail
 refine bodyPost_ret (v:=.agg #[.int .i64 1,.int .i64 fo,.int .i64 fa,.int .i64 fb,.int .i64 fc,.int .i64 0,.bool true]) ?_ rfl ⟨rfl,?_⟩
 · simp only [results,Tryz.results46]
   go_simp
 · exact (Bl.refl W).alloc _
set_option maxHeartbeats 4000000 in
theorem guess_0c (w fa fb fo fc fi s20 s24:Int) (u v:Bool) (W:World) (_w0:0≤w) (_w1:w≤4294967295) (_a0:0≤fa) (_a1:fa≤15) (_b0:0≤fb) (_b1:fb≤15) (_o0:0≤fo) (_o1:fo≤15) (_c0:0≤fc) (_c1:fc≤15) (_i0:0≤fi) (_i1:fi≤65535)
 (_hu:(bits .and .u32 (w / 536870912) 1==1)=true) (_hv:(bits .and .u32 (w / 268435456) 1==1)=false) (_ha:bits .and .u32 (w / 16777216) 15=fa) (_hb:bits .and .u32 (w / 1048576) 15=fb) (_ho:bits .and .u32 (w / 65536) 15=fo) (_hc:bits .and .u32 w 15=fc) (_hi:bits .and .u32 w 65535=fi) (_h0:(w / 1073741824==0)=true) (_h1:(w / 1073741824==1)=false) (_h2:(w / 1073741824==2)=false) (_f:(fo==0)=true)
 (_S20:Field.Aside (∀wx,Calls Tryz.prog 77 #[.int .u32 w,.int .i64 20] wx fun e w'=>e=.returned (.int .i64 s20)∧wx=w'))
 (_S24:Field.Aside (∀wx,Calls Tryz.prog 77 #[.int .u32 w,.int .i64 24] wx fun e w'=>e=.returned (.int .i64 s24)∧wx=w')) :
 Calls Tryz.prog 46 #[.int .u32 w] W fun e w'=>e=.returned (.agg #[.int .i64 3,.int .i64 0,.int .i64 fa,.int .i64 0,.int .i64 0,.int .i64 0,.bool false])∧Bl W w':=by
 go_enter Tryz.func46,Tryz.ntmps46
 go_wp2_with fail
 refine bodyPost_ret (v:=.agg #[.int .i64 3,.int .i64 0,.int .i64 fa,.int .i64 0,.int .i64 0,.int .i64 0,.bool false]) ?_ rfl ⟨rfl,?_⟩
 · simp only [results,Tryz.results46]
   go_simp
 · exact (Bl.refl W).alloc _
set_option maxHeartbeats 4000000 in
theorem guess_0d (w fa fb fo fc fi s20 s24:Int) (u v:Bool) (W:World) (_w0:0≤w) (_w1:w≤4294967295) (_a0:0≤fa) (_a1:fa≤15) (_b0:0≤fb) (_b1:fb≤15) (_o0:0≤fo) (_o1:fo≤15) (_c0:0≤fc) (_c1:fc≤15) (_i0:0≤fi) (_i1:fi≤65535)
 (_hu:(bits .and .u32 (w / 536870912) 1==1)=true) (_hv:(bits .and .u32 (w / 268435456) 1==1)=true) (_ha:bits .and .u32 (w / 16777216) 15=fa) (_hb:bits .and .u32 (w / 1048576) 15=fb) (_ho:bits .and .u32 (w / 65536) 15=fo) (_hc:bits .and .u32 w 15=fc) (_hi:bits .and .u32 w 65535=fi) (_h0:(w / 1073741824==0)=true) (_h1:(w / 1073741824==1)=false) (_h2:(w / 1073741824==2)=false) (_f:(fo==0)=true)
 (_S20:Field.Aside (∀wx,Calls Tryz.prog 77 #[.int .u32 w,.int .i64 20] wx fun e w'=>e=.returned (.int .i64 s20)∧wx=w'))
 (_S24:Field.Aside (∀wx,Calls Tryz.prog 77 #[.int .u32 w,.int .i64 24] wx fun e w'=>e=.returned (.int .i64 s24)∧wx=w')) :
 Calls Tryz.prog 46 #[.int .u32 w] W fun e w'=>e=.returned (.agg #[.int .i64 4,.int .i64 0,.int .i64 fa,.int .i64 0,.int .i64 0,.int .i64 0,.bool false])∧Bl W w':=by
 go_enter Tryz.func46,Tryz.ntmps46
 go_wp2_with fail
 refine bodyPost_ret (v:=.agg #[.int .i64 4,.int .i64 0,.int .i64 fa,.int .i64 0,.int .i64 0,.int .i64 0,.bool false]) ?_ rfl ⟨rfl,?_⟩
 · simp only [results,Tryz.results46]
   go_simp
 · exact (Bl.refl W).alloc _
set_option maxHeartbeats 4000000 in
theorem guess_1a (w fa fb fo fc fi s20 s24:Int) (u v:Bool) (W:World) (_w0:0≤w) (_w1:w≤4294967295) (_a0:0≤fa) (_a1:fa≤15) (_b0:0≤fb) (_b1:fb≤15) (_o0:0≤fo) (_o1:fo≤15) (_c0:0≤fc) (_c1:fc≤15) (_i0:0≤fi) (_i1:fi≤65535)
 (_hu:(bits .and .u32 (w / 536870912) 1==1)=u) (_hv:(bits .and .u32 (w / 268435456) 1==1)=false) (_ha:bits .and .u32 (w / 16777216) 15=fa) (_hb:bits .and .u32 (w / 1048576) 15=fb) (_ho:bits .and .u32 (w / 65536) 15=fo) (_hc:bits .and .u32 w 15=fc) (_hi:bits .and .u32 w 65535=fi) (_h0:(w / 1073741824==0)=false) (_h1:(w / 1073741824==1)=true) (_h2:(w / 1073741824==2)=false)
 (_S20:Field.Aside (∀wx,Calls Tryz.prog 77 #[.int .u32 w,.int .i64 20] wx fun e w'=>e=.returned (.int .i64 s20)∧wx=w'))
 (_S24:Field.Aside (∀wx,Calls Tryz.prog 77 #[.int .u32 w,.int .i64 24] wx fun e w'=>e=.returned (.int .i64 s24)∧wx=w')) :
 Calls Tryz.prog 46 #[.int .u32 w] W fun e w'=>e=.returned (.agg #[.int .i64 2,.int .i64 fo,.int .i64 fa,.int .i64 fb,.int .i64 0,.int .i64 fi,.bool u])∧Bl W w':=by
 go_enter Tryz.func46,Tryz.ntmps46
 go_wp2_with fail
 refine bodyPost_ret (v:=.agg #[.int .i64 2,.int .i64 fo,.int .i64 fa,.int .i64 fb,.int .i64 0,.int .i64 fi,.bool u]) ?_ rfl ⟨rfl,?_⟩
 · simp only [results,Tryz.results46]
   go_simp
 · exact (Bl.refl W).alloc _
set_option maxHeartbeats 4000000 in
theorem guess_1b (w fa fb fo fc fi s20 s24:Int) (u v:Bool) (W:World) (_w0:0≤w) (_w1:w≤4294967295) (_a0:0≤fa) (_a1:fa≤15) (_b0:0≤fb) (_b1:fb≤15) (_o0:0≤fo) (_o1:fo≤15) (_c0:0≤fc) (_c1:fc≤15) (_i0:0≤fi) (_i1:fi≤65535)
 (_hu:(bits .and .u32 (w / 536870912) 1==1)=u) (_hv:(bits .and .u32 (w / 268435456) 1==1)=true) (_ha:bits .and .u32 (w / 16777216) 15=fa) (_hb:bits .and .u32 (w / 1048576) 15=fb) (_ho:bits .and .u32 (w / 65536) 15=fo) (_hc:bits .and .u32 w 15=fc) (_hi:bits .and .u32 w 65535=fi) (_h0:(w / 1073741824==0)=false) (_h1:(w / 1073741824==1)=true) (_h2:(w / 1073741824==2)=false)
 (_S20:Field.Aside (∀wx,Calls Tryz.prog 77 #[.int .u32 w,.int .i64 20] wx fun e w'=>e=.returned (.int .i64 s20)∧wx=w'))
 (_S24:Field.Aside (∀wx,Calls Tryz.prog 77 #[.int .u32 w,.int .i64 24] wx fun e w'=>e=.returned (.int .i64 s24)∧wx=w')) :
 Calls Tryz.prog 46 #[.int .u32 w] W fun e w'=>e=.returned (.agg #[.int .i64 2,.int .i64 fo,.int .i64 fa,.int .i64 fb,.int .i64 0,.int .i64 (fi - 65536),.bool u])∧Bl W w':=by
 go_enter Tryz.func46,Tryz.ntmps46
 go_wp2_with fail
 refine bodyPost_ret (v:=.agg #[.int .i64 2,.int .i64 fo,.int .i64 fa,.int .i64 fb,.int .i64 0,.int .i64 (fi - 65536),.bool u]) ?_ rfl ⟨rfl,?_⟩
 · simp only [results,Tryz.results46]
   go_simp
 · exact (Bl.refl W).alloc _
set_option maxHeartbeats 4000000 in
theorem guess_2 (w fa fb fo fc fi s20 s24:Int) (u v:Bool) (W:World) (_w0:0≤w) (_w1:w≤4294967295) (_a0:0≤fa) (_a1:fa≤15) (_b0:0≤fb) (_b1:fb≤15) (_o0:0≤fo) (_o1:fo≤15) (_c0:0≤fc) (_c1:fc≤15) (_i0:0≤fi) (_i1:fi≤65535)
 (_hu:(bits .and .u32 (w / 536870912) 1==1)=u) (_hv:(bits .and .u32 (w / 268435456) 1==1)=v) (_ha:bits .and .u32 (w / 16777216) 15=fa) (_hb:bits .and .u32 (w / 1048576) 15=fb) (_ho:bits .and .u32 (w / 65536) 15=fo) (_hc:bits .and .u32 w 15=fc) (_hi:bits .and .u32 w 65535=fi) (_h0:(w / 1073741824==0)=false) (_h1:(w / 1073741824==1)=false) (_h2:(w / 1073741824==2)=true)
 (_S20:Field.Aside (∀wx,Calls Tryz.prog 77 #[.int .u32 w,.int .i64 20] wx fun e w'=>e=.returned (.int .i64 s20)∧wx=w'))
 (_S24:Field.Aside (∀wx,Calls Tryz.prog 77 #[.int .u32 w,.int .i64 24] wx fun e w'=>e=.returned (.int .i64 s24)∧wx=w')) :
 Calls Tryz.prog 46 #[.int .u32 w] W fun e w'=>e=.returned (.agg #[.int .i64 5,.int .i64 (2*b2i u+b2i v),.int .i64 fa,.int .i64 fb,.int .i64 0,.int .i64 s20,.bool false])∧Bl W w':=by
 have O1:Field.Aside (∀wx,Calls Tryz.prog 76 #[.bool u] wx fun e w'=>e=.returned (.int .u32 (b2i u))∧w'=wx):=⟨fun wx=>rone_any u wx⟩;have O2:Field.Aside (∀wx,Calls Tryz.prog 76 #[.bool v] wx fun e w'=>e=.returned (.int .u32 (b2i v))∧w'=wx):=⟨fun wx=>rone_any v wx⟩;obtain ⟨p0,p1⟩:=b2i_range u;obtain ⟨q0,q1⟩:=b2i_range v;generalize b2i u=p at *;generalize b2i v=q at *;go_enter Tryz.func46,Tryz.ntmps46
 go_wp2_with fail
 refine (O1.out _).mono ?_;rintro e wn ⟨rfl,rfl⟩
 go_wp2_with fail
 refine (O2.out _).mono ?_;rintro e wn ⟨rfl,rfl⟩
 go_wp2_with fail
 refine (_S20.out _).mono ?_;rintro e wn ⟨rfl,rfl⟩
 go_wp2_with fail
 refine bodyPost_ret (v:=.agg #[.int .i64 5,.int .i64 (2*p+q),.int .i64 fa,.int .i64 fb,.int .i64 0,.int .i64 s20,.bool false]) ?_ rfl ⟨rfl,?_⟩
 · simp only [results,Tryz.results46]
   go_simp
 · exact (Bl.refl W).alloc _
set_option maxHeartbeats 4000000 in
theorem guess_3a (w fa fb fo fc fi s20 s24:Int) (u v:Bool) (W:World) (_w0:0≤w) (_w1:w≤4294967295) (_a0:0≤fa) (_a1:fa≤15) (_b0:0≤fb) (_b1:fb≤15) (_o0:0≤fo) (_o1:fo≤15) (_c0:0≤fc) (_c1:fc≤15) (_i0:0≤fi) (_i1:fi≤65535)
 (_hu:(bits .and .u32 (w / 536870912) 1==1)=true) (_hv:(bits .and .u32 (w / 268435456) 1==1)=v) (_ha:bits .and .u32 (w / 16777216) 15=fa) (_hb:bits .and .u32 (w / 1048576) 15=fb) (_ho:bits .and .u32 (w / 65536) 15=fo) (_hc:bits .and .u32 w 15=fc) (_hi:bits .and .u32 w 65535=fi) (_h0:(w / 1073741824==0)=false) (_h1:(w / 1073741824==1)=false) (_h2:(w / 1073741824==2)=false)
 (_S20:Field.Aside (∀wx,Calls Tryz.prog 77 #[.int .u32 w,.int .i64 20] wx fun e w'=>e=.returned (.int .i64 s20)∧wx=w'))
 (_S24:Field.Aside (∀wx,Calls Tryz.prog 77 #[.int .u32 w,.int .i64 24] wx fun e w'=>e=.returned (.int .i64 s24)∧wx=w')) :
 Calls Tryz.prog 46 #[.int .u32 w] W fun e w'=>e=.returned (.agg #[.int .i64 7,.int .i64 fa,.int .i64 0,.int .i64 0,.int .i64 0,.int .i64 s24,.bool v])∧Bl W w':=by
 go_enter Tryz.func46,Tryz.ntmps46
 go_wp2_with fail
 refine (_S24.out _).mono ?_;rintro e wn ⟨rfl,rfl⟩
 go_wp2_with fail
 refine bodyPost_ret (v:=.agg #[.int .i64 7,.int .i64 fa,.int .i64 0,.int .i64 0,.int .i64 0,.int .i64 s24,.bool v]) ?_ rfl ⟨rfl,?_⟩
 · simp only [results,Tryz.results46]
   go_simp
 · exact (Bl.refl W).alloc _
set_option maxHeartbeats 4000000 in
theorem guess_3b (w fa fb fo fc fi s20 s24:Int) (u v:Bool) (W:World) (_w0:0≤w) (_w1:w≤4294967295) (_a0:0≤fa) (_a1:fa≤15) (_b0:0≤fb) (_b1:fb≤15) (_o0:0≤fo) (_o1:fo≤15) (_c0:0≤fc) (_c1:fc≤15) (_i0:0≤fi) (_i1:fi≤65535)
 (_hu:(bits .and .u32 (w / 536870912) 1==1)=false) (_hv:(bits .and .u32 (w / 268435456) 1==1)=v) (_ha:bits .and .u32 (w / 16777216) 15=fa) (_hb:bits .and .u32 (w / 1048576) 15=fb) (_ho:bits .and .u32 (w / 65536) 15=fo) (_hc:bits .and .u32 w 15=fc) (_hi:bits .and .u32 w 65535=fi) (_h0:(w / 1073741824==0)=false) (_h1:(w / 1073741824==1)=false) (_h2:(w / 1073741824==2)=false)
 (_S20:Field.Aside (∀wx,Calls Tryz.prog 77 #[.int .u32 w,.int .i64 20] wx fun e w'=>e=.returned (.int .i64 s20)∧wx=w'))
 (_S24:Field.Aside (∀wx,Calls Tryz.prog 77 #[.int .u32 w,.int .i64 24] wx fun e w'=>e=.returned (.int .i64 s24)∧wx=w')) :
 Calls Tryz.prog 46 #[.int .u32 w] W fun e w'=>e=.returned (.agg #[.int .i64 6,.int .i64 fa,.int .i64 0,.int .i64 0,.int .i64 fc,.int .i64 0,.bool v])∧Bl W w':=by
 go_enter Tryz.func46,Tryz.ntmps46
 go_wp2_with fail
 refine bodyPost_ret (v:=.agg #[.int .i64 6,.int .i64 fa,.int .i64 0,.int .i64 0,.int .i64 fc,.int .i64 0,.bool v]) ?_ rfl ⟨rfl,?_⟩
 · simp only [results,Tryz.results46]
   go_simp
 · exact (Bl.refl W).alloc _
theorem guess_any (w:Nat) (hw:w<4294967296) (W:World):Calls Tryz.prog 46 #[.int .u32 w] W fun e w'=>e=.returned (readN w).v∧Bl W w':=by
 have S20:Field.Aside (∀wx,Calls Tryz.prog 77 #[.int .u32 w,.int .i64 20] wx fun e w'=>e=.returned (.int .i64 (signedN w 19))∧wx=w'):=⟨fun wx=>rsigned_any w 20 wx hw⟩;have S24:Field.Aside (∀wx,Calls Tryz.prog 77 #[.int .u32 w,.int .i64 24] wx fun e w'=>e=.returned (.int .i64 (signedN w 23))∧wx=w'):=⟨fun wx=>rsigned_any w 24 wx hw⟩
 have M (d m k e:Nat) (mi:Int) (hi:mi=(m:Int)) (he:2 ^ k=e) (hm:m=e - 1) (hk:k≤32):bits .and .u32 ((w:Int) / (d:Int)) mi=((w / d%e:Nat):Int):=by
  have h:=mask_is (w / d) m k e mi hi he hm (Nat.lt_of_le_of_lt (Nat.div_le_self _ _) hw) hk;rw [Int.natCast_ediv] at h;exact h
 have h29:bits .and .u32 ((w:Int) / 536870912) 1=((w / 536870912%2:Nat):Int):=M 536870912 1 1 2 1 rfl (by decide) rfl (by decide);have h28:bits .and .u32 ((w:Int) / 268435456) 1=((w / 268435456%2:Nat):Int):=M 268435456 1 1 2 1 rfl (by decide) rfl (by decide);have h24:bits .and .u32 ((w:Int) / 16777216) 15=((w / 16777216%16:Nat):Int):=M 16777216 15 4 16 15 rfl (by decide) rfl (by decide);have h20:bits .and .u32 ((w:Int) / 1048576) 15=((w / 1048576%16:Nat):Int):=M 1048576 15 4 16 15 rfl (by decide) rfl (by decide)
 have h16:bits .and .u32 ((w:Int) / 65536) 15=((w / 65536%16:Nat):Int):=M 65536 15 4 16 15 rfl (by decide) rfl (by decide);have h0:bits .and .u32 (w:Int) 15=((w%16:Nat):Int):=mask_is w 15 4 16 15 rfl (by decide) rfl hw (by decide);have hi:bits .and .u32 (w:Int) 65535=((w%65536:Nat):Int):=mask_is w 65535 16 65536 65535 rfl (by decide) rfl hw (by decide);clear M
 have hu:(bits .and .u32 ((w:Int) / 536870912) 1==1)=decide (w / 536870912%2=1):=by rw [h29,bit_is]
 have hv:(bits .and .u32 ((w:Int) / 268435456) 1==1)=decide (w / 268435456%2=1):=by rw [h28,bit_is]
 clear h29 h28
 have v2:((w / 268435456%2:Nat):Int)=b2i (decide (w / 268435456%2=1)):=by rw [b2i_dec];split<;>omega
 have u2:((w / 536870912%2:Nat):Int)=b2i (decide (w / 536870912%2=1)):=by rw [b2i_dec];split<;>omega
 obtain ⟨F,hF⟩:∃F,F=w / 1073741824:=⟨_,rfl⟩
 have eF:(w:Int) / 1073741824=(F:Int):=by rw [hF];exact (Int.natCast_ediv ..).symm
 have hp:w / 1073741824%4=F:=by omega
 have G (k:Int) (r:Bool) (hr:((F:Int)==k)=r):((w:Int) / 1073741824==k)=r:=by rw [eF];exact hr
 have w0:(0:Int)≤w:=Int.natCast_nonneg w
 have w1:(w:Int)≤4294967295:=by omega
 have B (x m:Nat) (k:Int) (hm:0<m) (hk:k=(m:Int) - 1):(0:Int)≤((x%m:Nat):Int)∧((x%m:Nat):Int)≤k:=by
  have:=Nat.mod_lt x hm;omega
 have a:=B (w / 16777216) 16 15 (by decide) rfl;have b:=B (w / 1048576) 16 15 (by decide) rfl;have o:=B (w / 65536) 16 15 (by decide) rfl;have c:=B w 16 15 (by decide) rfl;have i:=B w 65536 65535 (by decide) rfl;clear B hw
 have hF4:F=0∨F=1∨F=2∨F=3:=by omega
 clear eF hF
 rcases hF4 with rfl | rfl | rfl | rfl
 · by_cases hb:w / 536870912%2=1
   · rw [decide_eq_true hb] at hu
     by_cases ho:w / 65536%16=0
     · have f0:(((w / 65536%16:Nat):Int)==0)=true:=by rw [ho];rfl
       by_cases hb2:w / 268435456%2=1
       · rw [decide_eq_true hb2] at hv
         refine (guess_0d w _ _ _ _ _ _ _ true true W w0 w1 a.1 a.2 b.1 b.2 o.1 o.2 c.1 c.2 i.1 i.2 hu hv h24 h20 h16 h0 hi (G 0 _ rfl) (G 1 _ rfl) (G 2 _ rfl) f0 S20 S24).mono fun e w' ⟨e1,k⟩=>⟨?_,k⟩;rw [e1];simp [readN,Ins.v,hp,hb,ho,hb2]
       · rw [decide_eq_false hb2] at hv
         refine (guess_0c w _ _ _ _ _ _ _ true true W w0 w1 a.1 a.2 b.1 b.2 o.1 o.2 c.1 c.2 i.1 i.2 hu hv h24 h20 h16 h0 hi (G 0 _ rfl) (G 1 _ rfl) (G 2 _ rfl) f0 S20 S24).mono fun e w' ⟨e1,k⟩=>⟨?_,k⟩;rw [e1]
         have hb3:w / 268435456%2=0:=by omega
         simp [readN,Ins.v,hp,hb,ho,hb3]
     · have f0:(((w / 65536%16:Nat):Int)==0)=false:=beq_eq_false_iff_ne.2 (by omega)
       refine (guess_0b w _ _ _ _ _ _ _ true _ W w0 w1 a.1 a.2 b.1 b.2 o.1 o.2 c.1 c.2 i.1 i.2 hu hv h24 h20 h16 h0 hi (G 0 _ rfl) (G 1 _ rfl) (G 2 _ rfl) f0 S20 S24).mono fun e w' ⟨e1,k⟩=>⟨?_,k⟩;rw [e1];simp [readN,Ins.v,hp,hb,ho]
   · rw [decide_eq_false hb] at hu
     refine (guess_0a w _ _ _ _ _ _ _ true _ W w0 w1 a.1 a.2 b.1 b.2 o.1 o.2 c.1 c.2 i.1 i.2 hu hv h24 h20 h16 h0 hi (G 0 _ rfl) (G 1 _ rfl) (G 2 _ rfl) S20 S24).mono fun e w' ⟨e1,k⟩=>⟨?_,k⟩;rw [e1];simp [readN,Ins.v,hp,hb]
 · by_cases hb2:w / 268435456%2=1
   · rw [decide_eq_true hb2] at hv
     refine (guess_1b w _ _ _ _ _ _ _ _ true W w0 w1 a.1 a.2 b.1 b.2 o.1 o.2 c.1 c.2 i.1 i.2 hu hv h24 h20 h16 h0 hi (G 0 _ rfl) (G 1 _ rfl) (G 2 _ rfl) S20 S24).mono fun e w' ⟨e1,k⟩=>⟨?_,k⟩;rw [e1];simp [readN,Ins.v,hp,hb2]
   · rw [decide_eq_false hb2] at hv
     refine (guess_1a w _ _ _ _ _ _ _ _ true W w0 w1 a.1 a.2 b.1 b.2 o.1 o.2 c.1 c.2 i.1 i.2 hu hv h24 h20 h16 h0 hi (G 0 _ rfl) (G 1 _ rfl) (G 2 _ rfl) S20 S24).mono fun e w' ⟨e1,k⟩=>⟨?_,k⟩;rw [e1]
     have hb3:w / 268435456%2=0:=by omega
     simp [readN,Ins.v,hp,hb3]
 · refine (guess_2 w _ _ _ _ _ _ _ _ _ W w0 w1 a.1 a.2 b.1 b.2 o.1 o.2 c.1 c.2 i.1 i.2 hu hv h24 h20 h16 h0 hi (G 0 _ rfl) (G 1 _ rfl) (G 2 _ rfl) S20 S24).mono fun e w' ⟨e1,k⟩=>⟨?_,k⟩
   rw [e1,←u2,←v2,read_mem hp]
   rfl
 · by_cases hb:w / 536870912%2=1
   · rw [decide_eq_true hb] at hu
     refine (guess_3a w _ _ _ _ _ _ _ true _ W w0 w1 a.1 a.2 b.1 b.2 o.1 o.2 c.1 c.2 i.1 i.2 hu hv h24 h20 h16 h0 hi (G 0 _ rfl) (G 1 _ rfl) (G 2 _ rfl) S20 S24).mono fun e w' ⟨e1,k⟩=>⟨?_,k⟩;rw [e1,read_jmp hp hb]
     rfl
   · rw [decide_eq_false hb] at hu
     refine (guess_3b w _ _ _ _ _ _ _ true _ W w0 w1 a.1 a.2 b.1 b.2 o.1 o.2 c.1 c.2 i.1 i.2 hu hv h24 h20 h16 h0 hi (G 0 _ rfl) (G 1 _ rfl) (G 2 _ rfl) S20 S24).mono fun e w' ⟨e1,k⟩=>⟨?_,k⟩;rw [e1];simp [readN,Ins.v,hp,hb]
set_option maxHeartbeats 4000000 in
theorem rdec_no1 (w R er:Int) (jkd jop ja jb jc jim:Int) (ju:Bool) (W:World) (_h:(er==0)=false) (_h2:(er != 0)=true)
 (GS:Field.Aside (∀wx,Calls Tryz.prog 46 #[.int .u32 w] wx fun e w'=>e=.returned (.agg #[.int .i64 jkd,.int .i64 jop,.int .i64 ja,.int .i64 jb,.int .i64 jc,.int .i64 jim,.bool ju])∧Bl wx w'))
 (EN:Field.Aside (∀wx,Calls Tryz.prog 47 #[.agg #[.int .i64 jkd,.int .i64 jop,.int .i64 ja,.int .i64 jb,.int .i64 jc,.int .i64 jim,.bool ju]] wx fun e w'=>e=.returned (.tuple #[.int .u32 R,.int .i64 er])∧Bl wx w')) :
 Calls Tryz.prog 23 #[.int .u32 w] W fun e w'=>e=.returned (.tuple #[.agg #[.int .i64 0,.int .i64 0,.int .i64 0,.int .i64 0,.int .i64 0,.int .i64 0,.bool false],.bool false])∧Bl W w':=by
 go_enter Tryz.func23,Tryz.ntmps23
 go_wp2_with fail
 refine (GS.out _).mono ?_;rintro e w1 ⟨rfl,k1⟩;have K1:=Field.Aside.mk k1;obtain ⟨z,y,hlt⟩:=two_boxes W jkd jop ja jb jc jim ju _ k1;clear k1;have Z:=Field.Aside.mk z;have Y:=Field.Aside.mk y;clear z y
 go_wp2_with fail
 refine (EN.out _).mono ?_;rintro e w2 ⟨rfl,k2⟩
 have hne:¬w1.heap.size=W.heap.size:=by omega
 have hne':¬W.heap.size=w1.heap.size:=by omega
 obtain ⟨z0,z1,z2,z3,z4,z5,z6,zf⟩:=Z.out.keep k2;obtain ⟨i0,i1,i2,i3,i4,i5,i6,fz⟩:=Y.out.keep k2;have K2:=Field.Aside.mk k2;clear k2
 go_wp2_with fail
 refine bodyPost_ret (v:=.tuple #[.agg #[.int .i64 0,.int .i64 0,.int .i64 0,.int .i64 0,.int .i64 0,.int .i64 0,.bool false],.bool false]) ?_ rfl ⟨rfl,?_⟩
 · simp only [results,Tryz.results23]
   go_simp
 · have hq:Bl W w2:=((K1.out.of_new).alloc _).then K2.out.out
   repeat (refine Bl.puts ?_ (Nat.le_refl _) _)
   exact hq
set_option maxHeartbeats 4000000 in
theorem rdec_no2 (w R:Int) (jkd jop ja jb jc jim:Int) (ju:Bool) (W:World) (_h:(R==w)=false) (_h2:(R != w)=true)
 (GS:Field.Aside (∀wx,Calls Tryz.prog 46 #[.int .u32 w] wx fun e w'=>e=.returned (.agg #[.int .i64 jkd,.int .i64 jop,.int .i64 ja,.int .i64 jb,.int .i64 jc,.int .i64 jim,.bool ju])∧Bl wx w'))
 (EN:Field.Aside (∀wx,Calls Tryz.prog 47 #[.agg #[.int .i64 jkd,.int .i64 jop,.int .i64 ja,.int .i64 jb,.int .i64 jc,.int .i64 jim,.bool ju]] wx fun e w'=>e=.returned (.tuple #[.int .u32 R,.int .i64 0])∧Bl wx w')) :
 Calls Tryz.prog 23 #[.int .u32 w] W fun e w'=>e=.returned (.tuple #[.agg #[.int .i64 0,.int .i64 0,.int .i64 0,.int .i64 0,.int .i64 0,.int .i64 0,.bool false],.bool false])∧Bl W w':=by
 go_enter Tryz.func23,Tryz.ntmps23
 go_wp2_with fail
 refine (GS.out _).mono ?_;rintro e w1 ⟨rfl,k1⟩;have K1:=Field.Aside.mk k1;obtain ⟨z,y,hlt⟩:=two_boxes W jkd jop ja jb jc jim ju _ k1;clear k1;have Z:=Field.Aside.mk z;have Y:=Field.Aside.mk y;clear z y
 go_wp2_with fail
 refine (EN.out _).mono ?_;rintro e w2 ⟨rfl,k2⟩
 have hne:¬w1.heap.size=W.heap.size:=by omega
 have hne':¬W.heap.size=w1.heap.size:=by omega
 obtain ⟨z0,z1,z2,z3,z4,z5,z6,zf⟩:=Z.out.keep k2;obtain ⟨i0,i1,i2,i3,i4,i5,i6,fz⟩:=Y.out.keep k2;have K2:=Field.Aside.mk k2;clear k2
 go_wp2_with fail
 refine bodyPost_ret (v:=.tuple #[.agg #[.int .i64 0,.int .i64 0,.int .i64 0,.int .i64 0,.int .i64 0,.int .i64 0,.bool false],.bool false]) ?_ rfl ⟨rfl,?_⟩
 · simp only [results,Tryz.results23]
   go_simp
 · have hq:Bl W w2:=((K1.out.of_new).alloc _).then K2.out.out
   repeat (refine Bl.puts ?_ (Nat.le_refl _) _)
   exact hq
set_option maxHeartbeats 4000000 in
theorem rdec_yes (w:Int) (jkd jop ja jb jc jim:Int) (ju:Bool) (W:World)
 (GS:Field.Aside (∀wx,Calls Tryz.prog 46 #[.int .u32 w] wx fun e w'=>e=.returned (.agg #[.int .i64 jkd,.int .i64 jop,.int .i64 ja,.int .i64 jb,.int .i64 jc,.int .i64 jim,.bool ju])∧Bl wx w'))
 (EN:Field.Aside (∀wx,Calls Tryz.prog 47 #[.agg #[.int .i64 jkd,.int .i64 jop,.int .i64 ja,.int .i64 jb,.int .i64 jc,.int .i64 jim,.bool ju]] wx fun e w'=>e=.returned (.tuple #[.int .u32 w,.int .i64 0])∧Bl wx w')) :
 Calls Tryz.prog 23 #[.int .u32 w] W fun e w'=>e=.returned (.tuple #[.agg #[.int .i64 jkd,.int .i64 jop,.int .i64 ja,.int .i64 jb,.int .i64 jc,.int .i64 jim,.bool ju],.bool true])∧Bl W w':=by
 go_enter Tryz.func23,Tryz.ntmps23
 go_wp2_with fail
 refine (GS.out _).mono ?_;rintro e w1 ⟨rfl,k1⟩;have K1:=Field.Aside.mk k1;obtain ⟨z,y,hlt⟩:=two_boxes W jkd jop ja jb jc jim ju _ k1;clear k1;have Z:=Field.Aside.mk z;have Y:=Field.Aside.mk y;clear z y
 go_wp2_with fail
 refine (EN.out _).mono ?_;rintro e w2 ⟨rfl,k2⟩
 have hne:¬w1.heap.size=W.heap.size:=by omega
 have hne':¬W.heap.size=w1.heap.size:=by omega
 obtain ⟨z0,z1,z2,z3,z4,z5,z6,zf⟩:=Z.out.keep k2;obtain ⟨i0,i1,i2,i3,i4,i5,i6,fz⟩:=Y.out.keep k2;have K2:=Field.Aside.mk k2;clear k2
 go_wp2_with fail
 refine bodyPost_ret (v:=.tuple #[.agg #[.int .i64 jkd,.int .i64 jop,.int .i64 ja,.int .i64 jb,.int .i64 jc,.int .i64 jim,.bool ju],.bool true]) ?_ rfl ⟨rfl,?_⟩
 · simp only [results,Tryz.results23]
   go_simp
 · have hq:Bl W w2:=((K1.out.of_new).alloc _).then K2.out.out
   repeat (refine Bl.puts ?_ (Nat.le_refl _) _)
   exact hq
theorem guess_is (w:Nat) (hw:w<4294967296):Field.Aside (∀wx,Calls Tryz.prog 46 #[.int .u32 w] wx fun e w'=>e=.returned (readN w).v∧Bl wx w'):=⟨fun wx=>guess_any w hw wx⟩
theorem rdecode_ok (w:Nat) (hw:w<4294967296) (h:okN w=true):Field.Aside (∀wx,Calls Tryz.prog 23 #[.int .u32 w] wx fun e w'=>e=.returned (.tuple #[(readN w).v,.bool true])∧Bl wx w'):=by
 unfold okN at h;rw [Bool.and_eq_true,decide_eq_true_iff] at h;have E:=rencode_ok (readN w) h.1;rw [h.2] at E;exact ⟨fun wx=>rdec_yes w (readN w).kd (readN w).op (readN w).a (readN w).b (readN w).c (readN w).im (readN w).u wx (guess_is w hw) E⟩
theorem rdecode_bad (w:Nat) (hw:w<4294967296) (h:okN w=false):Field.Aside (∀wx,Calls Tryz.prog 23 #[.int .u32 w] wx fun e w'=>e=.returned (.tuple #[.agg #[.int .i64 0,.int .i64 0,.int .i64 0,.int .i64 0,.int .i64 0,.int .i64 0,.bool false],.bool false])∧Bl wx w'):=by
 unfold okN at h
 by_cases hm:mayN (readN w)=true
 · rw [hm,Bool.true_and,decide_eq_false_iff_not] at h
   have E:=rencode_ok (readN w) hm;have hq:((wordN (readN w):Int)==(w:Int))=false:=beq_eq_false_iff_ne.2 (by omega);exact ⟨fun wx=>rdec_no2 w _ (readN w).kd (readN w).op (readN w).a (readN w).b (readN w).c (readN w).im (readN w).u wx hq (by rw [bne,hq];rfl) (guess_is w hw) E⟩
 · exact ⟨fun wx=>rdec_no1 w 0 1 (readN w).kd (readN w).op (readN w).a (readN w).b (readN w).c (readN w).im (readN w).u wx rfl rfl (guess_is w hw) (rencode_bad _ (by simpa using hm))⟩
end Go.Proofs.YtjmiaemabhlnjaaGreatDoor.Isa
end
