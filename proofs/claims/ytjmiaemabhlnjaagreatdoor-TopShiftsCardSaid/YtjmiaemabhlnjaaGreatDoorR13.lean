/- A part of the proof of TopShifts. -/
import Derived.Test.YtjmiaemabhlnjaaGreatDoorR7
import Derived.Deep.RegionWith
section
set_option linter.all false
set_option maxRecDepth 20000
namespace Go.Proofs.YtjmiaemabhlnjaaGreatDoor.Isa
open Go.RowKit Go.Proofs.YtjmiaemabhlnjaaGreatDoor.FieldM Go.Proofs.YtjmiaemabhlnjaaGreatDoor.Field
theorem between_any (n l h:Int) (w:World):Calls Tryz.prog 115 #[.int .i64 n,.int .i64 l,.int .i64 h] w fun e w'=>e=.returned (.bool (decide (l≤n)&&decide (n≤h)))∧w=w':=by
 by_cases c:l≤n
 · go_enter Tryz.func115,Tryz.ntmps115
   go_wp2;go_ret;simp [c]
 · go_enter Tryz.func115,Tryz.ntmps115
   go_wp2;go_ret;simp;omega
set_option maxHeartbeats 30000000 in
theorem may_1 (kd op a b c im:Int) (u:Bool) (W W1:World) (HW:Field.Aside (W1=W.alloc (.cells #[.int .i64 kd,.int .i64 op,.int .i64 a,.int .i64 b,.int .i64 c,.int .i64 im,.bool u] 72)))
 (B1:Field.Aside (∀wx,Calls Tryz.prog 115 #[.int .i64 kd,.int .i64 1,.int .i64 7] wx fun e w'=>e=.returned (.bool false)∧wx=w')) :
 Calls Tryz.prog 81 #[.agg #[.int .i64 kd,.int .i64 op,.int .i64 a,.int .i64 b,.int .i64 c,.int .i64 im,.bool u]] W fun e w'=>e=.returned (.bool (false))∧Bl W w':=by
 have HWB:Field.Aside (Bl W W1):=⟨⟨by have:=HW.out;subst this;exact (Below.refl _ _).alloc (Nat.le_refl _) _⟩⟩;have RZ:Field.Aside (IBox W.heap.size kd op a b c im u W1):=⟨by rw [HW.out];exact IBox.new W kd op a b c im u _⟩;have B0:Bl W1 W1:=Bl.refl _;go_enter Tryz.func81,Tryz.ntmps81
 go_wp2_with fail
 rw [←HW.out];obtain ⟨i0,i1,i2,i3,i4,i5,i6,fz⟩:=RZ.out
 first | go_region_with (first | (go_at_call 115;(with_reducible refine (B1.out _).mono ?_);rintro e wn ⟨rfl,rfl⟩)) | fail "region"
 all_goals (try go_wp2_with (first | (go_at_call 115;(with_reducible refine (B1.out _).mono ?_);rintro e wn ⟨rfl,rfl⟩)))
 all_goals (refine bodyPost_ret (v:=.bool false) ?_ rfl ⟨rfl,HWB.out.then (Bl.out (by first | assumption | (apply Bl.drew;assumption)))⟩)
 all_goals (simp only [results,Tryz.results81];go_simp)
set_option maxHeartbeats 30000000 in
theorem may_2 (kd op a b c im:Int) (u:Bool) (W W1:World) (HW:Field.Aside (W1=W.alloc (.cells #[.int .i64 kd,.int .i64 op,.int .i64 a,.int .i64 b,.int .i64 c,.int .i64 im,.bool u] 72)))
 (B1:Field.Aside (∀wx,Calls Tryz.prog 115 #[.int .i64 kd,.int .i64 1,.int .i64 7] wx fun e w'=>e=.returned (.bool true)∧wx=w'))
 (B2:Field.Aside (∀wx,Calls Tryz.prog 115 #[.int .i64 op,.int .i64 0,.int .i64 15] wx fun e w'=>e=.returned (.bool false)∧wx=w')) :
 Calls Tryz.prog 81 #[.agg #[.int .i64 kd,.int .i64 op,.int .i64 a,.int .i64 b,.int .i64 c,.int .i64 im,.bool u]] W fun e w'=>e=.returned (.bool (false))∧Bl W w':=by
 have HWB:Field.Aside (Bl W W1):=⟨⟨by have:=HW.out;subst this;exact (Below.refl _ _).alloc (Nat.le_refl _) _⟩⟩;have RZ:Field.Aside (IBox W.heap.size kd op a b c im u W1):=⟨by rw [HW.out];exact IBox.new W kd op a b c im u _⟩;have B0:Bl W1 W1:=Bl.refl _;go_enter Tryz.func81,Tryz.ntmps81
 go_wp2_with fail
 rw [←HW.out];obtain ⟨i0,i1,i2,i3,i4,i5,i6,fz⟩:=RZ.out
 first | go_region_with (first | (go_at_call 115;(with_reducible refine (B1.out _).mono ?_);rintro e wn ⟨rfl,rfl⟩) | (go_at_call 115;(with_reducible refine (B2.out _).mono ?_);rintro e wn ⟨rfl,rfl⟩)) | fail "region"
 all_goals (try go_wp2_with (first | (go_at_call 115;(with_reducible refine (B1.out _).mono ?_);rintro e wn ⟨rfl,rfl⟩) | (go_at_call 115;(with_reducible refine (B2.out _).mono ?_);rintro e wn ⟨rfl,rfl⟩)))
 all_goals (refine bodyPost_ret (v:=.bool false) ?_ rfl ⟨rfl,HWB.out.then (Bl.out (by first | assumption | (apply Bl.drew;assumption)))⟩)
 all_goals (simp only [results,Tryz.results81];go_simp)
set_option maxHeartbeats 30000000 in
theorem may_30 (kd op a b c im:Int) (u:Bool) (W W1:World) (HW:Field.Aside (W1=W.alloc (.cells #[.int .i64 kd,.int .i64 op,.int .i64 a,.int .i64 b,.int .i64 c,.int .i64 im,.bool u] 72)))
 (B1:Field.Aside (∀wx,Calls Tryz.prog 115 #[.int .i64 kd,.int .i64 1,.int .i64 7] wx fun e w'=>e=.returned (.bool true)∧wx=w'))
 (B2:Field.Aside (∀wx,Calls Tryz.prog 115 #[.int .i64 op,.int .i64 0,.int .i64 15] wx fun e w'=>e=.returned (.bool true)∧wx=w'))
 (R:Int) (WD:Field.Aside (∀wx,Calls Tryz.prog 82 #[.agg #[.int .i64 kd,.int .i64 op,.int .i64 a,.int .i64 b,.int .i64 c,.int .i64 im,.bool u]] wx fun e w'=>e=.returned (.int .u32 R)∧Bl wx w'))
 (kd':Int) (op':Int) (a':Int) (b':Int) (c':Int) (im':Int) (u':Bool) (RD:Field.Aside (∀wx,Calls Tryz.prog 80 #[.int .u32 R] wx fun e w'=>e=.returned (.agg #[.int .i64 kd',.int .i64 op',.int .i64 a',.int .i64 b',.int .i64 c',.int .i64 im',.bool u'])∧Bl wx w')) (hne:¬kd=kd') :
 Calls Tryz.prog 81 #[.agg #[.int .i64 kd,.int .i64 op,.int .i64 a,.int .i64 b,.int .i64 c,.int .i64 im,.bool u]] W fun e w'=>e=.returned (.bool (false))∧Bl W w':=by
 have HWB:Field.Aside (Bl W W1):=⟨⟨by have:=HW.out;subst this;exact (Below.refl _ _).alloc (Nat.le_refl _) _⟩⟩;have RZ:Field.Aside (IBox W.heap.size kd op a b c im u W1):=⟨by rw [HW.out];exact IBox.new W kd op a b c im u _⟩;have B0:Bl W1 W1:=Bl.refl _;go_enter Tryz.func81,Tryz.ntmps81
 go_wp2_with fail
 rw [←HW.out];obtain ⟨i0,i1,i2,i3,i4,i5,i6,fz⟩:=RZ.out
 first | go_region_with (first | (go_at_call 115;(with_reducible refine (B1.out _).mono ?_);rintro e wn ⟨rfl,rfl⟩) | (go_at_call 115;(with_reducible refine (B2.out _).mono ?_);rintro e wn ⟨rfl,rfl⟩) | (go_at_call 82;(with_reducible refine (WD.out _).mono ?_);rintro e wn ⟨rfl,kn⟩;have BN:Bl W1 wn:=Bl.then (by first | assumption | (apply Bl.drew;assumption)) kn.out;clear kn;obtain ⟨i0,i1,i2,i3,i4,i5,i6,fz⟩:=RZ.out.keep BN) | (go_at_call 80;(with_reducible refine (RD.out _).mono ?_);rintro e wn ⟨rfl,kn⟩;have BN:Bl W1 wn:=Bl.then (by first | assumption | (apply Bl.drew;assumption)) kn.out;clear kn;obtain ⟨i0,i1,i2,i3,i4,i5,i6,fz⟩:=RZ.out.keep BN)) | fail "region"
 all_goals (try go_wp2_with (first | (go_at_call 115;(with_reducible refine (B1.out _).mono ?_);rintro e wn ⟨rfl,rfl⟩) | (go_at_call 115;(with_reducible refine (B2.out _).mono ?_);rintro e wn ⟨rfl,rfl⟩) | (go_at_call 82;(with_reducible refine (WD.out _).mono ?_);rintro e wn ⟨rfl,kn⟩;have BN:Bl W1 wn:=Bl.then (by first | assumption | (apply Bl.drew;assumption)) kn.out;clear kn;obtain ⟨i0,i1,i2,i3,i4,i5,i6,fz⟩:=RZ.out.keep BN) | (go_at_call 80;(with_reducible refine (RD.out _).mono ?_);rintro e wn ⟨rfl,kn⟩;have BN:Bl W1 wn:=Bl.then (by first | assumption | (apply Bl.drew;assumption)) kn.out;clear kn;obtain ⟨i0,i1,i2,i3,i4,i5,i6,fz⟩:=RZ.out.keep BN)))
 all_goals (refine bodyPost_ret (v:=.bool false) ?_ rfl ⟨rfl,HWB.out.then (Bl.out (by first | assumption | (apply Bl.drew;assumption)))⟩)
 all_goals (simp only [results,Tryz.results81];go_simp)
set_option maxHeartbeats 30000000 in
theorem may_31 (kd op a b c im:Int) (u:Bool) (W W1:World) (HW:Field.Aside (W1=W.alloc (.cells #[.int .i64 kd,.int .i64 op,.int .i64 a,.int .i64 b,.int .i64 c,.int .i64 im,.bool u] 72)))
 (B1:Field.Aside (∀wx,Calls Tryz.prog 115 #[.int .i64 kd,.int .i64 1,.int .i64 7] wx fun e w'=>e=.returned (.bool true)∧wx=w'))
 (B2:Field.Aside (∀wx,Calls Tryz.prog 115 #[.int .i64 op,.int .i64 0,.int .i64 15] wx fun e w'=>e=.returned (.bool true)∧wx=w'))
 (R:Int) (WD:Field.Aside (∀wx,Calls Tryz.prog 82 #[.agg #[.int .i64 kd,.int .i64 op,.int .i64 a,.int .i64 b,.int .i64 c,.int .i64 im,.bool u]] wx fun e w'=>e=.returned (.int .u32 R)∧Bl wx w'))
 (op':Int) (a':Int) (b':Int) (c':Int) (im':Int) (u':Bool) (RD:Field.Aside (∀wx,Calls Tryz.prog 80 #[.int .u32 R] wx fun e w'=>e=.returned (.agg #[.int .i64 kd,.int .i64 op',.int .i64 a',.int .i64 b',.int .i64 c',.int .i64 im',.bool u'])∧Bl wx w')) (hne:¬op=op') :
 Calls Tryz.prog 81 #[.agg #[.int .i64 kd,.int .i64 op,.int .i64 a,.int .i64 b,.int .i64 c,.int .i64 im,.bool u]] W fun e w'=>e=.returned (.bool (false))∧Bl W w':=by
 have HWB:Field.Aside (Bl W W1):=⟨⟨by have:=HW.out;subst this;exact (Below.refl _ _).alloc (Nat.le_refl _) _⟩⟩;have RZ:Field.Aside (IBox W.heap.size kd op a b c im u W1):=⟨by rw [HW.out];exact IBox.new W kd op a b c im u _⟩;have B0:Bl W1 W1:=Bl.refl _;go_enter Tryz.func81,Tryz.ntmps81
 go_wp2_with fail
 rw [←HW.out];obtain ⟨i0,i1,i2,i3,i4,i5,i6,fz⟩:=RZ.out
 first | go_region_with (first | (go_at_call 115;(with_reducible refine (B1.out _).mono ?_);rintro e wn ⟨rfl,rfl⟩) | (go_at_call 115;(with_reducible refine (B2.out _).mono ?_);rintro e wn ⟨rfl,rfl⟩) | (go_at_call 82;(with_reducible refine (WD.out _).mono ?_);rintro e wn ⟨rfl,kn⟩;have BN:Bl W1 wn:=Bl.then (by first | assumption | (apply Bl.drew;assumption)) kn.out;clear kn;obtain ⟨i0,i1,i2,i3,i4,i5,i6,fz⟩:=RZ.out.keep BN) | (go_at_call 80;(with_reducible refine (RD.out _).mono ?_);rintro e wn ⟨rfl,kn⟩;have BN:Bl W1 wn:=Bl.then (by first | assumption | (apply Bl.drew;assumption)) kn.out;clear kn;obtain ⟨i0,i1,i2,i3,i4,i5,i6,fz⟩:=RZ.out.keep BN)) | fail "region"
 all_goals (try go_wp2_with (first | (go_at_call 115;(with_reducible refine (B1.out _).mono ?_);rintro e wn ⟨rfl,rfl⟩) | (go_at_call 115;(with_reducible refine (B2.out _).mono ?_);rintro e wn ⟨rfl,rfl⟩) | (go_at_call 82;(with_reducible refine (WD.out _).mono ?_);rintro e wn ⟨rfl,kn⟩;have BN:Bl W1 wn:=Bl.then (by first | assumption | (apply Bl.drew;assumption)) kn.out;clear kn;obtain ⟨i0,i1,i2,i3,i4,i5,i6,fz⟩:=RZ.out.keep BN) | (go_at_call 80;(with_reducible refine (RD.out _).mono ?_);rintro e wn ⟨rfl,kn⟩;have BN:Bl W1 wn:=Bl.then (by first | assumption | (apply Bl.drew;assumption)) kn.out;clear kn;obtain ⟨i0,i1,i2,i3,i4,i5,i6,fz⟩:=RZ.out.keep BN)))
 all_goals (refine bodyPost_ret (v:=.bool false) ?_ rfl ⟨rfl,HWB.out.then (Bl.out (by first | assumption | (apply Bl.drew;assumption)))⟩)
 all_goals (simp only [results,Tryz.results81];go_simp)
set_option maxHeartbeats 30000000 in
theorem may_32 (kd op a b c im:Int) (u:Bool) (W W1:World) (HW:Field.Aside (W1=W.alloc (.cells #[.int .i64 kd,.int .i64 op,.int .i64 a,.int .i64 b,.int .i64 c,.int .i64 im,.bool u] 72)))
 (B1:Field.Aside (∀wx,Calls Tryz.prog 115 #[.int .i64 kd,.int .i64 1,.int .i64 7] wx fun e w'=>e=.returned (.bool true)∧wx=w'))
 (B2:Field.Aside (∀wx,Calls Tryz.prog 115 #[.int .i64 op,.int .i64 0,.int .i64 15] wx fun e w'=>e=.returned (.bool true)∧wx=w'))
 (R:Int) (WD:Field.Aside (∀wx,Calls Tryz.prog 82 #[.agg #[.int .i64 kd,.int .i64 op,.int .i64 a,.int .i64 b,.int .i64 c,.int .i64 im,.bool u]] wx fun e w'=>e=.returned (.int .u32 R)∧Bl wx w'))
 (a':Int) (b':Int) (c':Int) (im':Int) (u':Bool) (RD:Field.Aside (∀wx,Calls Tryz.prog 80 #[.int .u32 R] wx fun e w'=>e=.returned (.agg #[.int .i64 kd,.int .i64 op,.int .i64 a',.int .i64 b',.int .i64 c',.int .i64 im',.bool u'])∧Bl wx w')) (hne:¬a=a') :
 Calls Tryz.prog 81 #[.agg #[.int .i64 kd,.int .i64 op,.int .i64 a,.int .i64 b,.int .i64 c,.int .i64 im,.bool u]] W fun e w'=>e=.returned (.bool (false))∧Bl W w':=by
 have HWB:Field.Aside (Bl W W1):=⟨⟨by have:=HW.out;subst this;exact (Below.refl _ _).alloc (Nat.le_refl _) _⟩⟩;have RZ:Field.Aside (IBox W.heap.size kd op a b c im u W1):=⟨by rw [HW.out];exact IBox.new W kd op a b c im u _⟩;have B0:Bl W1 W1:=Bl.refl _;go_enter Tryz.func81,Tryz.ntmps81
 go_wp2_with fail
 rw [←HW.out];obtain ⟨i0,i1,i2,i3,i4,i5,i6,fz⟩:=RZ.out
 first | go_region_with (first | (go_at_call 115;(with_reducible refine (B1.out _).mono ?_);rintro e wn ⟨rfl,rfl⟩) | (go_at_call 115;(with_reducible refine (B2.out _).mono ?_);rintro e wn ⟨rfl,rfl⟩) | (go_at_call 82;(with_reducible refine (WD.out _).mono ?_);rintro e wn ⟨rfl,kn⟩;have BN:Bl W1 wn:=Bl.then (by first | assumption | (apply Bl.drew;assumption)) kn.out;clear kn;obtain ⟨i0,i1,i2,i3,i4,i5,i6,fz⟩:=RZ.out.keep BN) | (go_at_call 80;(with_reducible refine (RD.out _).mono ?_);rintro e wn ⟨rfl,kn⟩;have BN:Bl W1 wn:=Bl.then (by first | assumption | (apply Bl.drew;assumption)) kn.out;clear kn;obtain ⟨i0,i1,i2,i3,i4,i5,i6,fz⟩:=RZ.out.keep BN)) | fail "region"
 all_goals (try go_wp2_with (first | (go_at_call 115;(with_reducible refine (B1.out _).mono ?_);rintro e wn ⟨rfl,rfl⟩) | (go_at_call 115;(with_reducible refine (B2.out _).mono ?_);rintro e wn ⟨rfl,rfl⟩) | (go_at_call 82;(with_reducible refine (WD.out _).mono ?_);rintro e wn ⟨rfl,kn⟩;have BN:Bl W1 wn:=Bl.then (by first | assumption | (apply Bl.drew;assumption)) kn.out;clear kn;obtain ⟨i0,i1,i2,i3,i4,i5,i6,fz⟩:=RZ.out.keep BN) | (go_at_call 80;(with_reducible refine (RD.out _).mono ?_);rintro e wn ⟨rfl,kn⟩;have BN:Bl W1 wn:=Bl.then (by first | assumption | (apply Bl.drew;assumption)) kn.out;clear kn;obtain ⟨i0,i1,i2,i3,i4,i5,i6,fz⟩:=RZ.out.keep BN)))
 all_goals (refine bodyPost_ret (v:=.bool false) ?_ rfl ⟨rfl,HWB.out.then (Bl.out (by first | assumption | (apply Bl.drew;assumption)))⟩)
 all_goals (simp only [results,Tryz.results81];go_simp)
set_option maxHeartbeats 30000000 in
theorem may_33 (kd op a b c im:Int) (u:Bool) (W W1:World) (HW:Field.Aside (W1=W.alloc (.cells #[.int .i64 kd,.int .i64 op,.int .i64 a,.int .i64 b,.int .i64 c,.int .i64 im,.bool u] 72)))
 (B1:Field.Aside (∀wx,Calls Tryz.prog 115 #[.int .i64 kd,.int .i64 1,.int .i64 7] wx fun e w'=>e=.returned (.bool true)∧wx=w'))
 (B2:Field.Aside (∀wx,Calls Tryz.prog 115 #[.int .i64 op,.int .i64 0,.int .i64 15] wx fun e w'=>e=.returned (.bool true)∧wx=w'))
 (R:Int) (WD:Field.Aside (∀wx,Calls Tryz.prog 82 #[.agg #[.int .i64 kd,.int .i64 op,.int .i64 a,.int .i64 b,.int .i64 c,.int .i64 im,.bool u]] wx fun e w'=>e=.returned (.int .u32 R)∧Bl wx w'))
 (b':Int) (c':Int) (im':Int) (u':Bool) (RD:Field.Aside (∀wx,Calls Tryz.prog 80 #[.int .u32 R] wx fun e w'=>e=.returned (.agg #[.int .i64 kd,.int .i64 op,.int .i64 a,.int .i64 b',.int .i64 c',.int .i64 im',.bool u'])∧Bl wx w')) (hne:¬b=b') :
 Calls Tryz.prog 81 #[.agg #[.int .i64 kd,.int .i64 op,.int .i64 a,.int .i64 b,.int .i64 c,.int .i64 im,.bool u]] W fun e w'=>e=.returned (.bool (false))∧Bl W w':=by
 have HWB:Field.Aside (Bl W W1):=⟨⟨by have:=HW.out;subst this;exact (Below.refl _ _).alloc (Nat.le_refl _) _⟩⟩;have RZ:Field.Aside (IBox W.heap.size kd op a b c im u W1):=⟨by rw [HW.out];exact IBox.new W kd op a b c im u _⟩;have B0:Bl W1 W1:=Bl.refl _;go_enter Tryz.func81,Tryz.ntmps81
 go_wp2_with fail
 rw [←HW.out];obtain ⟨i0,i1,i2,i3,i4,i5,i6,fz⟩:=RZ.out
 first | go_region_with (first | (go_at_call 115;(with_reducible refine (B1.out _).mono ?_);rintro e wn ⟨rfl,rfl⟩) | (go_at_call 115;(with_reducible refine (B2.out _).mono ?_);rintro e wn ⟨rfl,rfl⟩) | (go_at_call 82;(with_reducible refine (WD.out _).mono ?_);rintro e wn ⟨rfl,kn⟩;have BN:Bl W1 wn:=Bl.then (by first | assumption | (apply Bl.drew;assumption)) kn.out;clear kn;obtain ⟨i0,i1,i2,i3,i4,i5,i6,fz⟩:=RZ.out.keep BN) | (go_at_call 80;(with_reducible refine (RD.out _).mono ?_);rintro e wn ⟨rfl,kn⟩;have BN:Bl W1 wn:=Bl.then (by first | assumption | (apply Bl.drew;assumption)) kn.out;clear kn;obtain ⟨i0,i1,i2,i3,i4,i5,i6,fz⟩:=RZ.out.keep BN)) | fail "region"
 all_goals (try go_wp2_with (first | (go_at_call 115;(with_reducible refine (B1.out _).mono ?_);rintro e wn ⟨rfl,rfl⟩) | (go_at_call 115;(with_reducible refine (B2.out _).mono ?_);rintro e wn ⟨rfl,rfl⟩) | (go_at_call 82;(with_reducible refine (WD.out _).mono ?_);rintro e wn ⟨rfl,kn⟩;have BN:Bl W1 wn:=Bl.then (by first | assumption | (apply Bl.drew;assumption)) kn.out;clear kn;obtain ⟨i0,i1,i2,i3,i4,i5,i6,fz⟩:=RZ.out.keep BN) | (go_at_call 80;(with_reducible refine (RD.out _).mono ?_);rintro e wn ⟨rfl,kn⟩;have BN:Bl W1 wn:=Bl.then (by first | assumption | (apply Bl.drew;assumption)) kn.out;clear kn;obtain ⟨i0,i1,i2,i3,i4,i5,i6,fz⟩:=RZ.out.keep BN)))
 all_goals (refine bodyPost_ret (v:=.bool false) ?_ rfl ⟨rfl,HWB.out.then (Bl.out (by first | assumption | (apply Bl.drew;assumption)))⟩)
 all_goals (simp only [results,Tryz.results81];go_simp)
end Go.Proofs.YtjmiaemabhlnjaaGreatDoor.Isa
end
