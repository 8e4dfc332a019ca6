/- A part of the proof of TopShifts. -/
import Derived.Test.YtjmiaemabhlnjaaGreatDoorR7
import Derived.Deep.RegionWith
section
set_option linter.all false
set_option maxRecDepth 20000
namespace Go.Proofs.YtjmiaemabhlnjaaGreatDoor.Isa
open Go.RowKit Go.Proofs.YtjmiaemabhlnjaaGreatDoor.FieldM Go.Proofs.YtjmiaemabhlnjaaGreatDoor.Field
set_option maxHeartbeats 30000000 in
theorem read_0a (w:Nat) (W W1:World) (b28 fa fb fo fc fi s20 s24:Int) (vB:Bool) (HW:Field.Aside (W1=W.alloc (.cells #[.int .u32 w] 56)))
 (_b0:0≤b28) (_b1:b28≤1) (_hv:(b28==1)=vB) (_c0:0≤fi) (_c1:fi≤65535)
 (_S20:Field.Aside (∀wx,Calls Tryz.prog 114 #[.int .u32 w,.int .i64 20] wx fun e w'=>e=.returned (.int .i64 s20)∧wx=w'))
 (_S24:Field.Aside (∀wx,Calls Tryz.prog 114 #[.int .u32 w,.int .i64 24] wx fun e w'=>e=.returned (.int .i64 s24)∧wx=w'))
 (G29:Field.Aside (∀wx,Bl W1 wx→Calls Tryz.prog 112 #[.int .i64 29,.int .i64 1,.pointer (some ⟨W.heap.size,0,none⟩)] wx fun e w'=>e=.returned (.int .i64 0)∧Bl wx w'))
 (G28:Field.Aside (∀wx,Bl W1 wx→Calls Tryz.prog 112 #[.int .i64 28,.int .i64 1,.pointer (some ⟨W.heap.size,0,none⟩)] wx fun e w'=>e=.returned (.int .i64 b28)∧Bl wx w'))
 (G24:Field.Aside (∀wx,Bl W1 wx→Calls Tryz.prog 112 #[.int .i64 24,.int .i64 4,.pointer (some ⟨W.heap.size,0,none⟩)] wx fun e w'=>e=.returned (.int .i64 fa)∧Bl wx w'))
 (G20:Field.Aside (∀wx,Bl W1 wx→Calls Tryz.prog 112 #[.int .i64 20,.int .i64 4,.pointer (some ⟨W.heap.size,0,none⟩)] wx fun e w'=>e=.returned (.int .i64 fb)∧Bl wx w'))
 (G16:Field.Aside (∀wx,Bl W1 wx→Calls Tryz.prog 112 #[.int .i64 16,.int .i64 4,.pointer (some ⟨W.heap.size,0,none⟩)] wx fun e w'=>e=.returned (.int .i64 fo)∧Bl wx w'))
 (G30:Field.Aside (∀wx,Bl W1 wx→Calls Tryz.prog 112 #[.int .i64 30,.int .i64 2,.pointer (some ⟨W.heap.size,0,none⟩)] wx fun e w'=>e=.returned (.int .i64 0)∧Bl wx w'))
 (G0:Field.Aside (∀wx,Bl W1 wx→Calls Tryz.prog 112 #[.int .i64 0,.int .i64 4,.pointer (some ⟨W.heap.size,0,none⟩)] wx fun e w'=>e=.returned (.int .i64 fc)∧Bl wx w'))
 (GI:Field.Aside (∀wx,Bl W1 wx→Calls Tryz.prog 112 #[.int .i64 0,.int .i64 16,.pointer (some ⟨W.heap.size,0,none⟩)] wx fun e w'=>e=.returned (.int .i64 fi)∧Bl wx w')) :
 Calls Tryz.prog 80 #[.int .u32 w] W fun e w'=>e=.returned (.agg #[.int .i64 1,.int .i64 fo,.int .i64 fa,.int .i64 fb,.int .i64 fc,.int .i64 0,.bool false])∧Bl W w':=by
 have hmf:∀(fn:Fn) (first cap:Array Value) (w:World),(Instr.makeFunc fn first cap).run Tryz.prog w=.ok (.func fn first cap) w:=fun _ _ _ _=>rfl;have HWB:Field.Aside (Bl W W1):=⟨⟨by have:=HW.out;subst this;exact (Below.refl _ _).alloc (Nat.le_refl _) _⟩⟩
 have hwc:W1.cell? ⟨W.heap.size,0,none⟩=some (.int .u32 w):=by rw [HW.out,World.cell?_alloc_at _ _ _ _ rfl];rfl
 have HWC:=Field.Aside.mk hwc;clear hwc;go_enter Tryz.func80,Tryz.ntmps80
 go_wp2_with fail
 rw [←HW.out];obtain ⟨Wz,hWz⟩:∃Wz,Wz=W1.alloc (.cells #[.int .i64 0,.int .i64 0,.int .i64 0,.int .i64 0,.int .i64 0,.int .i64 0,.bool false] 72):=⟨_,rfl⟩;rw [←hWz]
 have hsz:W1.heap.size=W.heap.size+1:=by rw [HW.out];simp
 have RZ:Field.Aside (IBox (W.heap.size+1) 0 0 0 0 0 0 false Wz):=⟨by rw [hWz,←hsz];exact IBox.new W1 0 0 0 0 0 0 false _⟩;have HZ1:Field.Aside (Bl W1 Wz):=⟨by rw [hWz];exact (Bl.refl _).alloc _⟩
 have hzs:W.heap.size+1<Wz.heap.size:=by rw [hWz];simp;omega
 have HSZ:=Field.Aside.mk hsz;clear hWz hsz;refine (G29.out _ (HZ1.out.then (Bl.refl Wz).out)).mono ?_;rintro e w2 ⟨rfl,k2⟩;have H2:Bl Wz w2:=Bl.then (Bl.refl Wz) k2.out;clear k2
 go_wp2_with fail
 refine (G28.out _ (HZ1.out.then H2.out)).mono ?_;rintro e w3 ⟨rfl,k3⟩;have H3:Bl Wz w3:=Bl.then H2 k3.out;clear k3
 go_wp2_with fail
 refine (G24.out _ (HZ1.out.then H3.out)).mono ?_;rintro e w4 ⟨rfl,k4⟩;have H4:Bl Wz w4:=Bl.then H3 k4.out;clear k4
 go_wp2_with fail
 refine (G20.out _ (HZ1.out.then H4.out)).mono ?_;rintro e w5 ⟨rfl,k5⟩;have H5:Bl Wz w5:=Bl.then H4 k5.out;clear k5
 go_wp2_with fail
 refine (G16.out _ (HZ1.out.then H5.out)).mono ?_;rintro e w6 ⟨rfl,k6⟩;have H6:Bl Wz w6:=Bl.then H5 k6.out;clear k6
 go_wp2_with fail
 have hg:Wz.heap.size≤w6.heap.size:=H6.out.size
 have hne:¬w6.heap.size=W.heap.size+1:=by omega
 have hne2:¬W.heap.size+1=w6.heap.size:=by omega
 refine (G30.out _ (HZ1.out.then (H6.alloc _).out)).mono ?_;rintro e w7 ⟨rfl,k7⟩;have H7:Bl Wz w7:=Bl.then (H6.alloc _) k7.out;have I7:=(IBox.new w6 0 fo fa fb 0 0 false 72).keep k7;obtain ⟨i0,i1,i2,i3,i4,i5,i6,fz⟩:=I7;clear k7
 go_wp2_with fail
 refine (G0.out _ (HZ1.out.then H7.out)).mono ?_;rintro e w8 ⟨rfl,k8⟩;have H8:Bl Wz w8:=Bl.then H7 k8.out;have I8:=(IBox.mk i0 i1 i2 i3 i4 i5 i6 fz).keep k8;clear i0 i1 i2 i3 i4 i5 i6 fz k8;obtain ⟨i0,i1,i2,i3,i4,i5,i6,fz⟩:=I8;obtain ⟨z0,z1,z2,z3,z4,z5,z6,zf⟩:=RZ.out.keep H8
 go_wp2_with fail
 refine bodyPost_ret (v:=.agg #[.int .i64 1,.int .i64 fo,.int .i64 fa,.int .i64 fb,.int .i64 fc,.int .i64 0,.bool false]) ?_ rfl ⟨rfl,?_⟩
 · simp only [results,Tryz.results80]
   go_simp
 · have hq:=HZ1.out.then H8.out
   have hs1:=HSZ.out;have hq2:Below W.heap.size W1 w8:=hq.out.mono (by omega);refine ⟨HWB.out.out.trans ?_⟩
   repeat (refine Below.setCell ?_ (by simp;try omega) _)
   exact hq2
set_option maxHeartbeats 30000000 in
theorem read_0b (w:Nat) (W W1:World) (b28 fa fb fo fc fi s20 s24:Int) (vB:Bool) (HW:Field.Aside (W1=W.alloc (.cells #[.int .u32 w] 56)))
 (_b0:0≤b28) (_b1:b28≤1) (_hv:(b28==1)=vB) (_c0:0≤fi) (_c1:fi≤65535) (_f0:(fo==0)=false)
 (_S20:Field.Aside (∀wx,Calls Tryz.prog 114 #[.int .u32 w,.int .i64 20] wx fun e w'=>e=.returned (.int .i64 s20)∧wx=w'))
 (_S24:Field.Aside (∀wx,Calls Tryz.prog 114 #[.int .u32 w,.int .i64 24] wx fun e w'=>e=.returned (.int .i64 s24)∧wx=w'))
 (G29:Field.Aside (∀wx,Bl W1 wx→Calls Tryz.prog 112 #[.int .i64 29,.int .i64 1,.pointer (some ⟨W.heap.size,0,none⟩)] wx fun e w'=>e=.returned (.int .i64 1)∧Bl wx w'))
 (G28:Field.Aside (∀wx,Bl W1 wx→Calls Tryz.prog 112 #[.int .i64 28,.int .i64 1,.pointer (some ⟨W.heap.size,0,none⟩)] wx fun e w'=>e=.returned (.int .i64 b28)∧Bl wx w'))
 (G24:Field.Aside (∀wx,Bl W1 wx→Calls Tryz.prog 112 #[.int .i64 24,.int .i64 4,.pointer (some ⟨W.heap.size,0,none⟩)] wx fun e w'=>e=.returned (.int .i64 fa)∧Bl wx w'))
 (G20:Field.Aside (∀wx,Bl W1 wx→Calls Tryz.prog 112 #[.int .i64 20,.int .i64 4,.pointer (some ⟨W.heap.size,0,none⟩)] wx fun e w'=>e=.returned (.int .i64 fb)∧Bl wx w'))
 (G16:Field.Aside (∀wx,Bl W1 wx→Calls Tryz.prog 112 #[.int .i64 16,.int .i64 4,.pointer (some ⟨W.heap.size,0,none⟩)] wx fun e w'=>e=.returned (.int .i64 fo)∧Bl wx w'))
 (G30:Field.Aside (∀wx,Bl W1 wx→Calls Tryz.prog 112 #[.int .i64 30,.int .i64 2,.pointer (some ⟨W.heap.size,0,none⟩)] wx fun e w'=>e=.returned (.int .i64 0)∧Bl wx w'))
 (G0:Field.Aside (∀wx,Bl W1 wx→Calls Tryz.prog 112 #[.int .i64 0,.int .i64 4,.pointer (some ⟨W.heap.size,0,none⟩)] wx fun e w'=>e=.returned (.int .i64 fc)∧Bl wx w'))
 (GI:Field.Aside (∀wx,Bl W1 wx→Calls Tryz.prog 112 #[.int .i64 0,.int .i64 16,.pointer (some ⟨W.heap.size,0,none⟩)] wx fun e w'=>e=.returned (.int .i64 fi)∧Bl wx w')) :
 Calls Tryz.prog 80 #[.int .u32 w] W fun e w'=>e=.returned (.agg #[.int .i64 1,.int .i64 fo,.int .i64 fa,.int .i64 fb,.int .i64 fc,.int .i64 0,.bool true])∧Bl W w':=by
 have hmf:∀(fn:Fn) (first cap:Array Value) (w:World),(Instr.makeFunc fn first cap).run Tryz.prog w=.ok (.func fn first cap) w:=fun _ _ _ _=>rfl;have HWB:Field.Aside (Bl W W1):=⟨⟨by have:=HW.out;subst this;exact (Below.refl _ _).alloc (Nat.le_refl _) _⟩⟩
 have hwc:W1.cell? ⟨W.heap.size,0,none⟩=some (.int .u32 w):=by rw [HW.out,World.cell?_alloc_at _ _ _ _ rfl];rfl
 have HWC:=Field.Aside.mk hwc;clear hwc;go_enter Tryz.func80,Tryz.ntmps80
 go_wp2_with fail
 rw [←HW.out];obtain ⟨Wz,hWz⟩:∃Wz,Wz=W1.alloc (.cells #[.int .i64 0,.int .i64 0,.int .i64 0,.int .i64 0,.int .i64 0,.int .i64 0,.bool false] 72):=⟨_,rfl⟩;rw [←hWz]
 have hsz:W1.heap.size=W.heap.size+1:=by rw [HW.out];simp
 have RZ:Field.Aside (IBox (W.heap.size+1) 0 0 0 0 0 0 false Wz):=⟨by rw [hWz,←hsz];exact IBox.new W1 0 0 0 0 0 0 false _⟩;have HZ1:Field.Aside (Bl W1 Wz):=⟨by rw [hWz];exact (Bl.refl _).alloc _⟩
 have hzs:W.heap.size+1<Wz.heap.size:=by rw [hWz];simp;omega
 have HSZ:=Field.Aside.mk hsz;clear hWz hsz;refine (G29.out _ (HZ1.out.then (Bl.refl Wz).out)).mono ?_;rintro e w2 ⟨rfl,k2⟩;have H2:Bl Wz w2:=Bl.then (Bl.refl Wz) k2.out;clear k2
 go_wp2_with fail
 refine (G28.out _ (HZ1.out.then H2.out)).mono ?_;rintro e w3 ⟨rfl,k3⟩;have H3:Bl Wz w3:=Bl.then H2 k3.out;clear k3
 go_wp2_with fail
 refine (G24.out _ (HZ1.out.then H3.out)).mono ?_;rintro e w4 ⟨rfl,k4⟩;have H4:Bl Wz w4:=Bl.then H3 k4.out;clear k4
 go_wp2_with fail
 refine (G20.out _ (HZ1.out.then H4.out)).mono ?_;rintro e w5 ⟨rfl,k5⟩;have H5:Bl Wz w5:=Bl.then H4 k5.out;clear k5
 go_wp2_with fail
 refine (G16.out _ (HZ1.out.then H5.out)).mono ?_;rintro e w6 ⟨rfl,k6⟩;have H6:Bl Wz w6:=Bl.then H5 k6.out;clear k6
 go_wp2_with fail
 have hg:Wz.heap.size≤w6.heap.size:=H6.out.size
 have hne:¬w6.heap.size=W.heap.size+1:=by omega
 have hne2:¬W.heap.size+1=w6.heap.size:=by omega
 refine (G30.out _ (HZ1.out.then (H6.alloc _).out)).mono ?_;rintro e w7 ⟨rfl,k7⟩;have H7:Bl Wz w7:=Bl.then (H6.alloc _) k7.out;have I7:=(IBox.new w6 0 fo fa fb 0 0 true 72).keep k7;obtain ⟨i0,i1,i2,i3,i4,i5,i6,fz⟩:=I7;clear k7
 go_wp2_with fail
 refine (G0.out _ (HZ1.out.then H7.out)).mono ?_;rintro e w8 ⟨rfl,k8⟩;have H8:Bl Wz w8:=Bl.then H7 k8.out;have I8:=(IBox.mk i0 i1 i2 i3 i4 i5 i6 fz).keep k8;clear i0 i1 i2 i3 i4 i5 i6 fz k8;obtain ⟨i0,i1,i2,i3,i4,i5,i6,fz⟩:=I8;obtain ⟨z0,z1,z2,z3,z4,z5,z6,zf⟩:=RZ.out.keep H8
 go_wp2_with fail
 refine bodyPost_ret (v:=.agg #[.int .i64 1,.int .i64 fo,.int .i64 fa,.int .i64 fb,.int .i64 fc,.int .i64 0,.bool true]) ?_ rfl ⟨rfl,?_⟩
 · simp only [results,Tryz.results80]
   go_simp
 · have hq:=HZ1.out.then H8.out
   have hs1:=HSZ.out;have hq2:Below W.heap.size W1 w8:=hq.out.mono (by omega);refine ⟨HWB.out.out.trans ?_⟩
   repeat (refine Below.setCell ?_ (by simp;try omega) _)
   exact hq2
set_option maxHeartbeats 30000000 in
theorem read_1a (w:Nat) (W W1:World) (b28 fa fb fo fc fi s20 s24:Int) (vB:Bool) (HW:Field.Aside (W1=W.alloc (.cells #[.int .u32 w] 56)))
 (_b0:0≤b28) (_b1:b28≤1) (_hv:(b28==1)=vB) (_c0:0≤fi) (_c1:fi≤65535)
 (_S20:Field.Aside (∀wx,Calls Tryz.prog 114 #[.int .u32 w,.int .i64 20] wx fun e w'=>e=.returned (.int .i64 s20)∧wx=w'))
 (_S24:Field.Aside (∀wx,Calls Tryz.prog 114 #[.int .u32 w,.int .i64 24] wx fun e w'=>e=.returned (.int .i64 s24)∧wx=w'))
 (G29:Field.Aside (∀wx,Bl W1 wx→Calls Tryz.prog 112 #[.int .i64 29,.int .i64 1,.pointer (some ⟨W.heap.size,0,none⟩)] wx fun e w'=>e=.returned (.int .i64 0)∧Bl wx w'))
 (G28:Field.Aside (∀wx,Bl W1 wx→Calls Tryz.prog 112 #[.int .i64 28,.int .i64 1,.pointer (some ⟨W.heap.size,0,none⟩)] wx fun e w'=>e=.returned (.int .i64 b28)∧Bl wx w'))
 (G24:Field.Aside (∀wx,Bl W1 wx→Calls Tryz.prog 112 #[.int .i64 24,.int .i64 4,.pointer (some ⟨W.heap.size,0,none⟩)] wx fun e w'=>e=.returned (.int .i64 fa)∧Bl wx w'))
 (G20:Field.Aside (∀wx,Bl W1 wx→Calls Tryz.prog 112 #[.int .i64 20,.int .i64 4,.pointer (some ⟨W.heap.size,0,none⟩)] wx fun e w'=>e=.returned (.int .i64 fb)∧Bl wx w'))
 (G16:Field.Aside (∀wx,Bl W1 wx→Calls Tryz.prog 112 #[.int .i64 16,.int .i64 4,.pointer (some ⟨W.heap.size,0,none⟩)] wx fun e w'=>e=.returned (.int .i64 fo)∧Bl wx w'))
 (G30:Field.Aside (∀wx,Bl W1 wx→Calls Tryz.prog 112 #[.int .i64 30,.int .i64 2,.pointer (some ⟨W.heap.size,0,none⟩)] wx fun e w'=>e=.returned (.int .i64 1)∧Bl wx w'))
 (G0:Field.Aside (∀wx,Bl W1 wx→Calls Tryz.prog 112 #[.int .i64 0,.int .i64 4,.pointer (some ⟨W.heap.size,0,none⟩)] wx fun e w'=>e=.returned (.int .i64 fc)∧Bl wx w'))
 (GI:Field.Aside (∀wx,Bl W1 wx→Calls Tryz.prog 112 #[.int .i64 0,.int .i64 16,.pointer (some ⟨W.heap.size,0,none⟩)] wx fun e w'=>e=.returned (.int .i64 fi)∧Bl wx w')) :
 Calls Tryz.prog 80 #[.int .u32 w] W fun e w'=>e=.returned (.agg #[.int .i64 2,.int .i64 fo,.int .i64 fa,.int .i64 fb,.int .i64 0,.int .i64 (fi - b28*65536),.bool false])∧Bl W w':=by
 have hmf:∀(fn:Fn) (first cap:Array Value) (w:World),(Instr.makeFunc fn first cap).run Tryz.prog w=.ok (.func fn first cap) w:=fun _ _ _ _=>rfl;have HWB:Field.Aside (Bl W W1):=⟨⟨by have:=HW.out;subst this;exact (Below.refl _ _).alloc (Nat.le_refl _) _⟩⟩
 have hwc:W1.cell? ⟨W.heap.size,0,none⟩=some (.int .u32 w):=by rw [HW.out,World.cell?_alloc_at _ _ _ _ rfl];rfl
 have HWC:=Field.Aside.mk hwc;clear hwc;go_enter Tryz.func80,Tryz.ntmps80
 go_wp2_with fail
 rw [←HW.out];obtain ⟨Wz,hWz⟩:∃Wz,Wz=W1.alloc (.cells #[.int .i64 0,.int .i64 0,.int .i64 0,.int .i64 0,.int .i64 0,.int .i64 0,.bool false] 72):=⟨_,rfl⟩;rw [←hWz]
 have hsz:W1.heap.size=W.heap.size+1:=by rw [HW.out];simp
 have RZ:Field.Aside (IBox (W.heap.size+1) 0 0 0 0 0 0 false Wz):=⟨by rw [hWz,←hsz];exact IBox.new W1 0 0 0 0 0 0 false _⟩;have HZ1:Field.Aside (Bl W1 Wz):=⟨by rw [hWz];exact (Bl.refl _).alloc _⟩
 have hzs:W.heap.size+1<Wz.heap.size:=by rw [hWz];simp;omega
 have HSZ:=Field.Aside.mk hsz;clear hWz hsz;refine (G29.out _ (HZ1.out.then (Bl.refl Wz).out)).mono ?_;rintro e w2 ⟨rfl,k2⟩;have H2:Bl Wz w2:=Bl.then (Bl.refl Wz) k2.out;clear k2
 go_wp2_with fail
 refine (G28.out _ (HZ1.out.then H2.out)).mono ?_;rintro e w3 ⟨rfl,k3⟩;have H3:Bl Wz w3:=Bl.then H2 k3.out;clear k3
 go_wp2_with fail
 refine (G24.out _ (HZ1.out.then H3.out)).mono ?_;rintro e w4 ⟨rfl,k4⟩;have H4:Bl Wz w4:=Bl.then H3 k4.out;clear k4
 go_wp2_with fail
 refine (G20.out _ (HZ1.out.then H4.out)).mono ?_;rintro e w5 ⟨rfl,k5⟩;have H5:Bl Wz w5:=Bl.then H4 k5.out;clear k5
 go_wp2_with fail
 refine (G16.out _ (HZ1.out.then H5.out)).mono ?_;rintro e w6 ⟨rfl,k6⟩;have H6:Bl Wz w6:=Bl.then H5 k6.out;clear k6
 go_wp2_with fail
 have hg:Wz.heap.size≤w6.heap.size:=H6.out.size
 have hne:¬w6.heap.size=W.heap.size+1:=by omega
 have hne2:¬W.heap.size+1=w6.heap.size:=by omega
 refine (G30.out _ (HZ1.out.then (H6.alloc _).out)).mono ?_;rintro e w7 ⟨rfl,k7⟩;have H7:Bl Wz w7:=Bl.then (H6.alloc _) k7.out;have I7:=(IBox.new w6 0 fo fa fb 0 0 false 72).keep k7;obtain ⟨i0,i1,i2,i3,i4,i5,i6,fz⟩:=I7;clear k7
 go_wp2_with fail
 refine (GI.out _ (HZ1.out.then H7.out)).mono ?_;rintro e w8 ⟨rfl,k8⟩;have H8:Bl Wz w8:=Bl.then H7 k8.out;have I8:=(IBox.mk i0 i1 i2 i3 i4 i5 i6 fz).keep k8;clear i0 i1 i2 i3 i4 i5 i6 fz k8;obtain ⟨i0,i1,i2,i3,i4,i5,i6,fz⟩:=I8
 go_wp2_with fail
 refine (G28.out _ (HZ1.out.then H8.out)).mono ?_;rintro e w9 ⟨rfl,k9⟩;have H9:Bl Wz w9:=Bl.then H8 k9.out;have I9:=(IBox.mk i0 i1 i2 i3 i4 i5 i6 fz).keep k9;clear i0 i1 i2 i3 i4 i5 i6 fz k9;obtain ⟨i0,i1,i2,i3,i4,i5,i6,fz⟩:=I9;obtain ⟨z0,z1,z2,z3,z4,z5,z6,zf⟩:=RZ.out.keep H9
 go_wp2_with fail
 refine bodyPost_ret (v:=.agg #[.int .i64 2,.int .i64 fo,.int .i64 fa,.int .i64 fb,.int .i64 0,.int .i64 (fi - b28*65536),.bool false]) ?_ rfl ⟨rfl,?_⟩
 · simp only [results,Tryz.results80]
   go_simp
 · have hq:=HZ1.out.then H9.out
   have hs1:=HSZ.out;have hq2:Below W.heap.size W1 w9:=hq.out.mono (by omega);refine ⟨HWB.out.out.trans ?_⟩
   repeat (refine Below.setCell ?_ (by simp;try omega) _)
   exact hq2
set_option maxHeartbeats 30000000 in
theorem read_1b (w:Nat) (W W1:World) (b28 fa fb fo fc fi s20 s24:Int) (vB:Bool) (HW:Field.Aside (W1=W.alloc (.cells #[.int .u32 w] 56)))
 (_b0:0≤b28) (_b1:b28≤1) (_hv:(b28==1)=vB) (_c0:0≤fi) (_c1:fi≤65535)
 (_S20:Field.Aside (∀wx,Calls Tryz.prog 114 #[.int .u32 w,.int .i64 20] wx fun e w'=>e=.returned (.int .i64 s20)∧wx=w'))
 (_S24:Field.Aside (∀wx,Calls Tryz.prog 114 #[.int .u32 w,.int .i64 24] wx fun e w'=>e=.returned (.int .i64 s24)∧wx=w'))
 (G29:Field.Aside (∀wx,Bl W1 wx→Calls Tryz.prog 112 #[.int .i64 29,.int .i64 1,.pointer (some ⟨W.heap.size,0,none⟩)] wx fun e w'=>e=.returned (.int .i64 1)∧Bl wx w'))
 (G28:Field.Aside (∀wx,Bl W1 wx→Calls Tryz.prog 112 #[.int .i64 28,.int .i64 1,.pointer (some ⟨W.heap.size,0,none⟩)] wx fun e w'=>e=.returned (.int .i64 b28)∧Bl wx w'))
 (G24:Field.Aside (∀wx,Bl W1 wx→Calls Tryz.prog 112 #[.int .i64 24,.int .i64 4,.pointer (some ⟨W.heap.size,0,none⟩)] wx fun e w'=>e=.returned (.int .i64 fa)∧Bl wx w'))
 (G20:Field.Aside (∀wx,Bl W1 wx→Calls Tryz.prog 112 #[.int .i64 20,.int .i64 4,.pointer (some ⟨W.heap.size,0,none⟩)] wx fun e w'=>e=.returned (.int .i64 fb)∧Bl wx w'))
 (G16:Field.Aside (∀wx,Bl W1 wx→Calls Tryz.prog 112 #[.int .i64 16,.int .i64 4,.pointer (some ⟨W.heap.size,0,none⟩)] wx fun e w'=>e=.returned (.int .i64 fo)∧Bl wx w'))
 (G30:Field.Aside (∀wx,Bl W1 wx→Calls Tryz.prog 112 #[.int .i64 30,.int .i64 2,.pointer (some ⟨W.heap.size,0,none⟩)] wx fun e w'=>e=.returned (.int .i64 1)∧Bl wx w'))
 (G0:Field.Aside (∀wx,Bl W1 wx→Calls Tryz.prog 112 #[.int .i64 0,.int .i64 4,.pointer (some ⟨W.heap.size,0,none⟩)] wx fun e w'=>e=.returned (.int .i64 fc)∧Bl wx w'))
 (GI:Field.Aside (∀wx,Bl W1 wx→Calls Tryz.prog 112 #[.int .i64 0,.int .i64 16,.pointer (some ⟨W.heap.size,0,none⟩)] wx fun e w'=>e=.returned (.int .i64 fi)∧Bl wx w')) :
 Calls Tryz.prog 80 #[.int .u32 w] W fun e w'=>e=.returned (.agg #[.int .i64 2,.int .i64 fo,.int .i64 fa,.int .i64 fb,.int .i64 0,.int .i64 (fi - b28*65536),.bool true])∧Bl W w':=by
 have hmf:∀(fn:Fn) (first cap:Array Value) (w:World),(Instr.makeFunc fn first cap).run Tryz.prog w=.ok (.func fn first cap) w:=fun _ _ _ _=>rfl;have HWB:Field.Aside (Bl W W1):=⟨⟨by have:=HW.out;subst this;exact (Below.refl _ _).alloc (Nat.le_refl _) _⟩⟩
 have hwc:W1.cell? ⟨W.heap.size,0,none⟩=some (.int .u32 w):=by rw [HW.out,World.cell?_alloc_at _ _ _ _ rfl];rfl
 have HWC:=Field.Aside.mk hwc;clear hwc;go_enter Tryz.func80,Tryz.ntmps80
 go_wp2_with fail
 rw [←HW.out];obtain ⟨Wz,hWz⟩:∃Wz,Wz=W1.alloc (.cells #[.int .i64 0,.int .i64 0,.int .i64 0,.int .i64 0,.int .i64 0,.int .i64 0,.bool false] 72):=⟨_,rfl⟩;rw [←hWz]
 have hsz:W1.heap.size=W.heap.size+1:=by rw [HW.out];simp
 have RZ:Field.Aside (IBox (W.heap.size+1) 0 0 0 0 0 0 false Wz):=⟨by rw [hWz,←hsz];exact IBox.new W1 0 0 0 0 0 0 false _⟩;have HZ1:Field.Aside (Bl W1 Wz):=⟨by rw [hWz];exact (Bl.refl _).alloc _⟩
 have hzs:W.heap.size+1<Wz.heap.size:=by rw [hWz];simp;omega
 have HSZ:=Field.Aside.mk hsz;clear hWz hsz;refine (G29.out _ (HZ1.out.then (Bl.refl Wz).out)).mono ?_;rintro e w2 ⟨rfl,k2⟩;have H2:Bl Wz w2:=Bl.then (Bl.refl Wz) k2.out;clear k2
 go_wp2_with fail
 refine (G28.out _ (HZ1.out.then H2.out)).mono ?_;rintro e w3 ⟨rfl,k3⟩;have H3:Bl Wz w3:=Bl.then H2 k3.out;clear k3
 go_wp2_with fail
 refine (G24.out _ (HZ1.out.then H3.out)).mono ?_;rintro e w4 ⟨rfl,k4⟩;have H4:Bl Wz w4:=Bl.then H3 k4.out;clear k4
 go_wp2_with fail
 refine (G20.out _ (HZ1.out.then H4.out)).mono ?_;rintro e w5 ⟨rfl,k5⟩;have H5:Bl Wz w5:=Bl.then H4 k5.out;clear k5
 go_wp2_with fail
 refine (G16.out _ (HZ1.out.then H5.out)).mono ?_;rintro e w6 ⟨rfl,k6⟩;have H6:Bl Wz w6:=Bl.then H5 k6.out;clear k6
 go_wp2_with fail
 have hg:Wz.heap.size≤w6.heap.size:=H6.out.size
 have hne:¬w6.heap.size=W.heap.size+1:=by omega
 have hne2:¬W.heap.size+1=w6.heap.size:=by omega
 refine (G30.out _ (HZ1.out.then (H6.alloc _).out)).mono ?_;rintro e w7 ⟨rfl,k7⟩;have H7:Bl Wz w7:=Bl.then (H6.alloc _) k7.out;have I7:=(IBox.new w6 0 fo fa fb 0 0 true 72).keep k7;obtain ⟨i0,i1,i2,i3,i4,i5,i6,fz⟩:=I7;clear k7
 go_wp2_with fail
 refine (GI.out _ (HZ1.out.then H7.out)).mono ?_;rintro e w8 ⟨rfl,k8⟩;have H8:Bl Wz w8:=Bl.then H7 k8.out;have I8:=(IBox.mk i0 i1 i2 i3 i4 i5 i6 fz).keep k8;clear i0 i1 i2 i3 i4 i5 i6 fz k8;obtain ⟨i0,i1,i2,i3,i4,i5,i6,fz⟩:=I8
 go_wp2_with fail
 refine (G28.out _ (HZ1.out.then H8.out)).mono ?_;rintro e w9 ⟨rfl,k9⟩;have H9:Bl Wz w9:=Bl.then H8 k9.out;have I9:=(IBox.mk i0 i1 i2 i3 i4 i5 i6 fz).keep k9;clear i0 i1 i2 i3 i4 i5 i6 fz k9;obtain ⟨i0,i1,i2,i3,i4,i5,i6,fz⟩:=I9;obtain ⟨z0,z1,z2,z3,z4,z5,z6,zf⟩:=RZ.out.keep H9
 go_wp2_with fail
 refine bodyPost_ret (v:=.agg #[.int .i64 2,.int .i64 fo,.int .i64 fa,.int .i64 fb,.int .i64 0,.int .i64 (fi - b28*65536),.bool true]) ?_ rfl ⟨rfl,?_⟩
 · simp only [results,Tryz.results80]
   go_simp
 · have hq:=HZ1.out.then H9.out
   have hs1:=HSZ.out;have hq2:Below W.heap.size W1 w9:=hq.out.mono (by omega);refine ⟨HWB.out.out.trans ?_⟩
   repeat (refine Below.setCell ?_ (by simp;try omega) _)
   exact hq2
set_option maxHeartbeats 30000000 in
theorem read_0c (w:Nat) (W W1:World) (b28 fa fb _fo fc fi s20 s24:Int) (vB:Bool) (HW:Field.Aside (W1=W.alloc (.cells #[.int .u32 w] 56)))
 (_b0:0≤b28) (_b1:b28≤1) (_hv:(b28==1)=vB) (_c0:0≤fi) (_c1:fi≤65535)
 (_S20:Field.Aside (∀wx,Calls Tryz.prog 114 #[.int .u32 w,.int .i64 20] wx fun e w'=>e=.returned (.int .i64 s20)∧wx=w'))
 (_S24:Field.Aside (∀wx,Calls Tryz.prog 114 #[.int .u32 w,.int .i64 24] wx fun e w'=>e=.returned (.int .i64 s24)∧wx=w'))
 (G29:Field.Aside (∀wx,Bl W1 wx→Calls Tryz.prog 112 #[.int .i64 29,.int .i64 1,.pointer (some ⟨W.heap.size,0,none⟩)] wx fun e w'=>e=.returned (.int .i64 1)∧Bl wx w'))
 (G28:Field.Aside (∀wx,Bl W1 wx→Calls Tryz.prog 112 #[.int .i64 28,.int .i64 1,.pointer (some ⟨W.heap.size,0,none⟩)] wx fun e w'=>e=.returned (.int .i64 b28)∧Bl wx w'))
 (G24:Field.Aside (∀wx,Bl W1 wx→Calls Tryz.prog 112 #[.int .i64 24,.int .i64 4,.pointer (some ⟨W.heap.size,0,none⟩)] wx fun e w'=>e=.returned (.int .i64 fa)∧Bl wx w'))
 (G20:Field.Aside (∀wx,Bl W1 wx→Calls Tryz.prog 112 #[.int .i64 20,.int .i64 4,.pointer (some ⟨W.heap.size,0,none⟩)] wx fun e w'=>e=.returned (.int .i64 fb)∧Bl wx w'))
 (G16:Field.Aside (∀wx,Bl W1 wx→Calls Tryz.prog 112 #[.int .i64 16,.int .i64 4,.pointer (some ⟨W.heap.size,0,none⟩)] wx fun e w'=>e=.returned (.int .i64 0)∧Bl wx w'))
 (G30:Field.Aside (∀wx,Bl W1 wx→Calls Tryz.prog 112 #[.int .i64 30,.int .i64 2,.pointer (some ⟨W.heap.size,0,none⟩)] wx fun e w'=>e=.returned (.int .i64 0)∧Bl wx w'))
 (G0:Field.Aside (∀wx,Bl W1 wx→Calls Tryz.prog 112 #[.int .i64 0,.int .i64 4,.pointer (some ⟨W.heap.size,0,none⟩)] wx fun e w'=>e=.returned (.int .i64 fc)∧Bl wx w'))
 (GI:Field.Aside (∀wx,Bl W1 wx→Calls Tryz.prog 112 #[.int .i64 0,.int .i64 16,.pointer (some ⟨W.heap.size,0,none⟩)] wx fun e w'=>e=.returned (.int .i64 fi)∧Bl wx w')) :
 Calls Tryz.prog 80 #[.int .u32 w] W fun e w'=>e=.returned (.agg #[.int .i64 (3+b28),.int .i64 0,.int .i64 fa,.int .i64 0,.int .i64 0,.int .i64 0,.bool false])∧Bl W w':=by
 have hmf:∀(fn:Fn) (first cap:Array Value) (w:World),(Instr.makeFunc fn first cap).run Tryz.prog w=.ok (.func fn first cap) w:=fun _ _ _ _=>rfl;have HWB:Field.Aside (Bl W W1):=⟨⟨by have:=HW.out;subst this;exact (Below.refl _ _).alloc (Nat.le_refl _) _⟩⟩
 have hwc:W1.cell? ⟨W.heap.size,0,none⟩=some (.int .u32 w):=by rw [HW.out,World.cell?_alloc_at _ _ _ _ rfl];rfl
 have HWC:=Field.Aside.mk hwc;clear hwc;go_enter Tryz.func80,Tryz.ntmps80
 go_wp2_with fail
 rw [←HW.out];obtain ⟨Wz,hWz⟩:∃Wz,Wz=W1.alloc (.cells #[.int .i64 0,.int .i64 0,.int .i64 0,.int .i64 0,.int .i64 0,.int .i64 0,.bool false] 72):=⟨_,rfl⟩;rw [←hWz]
 have hsz:W1.heap.size=W.heap.size+1:=by rw [HW.out];simp
 have RZ:Field.Aside (IBox (W.heap.size+1) 0 0 0 0 0 0 false Wz):=⟨by rw [hWz,←hsz];exact IBox.new W1 0 0 0 0 0 0 false _⟩;have HZ1:Field.Aside (Bl W1 Wz):=⟨by rw [hWz];exact (Bl.refl _).alloc _⟩
 have hzs:W.heap.size+1<Wz.heap.size:=by rw [hWz];simp;omega
 have HSZ:=Field.Aside.mk hsz;clear hWz hsz;refine (G29.out _ (HZ1.out.then (Bl.refl Wz).out)).mono ?_;rintro e w2 ⟨rfl,k2⟩;have H2:Bl Wz w2:=Bl.then (Bl.refl Wz) k2.out;clear k2
 go_wp2_with fail
 refine (G28.out _ (HZ1.out.then H2.out)).mono ?_;rintro e w3 ⟨rfl,k3⟩;have H3:Bl Wz w3:=Bl.then H2 k3.out;clear k3
 go_wp2_with fail
 refine (G24.out _ (HZ1.out.then H3.out)).mono ?_;rintro e w4 ⟨rfl,k4⟩;have H4:Bl Wz w4:=Bl.then H3 k4.out;clear k4
 go_wp2_with fail
 refine (G20.out _ (HZ1.out.then H4.out)).mono ?_;rintro e w5 ⟨rfl,k5⟩;have H5:Bl Wz w5:=Bl.then H4 k5.out;clear k5
 go_wp2_with fail
 refine (G16.out _ (HZ1.out.then H5.out)).mono ?_;rintro e w6 ⟨rfl,k6⟩;have H6:Bl Wz w6:=Bl.then H5 k6.out;clear k6
 go_wp2_with fail
 have hg:Wz.heap.size≤w6.heap.size:=H6.out.size
 have hne:¬w6.heap.size=W.heap.size+1:=by omega
 have hne2:¬W.heap.size+1=w6.heap.size:=by omega
 refine (G30.out _ (HZ1.out.then (H6.alloc _).out)).mono ?_;rintro e w7 ⟨rfl,k7⟩;have H7:Bl Wz w7:=Bl.then (H6.alloc _) k7.out;have I7:=(IBox.new w6 0 0 fa fb 0 0 true 72).keep k7;obtain ⟨i0,i1,i2,i3,i4,i5,i6,fz⟩:=I7;clear k7
 go_wp2_with fail
 refine (G0.out _ (HZ1.out.then H7.out)).mono ?_;rintro e w8 ⟨rfl,k8⟩;have H8:Bl Wz w8:=Bl.then H7 k8.out;have I8:=(IBox.mk i0 i1 i2 i3 i4 i5 i6 fz).keep k8;clear i0 i1 i2 i3 i4 i5 i6 fz k8;obtain ⟨i0,i1,i2,i3,i4,i5,i6,fz⟩:=I8
 go_wp2_with fail
 obtain ⟨w9,hw9⟩:∃w9,w9=(w8.setCell ⟨w6.heap.size,0,none⟩ (.int .i64 1)).setCell ⟨w6.heap.size,4,none⟩ (.int .i64 fc):=⟨_,rfl⟩;rw [←hw9]
 have H9:Bl Wz w9:=by rw [hw9];exact (H8.puts hg _).puts hg _
 have I9:IBox w6.heap.size 1 0 fa fb fc 0 true w9:=by rw [hw9];exact ((IBox.mk i0 i1 i2 i3 i4 i5 i6 fz).set0 1).set4 fc
 clear hw9 i0 i1 i2 i3 i4 i5 i6 fz;obtain ⟨i0,i1,i2,i3,i4,i5,i6,fz⟩:=I9;have HB:=Field.Aside.mk H9;have J:=Field.Aside.mk (IBox.mk i0 i1 i2 i3 i4 i5 i6 fz);have B0:Bl w9 w9:=Bl.refl _;obtain ⟨z0,z1,z2,z3,z4,z5,z6,zf⟩:=RZ.out.keep H9;have hwc:=(HZ1.out.then H9.out).cell HWC.out
 first | go_region_with (first | (go_at_call 112;(with_reducible refine (G28.out _ ?_).mono ?_);exact HZ1.out.then (Bl.out (by first | assumption | (apply Bl.drew;assumption)));rintro e wn ⟨rfl,kn⟩;have BN:Bl w9 wn:=Bl.then (by first | assumption | (apply Bl.drew;assumption)) kn.out;have HN:Bl Wz wn:=HB.out.then BN.out;clear kn;obtain ⟨i0,i1,i2,i3,i4,i5,i6,fz⟩:=J.out.keep BN;obtain ⟨z0,z1,z2,z3,z4,z5,z6,zf⟩:=RZ.out.keep HN;have hwc:=(HZ1.out.then HN.out).cell HWC.out)) | fail "region"
 all_goals (try go_wp2_with (first | (go_at_call 112;(with_reducible refine (G28.out _ ?_).mono ?_);exact HZ1.out.then (Bl.out (by first | assumption | (apply Bl.drew;assumption)));rintro e wn ⟨rfl,kn⟩;have BN:Bl wb wn:=Bl.then (by first | assumption | (apply Bl.drew;assumption)) kn.out;have HN:Bl Wz wn:=HB.out.then BN.out;clear kn;obtain ⟨i0,i1,i2,i3,i4,i5,i6,fz⟩:=J.out.keep BN;obtain ⟨z0,z1,z2,z3,z4,z5,z6,zf⟩:=RZ.out.keep HN;have hwc:=(HZ1.out.then HN.out).cell HWC.out)))
 all_goals (refine bodyPost_ret (v:=.agg #[.int .i64 (3+b28),.int .i64 0,.int .i64 fa,.int .i64 0,.int .i64 0,.int .i64 0,.bool false]) ?_ rfl ⟨rfl,?_⟩)
 all_goals first | (simp only [results,Tryz.results80];go_simp;done) | skip
 all_goals (refine ⟨HWB.out.out.trans ?_⟩)
 all_goals (repeat (refine Below.setCell ?_ (by have:=HSZ.out;simp;try omega) _))
 all_goals (have hs1:=HSZ.out)
 all_goals exact (HZ1.out.then (Bl.out (by first | assumption | (apply Bl.drew;assumption)))).out.mono (by omega)
set_option maxHeartbeats 30000000 in
theorem read_3a (w:Nat) (W W1:World) (b28 fa fb fo fc fi s20 s24:Int) (vB:Bool) (HW:Field.Aside (W1=W.alloc (.cells #[.int .u32 w] 56)))
 (_b0:0≤b28) (_b1:b28≤1) (_hv:(b28==1)=vB) (_c0:0≤fi) (_c1:fi≤65535)
 (_S20:Field.Aside (∀wx,Calls Tryz.prog 114 #[.int .u32 w,.int .i64 20] wx fun e w'=>e=.returned (.int .i64 s20)∧wx=w'))
 (_S24:Field.Aside (∀wx,Calls Tryz.prog 114 #[.int .u32 w,.int .i64 24] wx fun e w'=>e=.returned (.int .i64 s24)∧wx=w'))
 (G29:Field.Aside (∀wx,Bl W1 wx→Calls Tryz.prog 112 #[.int .i64 29,.int .i64 1,.pointer (some ⟨W.heap.size,0,none⟩)] wx fun e w'=>e=.returned (.int .i64 0)∧Bl wx w'))
 (G28:Field.Aside (∀wx,Bl W1 wx→Calls Tryz.prog 112 #[.int .i64 28,.int .i64 1,.pointer (some ⟨W.heap.size,0,none⟩)] wx fun e w'=>e=.returned (.int .i64 b28)∧Bl wx w'))
 (G24:Field.Aside (∀wx,Bl W1 wx→Calls Tryz.prog 112 #[.int .i64 24,.int .i64 4,.pointer (some ⟨W.heap.size,0,none⟩)] wx fun e w'=>e=.returned (.int .i64 fa)∧Bl wx w'))
 (G20:Field.Aside (∀wx,Bl W1 wx→Calls Tryz.prog 112 #[.int .i64 20,.int .i64 4,.pointer (some ⟨W.heap.size,0,none⟩)] wx fun e w'=>e=.returned (.int .i64 fb)∧Bl wx w'))
 (G16:Field.Aside (∀wx,Bl W1 wx→Calls Tryz.prog 112 #[.int .i64 16,.int .i64 4,.pointer (some ⟨W.heap.size,0,none⟩)] wx fun e w'=>e=.returned (.int .i64 fo)∧Bl wx w'))
 (G30:Field.Aside (∀wx,Bl W1 wx→Calls Tryz.prog 112 #[.int .i64 30,.int .i64 2,.pointer (some ⟨W.heap.size,0,none⟩)] wx fun e w'=>e=.returned (.int .i64 3)∧Bl wx w'))
 (G0:Field.Aside (∀wx,Bl W1 wx→Calls Tryz.prog 112 #[.int .i64 0,.int .i64 4,.pointer (some ⟨W.heap.size,0,none⟩)] wx fun e w'=>e=.returned (.int .i64 fc)∧Bl wx w'))
 (GI:Field.Aside (∀wx,Bl W1 wx→Calls Tryz.prog 112 #[.int .i64 0,.int .i64 16,.pointer (some ⟨W.heap.size,0,none⟩)] wx fun e w'=>e=.returned (.int .i64 fi)∧Bl wx w')) :
 Calls Tryz.prog 80 #[.int .u32 w] W fun e w'=>e=.returned (.agg #[.int .i64 6,.int .i64 fa,.int .i64 0,.int .i64 0,.int .i64 fc,.int .i64 0,.bool vB])∧Bl W w':=by
 have hmf:∀(fn:Fn) (first cap:Array Value) (w:World),(Instr.makeFunc fn first cap).run Tryz.prog w=.ok (.func fn first cap) w:=fun _ _ _ _=>rfl;have HWB:Field.Aside (Bl W W1):=⟨⟨by have:=HW.out;subst this;exact (Below.refl _ _).alloc (Nat.le_refl _) _⟩⟩
 have hwc:W1.cell? ⟨W.heap.size,0,none⟩=some (.int .u32 w):=by rw [HW.out,World.cell?_alloc_at _ _ _ _ rfl];rfl
 have HWC:=Field.Aside.mk hwc;clear hwc;go_enter Tryz.func80,Tryz.ntmps80
 go_wp2_with fail
 rw [←HW.out];obtain ⟨Wz,hWz⟩:∃Wz,Wz=W1.alloc (.cells #[.int .i64 0,.int .i64 0,.int .i64 0,.int .i64 0,.int .i64 0,.int .i64 0,.bool false] 72):=⟨_,rfl⟩;rw [←hWz]
 have hsz:W1.heap.size=W.heap.size+1:=by rw [HW.out];simp
 have RZ:Field.Aside (IBox (W.heap.size+1) 0 0 0 0 0 0 false Wz):=⟨by rw [hWz,←hsz];exact IBox.new W1 0 0 0 0 0 0 false _⟩;have HZ1:Field.Aside (Bl W1 Wz):=⟨by rw [hWz];exact (Bl.refl _).alloc _⟩
 have hzs:W.heap.size+1<Wz.heap.size:=by rw [hWz];simp;omega
 have HSZ:=Field.Aside.mk hsz;clear hWz hsz;refine (G29.out _ (HZ1.out.then (Bl.refl Wz).out)).mono ?_;rintro e w2 ⟨rfl,k2⟩;have H2:Bl Wz w2:=Bl.then (Bl.refl Wz) k2.out;clear k2
 go_wp2_with fail
 refine (G28.out _ (HZ1.out.then H2.out)).mono ?_;rintro e w3 ⟨rfl,k3⟩;have H3:Bl Wz w3:=Bl.then H2 k3.out;clear k3
 go_wp2_with fail
 refine (G24.out _ (HZ1.out.then H3.out)).mono ?_;rintro e w4 ⟨rfl,k4⟩;have H4:Bl Wz w4:=Bl.then H3 k4.out;clear k4
 go_wp2_with fail
 refine (G20.out _ (HZ1.out.then H4.out)).mono ?_;rintro e w5 ⟨rfl,k5⟩;have H5:Bl Wz w5:=Bl.then H4 k5.out;clear k5
 go_wp2_with fail
 refine (G16.out _ (HZ1.out.then H5.out)).mono ?_;rintro e w6 ⟨rfl,k6⟩;have H6:Bl Wz w6:=Bl.then H5 k6.out;clear k6
 go_wp2_with fail
 have hg:Wz.heap.size≤w6.heap.size:=H6.out.size
 have hne:¬w6.heap.size=W.heap.size+1:=by omega
 have hne2:¬W.heap.size+1=w6.heap.size:=by omega
 refine (G30.out _ (HZ1.out.then (H6.alloc _).out)).mono ?_;rintro e w7 ⟨rfl,k7⟩;have H7:Bl Wz w7:=Bl.then (H6.alloc _) k7.out;have I7:=(IBox.new w6 0 fo fa fb 0 0 false 72).keep k7;obtain ⟨i0,i1,i2,i3,i4,i5,i6,fz⟩:=I7;clear k7
 go_wp2_with fail
 have HB:=Field.Aside.mk H7;have J:=Field.Aside.mk (IBox.mk i0 i1 i2 i3 i4 i5 i6 fz);have B0:Bl w7 w7:=Bl.refl _;obtain ⟨z0,z1,z2,z3,z4,z5,z6,zf⟩:=RZ.out.keep H7;have hwc:=(HZ1.out.then H7.out).cell HWC.out
 first | go_region_with (first | (go_at_call 112;(with_reducible refine (G0.out _ ?_).mono ?_);exact HZ1.out.then (Bl.out (by first | assumption | (apply Bl.drew;assumption)));rintro e wn ⟨rfl,kn⟩;have BN:Bl w7 wn:=Bl.then (by first | assumption | (apply Bl.drew;assumption)) kn.out;have HN:Bl Wz wn:=HB.out.then BN.out;clear kn;obtain ⟨i0,i1,i2,i3,i4,i5,i6,fz⟩:=J.out.keep BN;obtain ⟨z0,z1,z2,z3,z4,z5,z6,zf⟩:=RZ.out.keep HN;have hwc:=(HZ1.out.then HN.out).cell HWC.out)) | fail "region"
 all_goals (try go_wp2_with (first | (go_at_call 112;(with_reducible refine (G0.out _ ?_).mono ?_);exact HZ1.out.then (Bl.out (by first | assumption | (apply Bl.drew;assumption)));rintro e wn ⟨rfl,kn⟩;have BN:Bl wb wn:=Bl.then (by first | assumption | (apply Bl.drew;assumption)) kn.out;have HN:Bl Wz wn:=HB.out.then BN.out;clear kn;obtain ⟨i0,i1,i2,i3,i4,i5,i6,fz⟩:=J.out.keep BN;obtain ⟨z0,z1,z2,z3,z4,z5,z6,zf⟩:=RZ.out.keep HN;have hwc:=(HZ1.out.then HN.out).cell HWC.out)))
 all_goals (refine bodyPost_ret (v:=.agg #[.int .i64 6,.int .i64 fa,.int .i64 0,.int .i64 0,.int .i64 fc,.int .i64 0,.bool vB]) ?_ rfl ⟨rfl,?_⟩)
 all_goals first | (simp only [results,Tryz.results80];go_simp;done) | skip
 all_goals (refine ⟨HWB.out.out.trans ?_⟩)
 all_goals (repeat (refine Below.setCell ?_ (by have:=HSZ.out;simp;try omega) _))
 all_goals (have hs1:=HSZ.out)
 all_goals exact (HZ1.out.then (Bl.out (by first | assumption | (apply Bl.drew;assumption)))).out.mono (by omega)
end Go.Proofs.YtjmiaemabhlnjaaGreatDoor.Isa
end
