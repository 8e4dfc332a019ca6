/- A part of the proof of TopShifts. -/
import Derived.Test.YtjmiaemabhlnjaaGreatDoorR7
import Derived.Deep.RegionWith
import Derived.Deep.RegionHeld3
import Derived.Deep.DeepCutAuto
section
set_option linter.all false
set_option maxRecDepth 20000
namespace Go.Proofs.YtjmiaemabhlnjaaGreatDoor.Isa
open Go.RowKit Go.Proofs.YtjmiaemabhlnjaaGreatDoor.FieldM Go.Proofs.YtjmiaemabhlnjaaGreatDoor.Field
theorem IBox.all {g:Nat} {kd op a b c im:Int} {u:Bool} {w:World} (h:IBox g kd op a b c im u w) (kd' op' a' b' c' im':Int) (u':Bool) :
 IBox g kd' op' a' b' c' im' u' (((((((w.setCell ⟨g,0,none⟩ (.int .i64 kd')).setCell ⟨g,1,none⟩ (.int .i64 op')).setCell ⟨g,2,none⟩ (.int .i64 a')).setCell ⟨g,3,none⟩ (.int .i64 b')).setCell ⟨g,4,none⟩ (.int .i64 c')).setCell ⟨g,5,none⟩ (.int .i64 im')).setCell ⟨g,6,none⟩ (.bool u')):=by
 obtain ⟨h0,h1,h2,h3,h4,h5,h6,fz⟩:=h;exact ⟨by go_simp,by go_simp,by go_simp,by go_simp,by go_simp,by go_simp,by go_simp,fun j=>by simp [World.frozen?_setCell,fz]⟩
set_option maxHeartbeats 8000000 in
theorem read_3b (w:Nat) (W W1:World) (b28 fa fb fo fc fi s20 s24:Int) (vB:Bool) (HW:Field.Aside (W1=W.alloc (.cells #[.int .u32 w] 56)))
 (_b0:0≤b28) (_b1:b28≤1) (_hv:(b28==1)=vB) (_c0:0≤fi) (_c1:fi≤65535)
 (_S20:Field.Aside (∀wx,Calls Tryz.prog 114 #[.int .u32 w,.int .i64 20] wx fun e w'=>e=.returned (.int .i64 s20)∧wx=w'))
 (_S24:Field.Aside (∀wx,Calls Tryz.prog 114 #[.int .u32 w,.int .i64 24] wx fun e w'=>e=.returned (.int .i64 s24)∧wx=w'))
 (G29:Field.Aside (∀wx,Bl W1 wx→Calls Tryz.prog 112 #[.int .i64 29,.int .i64 1,.pointer (some ⟨W.heap.size,0,none⟩)] wx fun e w'=>e=.returned (.int .i64 1)∧Bl wx w'))
 (G28:Field.Aside (∀wx,Bl W1 wx→Calls Tryz.prog 112 #[.int .i64 28,.int .i64 1,.pointer (some ⟨W.heap.size,0,none⟩)] wx fun e w'=>e=.returned (.int .i64 b28)∧Bl wx w'))
 (G24:Field.Aside (∀wx,Bl W1 wx→Calls Tryz.prog 112 #[.int .i64 24,.int .i64 4,.pointer (some ⟨W.heap.size,0,none⟩)] wx fun e w'=>e=.returned (.int .i64 fa)∧Bl wx w'))
 (G20:Field.Aside (∀wx,Bl W1 wx→Calls Tryz.prog 112 #[.int .i64 20,.int .i64 4,.pointer (some ⟨W.heap.size,0,none⟩)] wx fun e w'=>e=.returned (.int .i64 fb)∧Bl wx w'))
 (G16:Field.Aside (∀wx,Bl W1 wx→Calls Tryz.prog 112 #[.int .i64 16,.int .i64 4,.pointer (some ⟨W.heap.size,0,none⟩)] wx fun e w'=>e=.returned (.int .i64 fo)∧Bl wx w'))
 (G30:Field.Aside (∀wx,Bl W1 wx→Calls Tryz.prog 112 #[.int .i64 30,.int .i64 2,.pointer (some ⟨W.heap.size,0,none⟩)] wx fun e w'=>e=.returned (.int .i64 3)∧Bl wx w'))
 (G0:Field.Aside (∀wx,Bl W1 wx→Calls Tryz.prog 112 #[.int .i64 0,.int .i64 4,.pointer (some ⟨W.heap.size,0,none⟩)] wx fun e w'=>e=.returned (.int .i64 fc)∧Bl wx w'))
 (GI:Field.Aside (∀wx,Bl W1 wx→Calls Tryz.prog 112 #[.int .i64 0,.int .i64 16,.pointer (some ⟨W.heap.size,0,none⟩)] wx fun e w'=>e=.returned (.int .i64 fi)∧Bl wx w')) :
 Calls Tryz.prog 80 #[.int .u32 w] W fun e w'=>e=.returned (.agg #[.int .i64 7,.int .i64 fa,.int .i64 0,.int .i64 0,.int .i64 0,.int .i64 s24,.bool vB])∧Bl W w':=by
 have hmf:∀(fn:Fn) (first cap:Array Value) (w:World),(Instr.makeFunc fn first cap).run Tryz.prog w=.ok (.func fn first cap) w:=fun _ _ _ _=>rfl;have HWB:Field.Aside (Bl W W1):=⟨⟨by have:=HW.out;subst this;exact (Below.refl _ _).alloc (Nat.le_refl _) _⟩⟩
 have hwc:W1.cell? ⟨W.heap.size,0,none⟩=some (.int .u32 w):=by rw [HW.out,World.cell?_alloc_at _ _ _ _ rfl];rfl
 have HWC:=Field.Aside.mk hwc;clear hwc;go_enter Tryz.func80,Tryz.ntmps80
 go_wp2_with fail
 rw [←HW.out];obtain ⟨Wz,hWz⟩:∃Wz,Wz=W1.alloc (.cells #[.int .i64 0,.int .i64 0,.int .i64 0,.int .i64 0,.int .i64 0,.int .i64 0,.bool false] 72):=⟨_,rfl⟩;rw [←hWz]
 have hsz:W1.heap.size=W.heap.size+1:=by rw [HW.out];simp
 have RZ:Field.Aside (IBox (W.heap.size+1) 0 0 0 0 0 0 false Wz):=⟨by rw [hWz,←hsz];exact IBox.new W1 0 0 0 0 0 0 false _⟩;have HZ1:Field.Aside (Bl W1 Wz):=⟨by rw [hWz];exact (Bl.refl _).alloc _⟩
 have hzs:W.heap.size+1<Wz.heap.size:=by rw [hWz];simp;omega
 have HSZ:=Field.Aside.mk hsz;clear hWz hsz;refine (G29.out _ (HZ1.out.then (Bl.refl Wz).out)).mono ?_;rintro e w2 ⟨rfl,k2⟩;have H2:Bl Wz w2:=Bl.then (Bl.refl Wz) k2.out;clear k2
 go_wp2_with fail
 refine (G28.out _ (HZ1.out.then H2.out)).mono ?_;rintro e w3 ⟨rfl,k3⟩;have H3:Bl Wz w3:=Bl.then H2 k3.out;clear k3
 go_wp2_with fail
 refine (G24.out _ (HZ1.out.then H3.out)).mono ?_;rintro e w4 ⟨rfl,k4⟩;have H4:Bl Wz w4:=Bl.then H3 k4.out;clear k4
 go_wp2_with fail
 refine (G20.out _ (HZ1.out.then H4.out)).mono ?_;rintro e w5 ⟨rfl,k5⟩;have H5:Bl Wz w5:=Bl.then H4 k5.out;clear k5
 go_wp2_with fail
 refine (G16.out _ (HZ1.out.then H5.out)).mono ?_;rintro e w6 ⟨rfl,k6⟩;have H6:Bl Wz w6:=Bl.then H5 k6.out;clear k6
 go_wp2_with fail
 have hg:Wz.heap.size≤w6.heap.size:=H6.out.size
 have hne:¬w6.heap.size=W.heap.size+1:=by omega
 have hne2:¬W.heap.size+1=w6.heap.size:=by omega
 refine (G30.out _ (HZ1.out.then (H6.alloc _).out)).mono ?_;rintro e w7 ⟨rfl,k7⟩;have H7:Bl Wz w7:=Bl.then (H6.alloc _) k7.out;have I7:=(IBox.new w6 0 fo fa fb 0 0 true 72).keep k7;obtain ⟨i0,i1,i2,i3,i4,i5,i6,fz⟩:=I7;clear k7
 go_wp2_with fail
 have HB:=Field.Aside.mk H7;have J:=Field.Aside.mk (IBox.mk i0 i1 i2 i3 i4 i5 i6 fz);have B0:Bl w7 w7:=Bl.refl _;obtain ⟨z0,z1,z2,z3,z4,z5,z6,zf⟩:=RZ.out.keep H7;have hwc:=(HZ1.out.then H7.out).cell HWC.out
 go_cut [] (fun wx=>Bl Wz wx∧IBox w6.heap.size 6 fa 0 0 fc 0 vB wx)
 case first =>
  first | go_region_with (first | (go_at_call 112;(with_reducible refine (G0.out _ ?_).mono ?_);exact HZ1.out.then (Bl.out (by first | with_reducible assumption | (apply Bl.drew;with_reducible assumption)));rintro e wn ⟨rfl,kn⟩;have BN:Bl w7 wn:=Bl.then (by first | with_reducible assumption | (apply Bl.drew;with_reducible assumption)) kn.out;have HN:Bl Wz wn:=HB.out.then BN.out;clear kn;obtain ⟨i0,i1,i2,i3,i4,i5,i6,fz⟩:=J.out.keep BN;obtain ⟨z0,z1,z2,z3,z4,z5,z6,zf⟩:=RZ.out.keep HN;have hwc:=(HZ1.out.then HN.out).cell HWC.out)) | fail "region"
  all_goals (try go_wp2_with fail)
  all_goals go_meet
  all_goals (refine ⟨?_,(IBox.mk i0 i1 i2 i3 i4 i5 i6 fz).all 6 fa 0 0 fc 0 vB⟩)
  all_goals (repeat (refine Bl.puts ?_ hg _))
  all_goals with_reducible assumption
 case rest =>
  obtain ⟨HQ,i0,i1,i2,i3,i4,i5,i6,fz⟩:=hcut;obtain ⟨z0,z1,z2,z3,z4,z5,z6,zf⟩:=RZ.out.keep HQ;have hwc:=(HZ1.out.then HQ.out).cell HWC.out
  go_wp2_with fail
  refine (_S24.out _).mono ?_;rintro e wn ⟨rfl,rfl⟩
  go_wp2_with fail
  refine bodyPost_ret (v:=.agg #[.int .i64 7,.int .i64 fa,.int .i64 0,.int .i64 0,.int .i64 0,.int .i64 s24,.bool vB]) ?_ rfl ⟨rfl,?_⟩
  · simp only [results,Tryz.results80]
    go_simp
  · have hq:=HZ1.out.then HQ.out
    have hs1:=HSZ.out;have hq2:Below W.heap.size W1 wc:=hq.out.mono (by omega);refine ⟨HWB.out.out.trans ?_⟩
    repeat (refine Below.setCell ?_ (by simp;try omega) _)
    exact hq2
end Go.Proofs.YtjmiaemabhlnjaaGreatDoor.Isa
end
