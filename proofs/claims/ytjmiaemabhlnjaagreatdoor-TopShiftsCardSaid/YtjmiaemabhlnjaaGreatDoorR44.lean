/- A part of the proof of TopShifts. -/
import Derived.Test.YtjmiaemabhlnjaaGreatDoorR43
import Derived.Test.YtjmiaemabhlnjaaGreatDoorR26
import Derived.Deep.RegionHeld3
section
set_option linter.all false
set_option maxRecDepth 20000
namespace Go.Proofs.YtjmiaemabhlnjaaGreatDoor.Chains.Shifts
open Go Go.RowKit Go.Proofs.YtjmiaemabhlnjaaGreatDoor.Chains
theorem rdw_rd {w:World} {A:Option Addr} {c:Nat} {l:List Int} (h:Rd w A c l) (hl:∀x∈l,0≤x∧x<4294967296):RdW w A c (l.map Int.toNat)∧∀x∈l.map Int.toNat,x<4294967296 :=
 ⟨⟨by simpa using h.le,h.mx,fun e=>by obtain ⟨h1,h2⟩:=h.nil e;exact ⟨by rw [h1];rfl,h2⟩,fun ad ha j x hx=>by
   rw [List.getElem?_map] at hx
   cases hq:l[j]? with
   | none=>rw [hq] at hx;cases hx
   | some z =>
     rw [hq] at hx;obtain rfl:=Option.some.inj hx;have:=(hl z (List.mem_of_getElem? hq)).1
     rw [h.cells ad ha j z hq,Int.toNat_of_nonneg this]⟩,fun x hx=>by
   obtain ⟨y,hy,rfl⟩:=List.mem_map.1 hx;have:=hl y hy
   omega⟩
set_option maxHeartbeats 8000000 in
theorem tshifts_any {W:World} {A B N:Option Addr} {c lb cb cn:Nat} {l:List Int} {b:List Nat} {nm:List ByteArray} (n nn:Nat)
 (hshown:Aside (∀wx,Bl W wx→Calls Tryz.prog 7 #[] wx fun e w'=>e=.returned (.bool true)∧Bl wx w'))
 (hA:Aside (Rd W A c l)) (hn:Aside (l.length=n)) (hlow:Aside (∀x∈l,0≤x∧x<4294967296)) (h63:n≤9223372036854775807)
 (hl:Aside (b.length=lb)) (hlc:lb≤cb) (h63b:lb≤9223372036854775807) (hb:Aside (∀ad,B=some ad→∀(i x:Nat),b[i]? = some x→W.cell? (ad.add i)=some (.int .u8 (x:Int)))) (hnil:Aside (B=none→lb=0)) (h256:Aside (∀x∈b,x<256))
 (hN:Aside (RdN W N cn nm)) (hnn:Aside (nm.length=nn)) (hns:Aside (∀x∈nm,x.size≤140737488355328))
 (xb xm:Int) (fl:Nat) {XA:Option Addr} {xn xc:Nat} {xl:List Int} (hX:Rd W XA xc xl) (hxn:xl.length=xn) (h63x:xn≤9223372036854775807) (hxl:∀x∈xl,0≤x∧x<4294967296) (hfl:fl<256)
 (yb ym fl2:Int) {YA:Option Addr} {yn yc:Nat} {yl:List Int} (hY:Rd W YA yc yl) (hyn:yl.length=yn) (h63y:yn≤9223372036854775807) :
 Calls Tryz.prog 3 #[.agg #[.slice A n c,.slice B lb cb,.slice N nn cn],.agg #[.int .i64 xb,.int .i64 xm,.slice XA xn xc,.int .u8 (fl:Int)],.agg #[.int .i64 yb,.int .i64 ym,.slice YA yn yc,.int .u8 fl2]] W fun e w'=>e=.returned (.bool true)∧Bl W w':=by
 obtain ⟨W0,hW0⟩:∃W0,((W.alloc (.cells #[.slice A n c,.slice B lb cb,.slice N nn cn] 26)).alloc (.cells #[.int .i64 xb,.int .i64 xm,.slice XA xn xc,.int .u8 (fl:Int)] 28)).alloc (.cells #[.int .i64 yb,.int .i64 ym,.slice YA yn yc,.int .u8 fl2] 28)=W0:=⟨_,rfl⟩;have B0:=Aside.mk (show Bl W W0 by rw [←hW0];exact (((Bl.refl W).alloc _).alloc _).alloc _);have BX:=Aside.mk (show Box W0 W.heap.size (.slice A n c) (.slice B lb cb) (.slice N nn cn) by rw [←hW0];exact (Box.new W _ _ _ 26).keep (((Bl.refl _).alloc _).alloc _))
 have X0:=Aside.mk (show Whr W0 (W.heap.size+1) xb xm (fl:Int) XA xn xc by
  rw [←hW0]
  have e:(W.alloc (.cells #[.slice A n c,.slice B lb cb,.slice N nn cn] 26)).heap.size=W.heap.size+1:=by simp
  refine Whr.keep (w:=(W.alloc (.cells #[.slice A n c,.slice B lb cb,.slice N nn cn] 26)).alloc (.cells #[.int .i64 xb,.int .i64 xm,.slice XA xn xc,.int .u8 (fl:Int)] 28)) ⟨?_⟩ ((Bl.refl _).alloc _)
  rw [←e];exact heap_alloc_new _ _)
 have Y0:=Aside.mk (show Whr W0 (W.heap.size+1+1) yb ym fl2 YA yn yc by
  rw [←hW0]
  have e:((W.alloc (.cells #[.slice A n c,.slice B lb cb,.slice N nn cn] 26)).alloc (.cells #[.int .i64 xb,.int .i64 xm,.slice XA xn xc,.int .u8 (fl:Int)] 28)).heap.size=W.heap.size+1+1:=by simp
  exact ⟨by rw [←e];exact heap_alloc_new _ _⟩)
 have H7:Aside (∀wx,Bl W0 wx→Calls Tryz.prog 7 #[] wx fun e w'=>e=.returned (.bool true)∧Bl wx w'):=⟨fun wx h=>hshown.out wx (B0.out.trans h)⟩
 have H9:Aside (∀wx,Bl W0 wx→Calls Tryz.prog 9 #[.slice A n c,.slice B lb cb,.slice N nn cn] wx fun e w'=>FitPost wx e w') :=
  ⟨fun wx h=>fitS_any n nn ⟨(hA.out.keep B0.out).keep h⟩ hn hlow h63 hl.out hlc h63b (fun ad ha i x hx=>h.cell (B0.out.cell (hb.out ad ha i x hx))) hnil.out h256.out ⟨(hN.out.keep B0.out).keep h⟩ hnn hns⟩
 have XR:=Aside.mk (rdw_rd (hX.keep B0.out) hxl);have YL:=Aside.mk (show yn≤yc∧(YA=none→yn=0∧yc=0) from ⟨by rw [←hyn];exact hY.le,fun e=>by obtain ⟨h1,h2⟩:=hY.nil e;rw [h1] at hyn;exact ⟨hyn.symm,h2⟩⟩);have XN:=Aside.mk (show (xl.map Int.toNat).length=xn by simpa using hxn)
 have KS:=Aside.mk (fun (w':World) (q:Bl W0 w')=>(show (w'.cell? ⟨W.heap.size,0,none⟩=some (.slice A n c)∧w'.cell? ⟨W.heap.size,1,none⟩=some (.slice B lb cb)∧w'.cell? ⟨W.heap.size,2,none⟩=some (.slice N nn cn))∧(w'.cell? ⟨W.heap.size+1,0,none⟩=some (.int .i64 xb)∧w'.cell? ⟨W.heap.size+1,1,none⟩=some (.int .i64 xm)∧w'.cell? ⟨W.heap.size+1,2,none⟩=some (.slice XA xn xc)∧w'.cell? ⟨W.heap.size+1,3,none⟩=some (.int .u8 (fl:Int)))∧(w'.cell? ⟨W.heap.size+1+1,0,none⟩=some (.int .i64 yb)∧w'.cell? ⟨W.heap.size+1+1,1,none⟩=some (.int .i64 ym)∧w'.cell? ⟨W.heap.size+1+1,2,none⟩=some (.slice YA yn yc)∧w'.cell? ⟨W.heap.size+1+1,3,none⟩=some (.int .u8 fl2)) from
  ⟨⟨(BX.out.keep q).c0,(BX.out.keep q).c1,(BX.out.keep q).c2⟩,(X0.out.keep q).cs,(Y0.out.keep q).cs⟩))
 clear hshown hA hlow hl hb hnil h256 hN hns hX hY hxl hxn hyn;go_enter Tryz.func3,Tryz.ntmps3
 go_wp2_with (first
  | (go_at_call 7;(with_reducible refine (H7.out _ (Bl.refl _)).mono ?_);rintro e w1 ⟨rfl,hb1⟩
     have HB1:=Aside.mk hb1
     clear hb1)
  | fail)
 go_region_held3 (fun w'=>(w'.cell? ⟨W.heap.size,0,none⟩=some (.slice A n c)∧w'.cell? ⟨W.heap.size,1,none⟩=some (.slice B lb cb)∧w'.cell? ⟨W.heap.size,2,none⟩=some (.slice N nn cn))∧(w'.cell? ⟨W.heap.size+1,0,none⟩=some (.int .i64 xb)∧w'.cell? ⟨W.heap.size+1,1,none⟩=some (.int .i64 xm)∧w'.cell? ⟨W.heap.size+1,2,none⟩=some (.slice XA xn xc)∧w'.cell? ⟨W.heap.size+1,3,none⟩=some (.int .u8 (fl:Int)))∧(w'.cell? ⟨W.heap.size+1+1,0,none⟩=some (.int .i64 yb)∧w'.cell? ⟨W.heap.size+1+1,1,none⟩=some (.int .i64 ym)∧w'.cell? ⟨W.heap.size+1+1,2,none⟩=some (.slice YA yn yc)∧w'.cell? ⟨W.heap.size+1+1,3,none⟩=some (.int .u8 fl2)))
  ((first
    | exact KS.out _ HB3.out
    | exact KS.out _ HB2.out
    | exact KS.out _ HB1.out.drew))
  (first
    | (go_at_call 9;((with_reducible refine (H9.out _ HB1.out.drew).mono ?_);rintro e w2 ⟨g,m,cap,D,d,ms,S,E,f,k,Y,lw,rfl,hrd,hlen,hm40,hri,hms,hrise,hsm,hrs,hky,hk8,hup,hgd,hlo,hbl⟩)
       have HB2:=Aside.mk (HB1.out.drew.trans hbl);have H8:=Aside.mk (shifts_any ⟨hrd,hlen,hm40,hri,hms,hrise,hsm,hrs,hky,hk8,hup,hgd,hlo⟩ xb xm fl (XR.out.1.keep HB2.out) XN.out h63x XR.out.2 hfl yb ym fl2 YL.out.1 YL.out.2 h63y)
       clear hrd hlen hm40 hri hms hrise hsm hrs hky hk8 hup hgd hlo hbl)
    | (go_at_call 8;((with_reducible refine H8.out.mono ?_);rintro e w3 ⟨rfl,hb3⟩)
       have HB3:=Aside.mk (HB2.out.trans hb3)
       clear hb3))
 go_wp2;go_ret;exact ⟨rfl,B0.out.trans HB3.out⟩
end Go.Proofs.YtjmiaemabhlnjaaGreatDoor.Chains.Shifts
end
