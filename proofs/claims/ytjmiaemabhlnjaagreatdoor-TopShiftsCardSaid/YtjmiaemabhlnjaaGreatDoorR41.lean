/- A part of the proof of TopShifts. -/
import Derived.Test.YtjmiaemabhlnjaaGreatDoorR25
import Derived.Deep.QuietTactic
import Derived.Deep.RegionHeld3
import Derived.Deep.MidRow
import Derived.Test.YtjmiaemabhlnjaaGreatDoorR27
import Derived.Test.YtjmiaemabhlnjaaGreatDoorR28
import Derived.Test.YtjmiaemabhlnjaaGreatDoorR29
import Derived.Test.YtjmiaemabhlnjaaGreatDoorR30
import Derived.Test.YtjmiaemabhlnjaaGreatDoorR31
import Derived.Test.YtjmiaemabhlnjaaGreatDoorR32
import Derived.Test.YtjmiaemabhlnjaaGreatDoorR33
import Derived.Test.YtjmiaemabhlnjaaGreatDoorR34
import Derived.Test.YtjmiaemabhlnjaaGreatDoorR35
import Derived.Test.YtjmiaemabhlnjaaGreatDoorR36
import Derived.Test.YtjmiaemabhlnjaaGreatDoorR37
import Derived.Test.YtjmiaemabhlnjaaGreatDoorR38
import Derived.Test.YtjmiaemabhlnjaaGreatDoorR39
import Derived.Test.YtjmiaemabhlnjaaGreatDoorR40
section
set_option linter.all false
set_option maxRecDepth 20000
namespace Go.Proofs.YtjmiaemabhlnjaaGreatDoor.Chains.Shifts
open Go Go.RowKit Go.Proofs.YtjmiaemabhlnjaaGreatDoor.Chains
section
variable {w:World} {t:TG} {ad:Addr} {n c:Nat} {i:I} {s:RS}
set_option maxHeartbeats 16000000 in
theorem feed_5b_2 (hR:t.R.length=16) (hW:RdB w ad c t.W) (hn:t.W.length=n) (hn40:n≤40) (hs:s.Ok) (ho:IOk i) {base words:Nat} (hk:i.kd=5) (hbt:tagR t i.b=true) (hbase:base≤124) (hwn:words=n) (hop:i.op=2) (hr:base≤((reg s i.b+word32 i.im)%4294967296)∧((reg s i.b+word32 i.im)%4294967296)<base+4*words) {U:TG×Bool} (hU:((({t with W:=t.W.set ((((reg s i.b+word32 i.im)%4294967296) - base) / 4) (tagR t i.a)}:TG),true):TG×Bool)=U) :
 Calls Tryz.prog 24 #[.agg (tgV t (.slice (some ad) n c)),.agg (iV i),.agg s.arr,.int .i64 (base:Int),.int .i64 (words:Int)] w fun e w'=>FdPost w n U e w':=by
 have HU:=Aside.mk hU;clear hU;obtain ⟨j0,hj,hj0,hj1,hj2⟩:=info_parts infoB;obtain ⟨w0,hw0,F0,B0,HZ0,HT,HW,HN,HO,hnc,hb0,hb1,hc0,hc1,ha0,ha1,ha17,ha18,ha16⟩:=feed_pre (s:=s) hR hW hn ho
 have hkd:(i.kd:Int)=5:=by omega
 have hopi:(i.op:Int)=2:=by omega
 have HOPI:=Aside.mk hopi;obtain ⟨bb,hbb⟩:∃bb,tagR t i.b=bb:=⟨_,rfl⟩;obtain ⟨cc,hcc⟩:∃cc,tagR t i.c=cc:=⟨_,rfl⟩;obtain ⟨aa,haa⟩:∃aa,tagR t i.a=aa:=⟨_,rfl⟩;obtain ⟨uu,huu⟩:∃uu,i.u=uu:=⟨_,rfl⟩;obtain ⟨nz,hnz⟩:∃nz,t.NZ=nz:=⟨_,rfl⟩;obtain ⟨cv,hcv⟩:∃cv,t.CV=cv:=⟨_,rfl⟩;have HBB:=Aside.mk hbb;have HCC:=Aside.mk hcc;have HAA:=Aside.mk haa;have HUU:=Aside.mk huu;have HNZ:=Aside.mk hnz;have HCV:=Aside.mk hcv
 clear hbb hcc haa huu hnz hcv
 have hat:((reg s i.b:Int)+i.im%4294967296)%4294967296=((((reg s i.b+word32 i.im)%4294967296):Nat):Int):=by unfold word32;omega
 have hal:((reg s i.b+word32 i.im)%4294967296)<4294967296:=Nat.mod_lt _ (by decide);obtain ⟨AT,hAT⟩:∃AT,((reg s i.b+word32 i.im)%4294967296)=AT:=⟨_,rfl⟩;have HAT:=Aside.mk hAT;rw [hAT] at hat hal;obtain ⟨XB,hXB⟩:∃XB,reg s i.b=XB:=⟨_,rfl⟩;have HXB:=Aside.mk hXB;rw [hXB] at hat;have HOS:=Aside.mk hs;clear hAT hXB;rw [HAT.out] at hr
 have e2:IntKind.i64.wrap (4*(words:Int))=4*(words:Int):=by simp [IntKind.wrap,IntKind.bits,IntKind.signed];omega
 have e3:wrap64 (4*(words:Int))=4*(words:Int):=by simp [wrap64,IntKind.wrap,IntKind.bits,IntKind.signed];omega
 have e4:(AT:Int)%18446744073709551616=(AT:Int):=by omega
 obtain rfl:bb=true:=by rw [←HBB.out];exact hbt
 clear hbt;obtain ⟨DD,hDD⟩:∃DD,AT - base=DD:=⟨_,rfl⟩
 have hD:((AT:Int) - (base:Int))=(DD:Int):=by omega
 have e1:IntKind.i64.wrap ((AT:Int) - (base:Int))=(DD:Int):=by simp [IntKind.wrap,IntKind.bits,IntKind.signed];omega
 have g1:¬((DD:Int)<0):=by omega
 have g2:¬(4*(words:Int)≤(DD:Int)):=by omega
 have g3:¬(4*words≤DD):=by omega
 obtain ⟨kk,hkk⟩:∃kk,DD / 4=kk:=⟨_,rfl⟩
 have e5:(DD:Int).tdiv 4=(kk:Int):=by rw [Int.tdiv_eq_ediv_of_nonneg (by omega)];omega
 have e6:(DD:Int) / 4=(kk:Int):=by omega
 have hkn:kk<n:=by omega
 have hk0:(0:Int)≤(kk:Int):=by omega
 have hk1:(kk:Int)<(n:Int):=by omega
 have HKK:Aside (((((reg s i.b+word32 i.im)%4294967296) - base) / 4)=kk):=⟨by rw [HAT.out,hDD];exact hkk⟩;obtain ⟨wk,hwk⟩:∃wk,t.W.getD kk false=wk:=⟨_,rfl⟩;have HWK:=Aside.mk hwk
 have hwk':t.W[kk]? = some wk:=by rw [←hwk,List.getD_eq_getElem?_getD,List.getElem?_eq_getElem (by omega)];rfl
 have HWC:=Aside.mk (hW.cells kk wk hwk');clear hDD hkk hwk hwk' hD hr;clear hW ho;go_enter Tryz.func24,Tryz.ntmps24
 go_wp2_with (first
  | (refine wpList_load_row rfl 62 (.tmp 5) rfl w.heap.size rfl 62 (tgV t (.slice (some ad) n c)) (0,0) _ F0.out.tb.h Tryz.underlying62 rfl HT.out.1 ?_)
  | (refine wpList_store_row rfl 62 (.tmp 12) (.tmp 22) rfl w0.heap.size (tgV t (.slice (some ad) n c)) rfl rfl 62 _ (heap_alloc_new w0 _) HT.out.1 (by rw [HT.out.2.1];rfl) HT.out.2.2 ?_
     rw [World.setRow_alloc_new];obtain ⟨w1,hw1,B1,O1,F1,c16,c17,c18,f16,l1,l2⟩:=feed_w1 hR F0;rw [hw1]
     clear hw1)
  | (at_builtin
     refine wpList_append_own_at _ rfl (.tmp 23) (.tmp 25) 59 rfl w1.heap.size 4 j0 (.bool false) 1 1 Tryz.underlying59 hj hj0 hj1 hj2 rfl (by decide) (.slice (some ⟨w1.heap.size,0,none⟩) 0 0) 0 (bv []) rfl (own_madeB w1 w1.heap.size (Nat.le_refl _)) ad n c (bv t.W) rfl (by simp [bv,HN.out]) (((HW.out.keep B0.out).keep (B1.out.alloc _)).vals) (bv_one _) (by unfold maxLen;omega) (by omega) (by simp) ?_
     intro v2 w2 hown hgrow hnil hloc;have B2:=Aside.mk (show Bl w1 w2 from ((Bl.refl w1).alloc (.cells #[] 4)).grow hgrow (fun g e=>by obtain rfl:=Option.some.inj e;exact Nat.le_refl _));obtain ⟨r,c2,rfl,g16,d16,d17,d18,w3,hw3,HF3,B3,⟨i0,i1,i2,i3,i4,i5,i6⟩,rb,rc,ra,⟨t16,t17,t18⟩,oa,⟨o16,o17,o18⟩,of⟩:=feed_w3 B0 HZ0 HO B1 O1 F1 B2.out (by simpa [bv] using hown) (fun e=>by have:=(hnil.1 e).1;cases this)
     rw [hopi] at i1;rw [hkd] at i0;rw [HBB.out] at rb;rw [HCC.out] at rc;rw [HAA.out] at ra oa;rw [HUU.out] at i6;rw [HNZ.out] at t17 o17;rw [HCV.out] at t18 o18;have sb:=reg_cell2 HF3.out.fw.rb HOS.out HO.out.b;rw [HXB.out] at sb;have hlb:=HWC.out
     have wc:(w2.setCell ⟨w0.heap.size,16,none⟩ (.slice (some ⟨r,0,none⟩) n c2)).cell? (ad.add kk)=some (.bool wk):=by rw [hw3];exact B3.out.cell HWC.out
     rw [hw3] at wc;have WC:=Aside.mk wc;clear hlb
     clear hown hgrow hnil hloc c16 c17 c18 f16 l1 l2)
  )
 go_quiet (fail)
 have HF3q:=Aside.mk (HF3.out.keep (Bl.dN (n:=nq) (Bl.refl _)));have B3q:=Aside.mk (B3.out.dN (n:=nq))
 go_wp2_with fail
 have NE:=Aside.mk (show w.heap.size+1≠w0.heap.size∧w.heap.size≠w0.heap.size∧ad.block≠w0.heap.size from ⟨by have:=HZ0.out;omega,by have:=HZ0.out;omega,by have q:=World.block_lt_of_cell? w _ HWC.out;rw [add_block] at q;have:=HZ0.out;omega⟩);have NR:=Aside.mk (show w.heap.size+1≠r∧w.heap.size≠r∧ad.block≠r∧w0.heap.size≠r∧w.heap.size≤r∧(ad.add kk).block≠w.heap.size+3 from ⟨by have:=HF3.out.gr;omega,by have:=HF3.out.gr;omega,by have q:=World.block_lt_of_cell? w _ HWC.out;rw [add_block] at q;have:=HF3.out.gr;omega,fun e=>HF3.out.ro e.symm,by have:=HF3.out.gr;omega,by have q:=World.block_lt_of_cell? w _ HWC.out;omega⟩)
 have I2:=Aside.mk i2;have O16:=Aside.mk o16;have RA:=Aside.mk ra;obtain ⟨rk,rf⟩:=HF3.out.ow.at (j:=kk) (x:=wk) (by rw [←HWK.out,List.getD_eq_getElem?_getD,List.getElem?_eq_getElem (by have:=HN.out;omega)];rfl);have nc2:n≤c2:=HF3.out.ow.le
 go_region_held3 (fun w'=>w'.cell? ⟨w.heap.size+1,2,none⟩=some (.int .i64 (i.a:Int))∧w'.cell? ⟨w0.heap.size,16,none⟩=some (.slice (some ⟨r,0,none⟩) n c2)∧w'.cell? ⟨w.heap.size,i.a,none⟩=some (.bool aa)) ((first | exact keepC ((Bl.dN (Bl.refl _)).cell I2.out) ((Bl.dN (Bl.refl _)).cell O16.out) ((Bl.dN (Bl.refl _)).cell RA.out) | exact keepC (cell_off ((Bl.dN (Bl.refl _)).cell I2.out) NR.out.1 _ _) (cell_off ((Bl.dN (Bl.refl _)).cell O16.out) NR.out.2.2.2.1 _ _) (cell_off ((Bl.dN (Bl.refl _)).cell RA.out) NR.out.2.1 _ _))) (fail)
 obtain ⟨TX,hTX⟩:∃TX:TG,({t with W:=t.W.set kk aa}:TG)=TX:=⟨_,rfl⟩;obtain ⟨w4,hw4⟩:∃w4,(w3.drewN (nq+1)).setCell ⟨r,kk,none⟩ (.bool aa)=w4:=⟨_,rfl⟩;have HF4:Aside (FO w4 w.heap.size w0.heap.size r n c2 t ad c i s TX):=⟨by rw [←hTX,←hw4];exact (HF3.out.keep (Bl.dN (n:=nq+1) (Bl.refl _))).putW kk aa⟩;have B4:Aside (Bl w w4):=⟨by rw [←hw4];exact (B3.out.dN (n:=nq+1)).puts (p:=⟨r,kk,none⟩) NR.out.2.2.2.2.1 (.bool aa)⟩
 rw [hw4];have HTX:=Aside.mk (tgL_hi HF4.out.tb.len (.slice (some ⟨r,0,none⟩) n c2));have HST:=Aside.mk ((HF4.out.keep (Bl.refl _).drew).st);clear hw4;have HTXE:=Aside.mk hTX;clear hTX
 go_wp2_with (first
  | (refine wpList_load_row rfl 62 (.tmp 12) rfl w0.heap.size rfl 62 (tgV TX (.slice (some ⟨r,0,none⟩) n c2)) (0,0) _ HF4.out.tb.h Tryz.underlying62 rfl HF4.out.rw.1 ?_)
  | (refine wpList_store_row rfl 62 (.tmp 10) (.tmp 352) rfl (w.heap.size+3) (tgV TX (.slice (some ⟨r,0,none⟩) n c2)) rfl rfl 62 _ HF4.out.fw.zb HF4.out.rw.1 (by rw [HF4.out.rw.2.1];rfl) HF4.out.rw.2.2 ?_))
 refine bodyPost_ret (results_row_tmp rfl _ _ (w.heap.size+3) 62 (tgV TX (.slice (some ⟨r,0,none⟩) n c2)) (0,0) _ rfl (setRow_heap _ _ _ _ _ (0,0) HF4.out.fw.zb) Tryz.underlying62 rfl HF4.out.rw.1) rfl ?_;refine fdp2 r c2 _ TX rfl ?_ ?_ (HF4.out.fin _) ⟨below_setRow B4.out.out (by omega) _⟩
 · rw [←HTXE.out,←HU.out]
   all_goals show ((({t with W:=t.W.set ((((reg s i.b+word32 i.im)%4294967296) - base) / 4) (tagR t i.a)}:TG),true):TG×Bool).1=_
   try rw [HKK.out]
   try rw [HAA.out]
   try rfl
 · rw [←HU.out]
   all_goals show ((({t with W:=t.W.set ((((reg s i.b+word32 i.im)%4294967296) - base) / 4) (tagR t i.a)}:TG),true):TG×Bool).2=_
   try rw [HKK.out]
   try rw [HAA.out]
   try rfl
end
section
variable {w:World} {t:TG} {ad:Addr} {n c:Nat} {i:I} {s:RS}
set_option maxHeartbeats 16000000 in
theorem feed_5b_3 (hR:t.R.length=16) (hW:RdB w ad c t.W) (hn:t.W.length=n) (hn40:n≤40) (hs:s.Ok) (ho:IOk i) {base words:Nat} (hk:i.kd=5) (hbt:tagR t i.b=true) (hbase:base≤124) (hwn:words=n) (hop:i.op=3) (hr:base≤((reg s i.b+word32 i.im)%4294967296)∧((reg s i.b+word32 i.im)%4294967296)<base+4*words) {U:TG×Bool} (hU:((t,!(t.W.getD ((((reg s i.b+word32 i.im)%4294967296) - base) / 4) false) && !tagR t i.a):TG×Bool)=U) :
 Calls Tryz.prog 24 #[.agg (tgV t (.slice (some ad) n c)),.agg (iV i),.agg s.arr,.int .i64 (base:Int),.int .i64 (words:Int)] w fun e w'=>FdPost w n U e w':=by
 have HU:=Aside.mk hU;clear hU;obtain ⟨j0,hj,hj0,hj1,hj2⟩:=info_parts infoB;obtain ⟨w0,hw0,F0,B0,HZ0,HT,HW,HN,HO,hnc,hb0,hb1,hc0,hc1,ha0,ha1,ha17,ha18,ha16⟩:=feed_pre (s:=s) hR hW hn ho
 have hkd:(i.kd:Int)=5:=by omega
 have hopi:(i.op:Int)=3:=by omega
 have HOPI:=Aside.mk hopi;obtain ⟨bb,hbb⟩:∃bb,tagR t i.b=bb:=⟨_,rfl⟩;obtain ⟨cc,hcc⟩:∃cc,tagR t i.c=cc:=⟨_,rfl⟩;obtain ⟨aa,haa⟩:∃aa,tagR t i.a=aa:=⟨_,rfl⟩;obtain ⟨uu,huu⟩:∃uu,i.u=uu:=⟨_,rfl⟩;obtain ⟨nz,hnz⟩:∃nz,t.NZ=nz:=⟨_,rfl⟩;obtain ⟨cv,hcv⟩:∃cv,t.CV=cv:=⟨_,rfl⟩;have HBB:=Aside.mk hbb;have HCC:=Aside.mk hcc;have HAA:=Aside.mk haa;have HUU:=Aside.mk huu;have HNZ:=Aside.mk hnz;have HCV:=Aside.mk hcv
 clear hbb hcc haa huu hnz hcv
 have hat:((reg s i.b:Int)+i.im%4294967296)%4294967296=((((reg s i.b+word32 i.im)%4294967296):Nat):Int):=by unfold word32;omega
 have hal:((reg s i.b+word32 i.im)%4294967296)<4294967296:=Nat.mod_lt _ (by decide);obtain ⟨AT,hAT⟩:∃AT,((reg s i.b+word32 i.im)%4294967296)=AT:=⟨_,rfl⟩;have HAT:=Aside.mk hAT;rw [hAT] at hat hal;obtain ⟨XB,hXB⟩:∃XB,reg s i.b=XB:=⟨_,rfl⟩;have HXB:=Aside.mk hXB;rw [hXB] at hat;have HOS:=Aside.mk hs;clear hAT hXB;rw [HAT.out] at hr
 have e2:IntKind.i64.wrap (4*(words:Int))=4*(words:Int):=by simp [IntKind.wrap,IntKind.bits,IntKind.signed];omega
 have e3:wrap64 (4*(words:Int))=4*(words:Int):=by simp [wrap64,IntKind.wrap,IntKind.bits,IntKind.signed];omega
 have e4:(AT:Int)%18446744073709551616=(AT:Int):=by omega
 obtain rfl:bb=true:=by rw [←HBB.out];exact hbt
 clear hbt;obtain ⟨DD,hDD⟩:∃DD,AT - base=DD:=⟨_,rfl⟩
 have hD:((AT:Int) - (base:Int))=(DD:Int):=by omega
 have e1:IntKind.i64.wrap ((AT:Int) - (base:Int))=(DD:Int):=by simp [IntKind.wrap,IntKind.bits,IntKind.signed];omega
 have g1:¬((DD:Int)<0):=by omega
 have g2:¬(4*(words:Int)≤(DD:Int)):=by omega
 have g3:¬(4*words≤DD):=by omega
 obtain ⟨kk,hkk⟩:∃kk,DD / 4=kk:=⟨_,rfl⟩
 have e5:(DD:Int).tdiv 4=(kk:Int):=by rw [Int.tdiv_eq_ediv_of_nonneg (by omega)];omega
 have e6:(DD:Int) / 4=(kk:Int):=by omega
 have hkn:kk<n:=by omega
 have hk0:(0:Int)≤(kk:Int):=by omega
 have hk1:(kk:Int)<(n:Int):=by omega
 have HKK:Aside (((((reg s i.b+word32 i.im)%4294967296) - base) / 4)=kk):=⟨by rw [HAT.out,hDD];exact hkk⟩;obtain ⟨wk,hwk⟩:∃wk,t.W.getD kk false=wk:=⟨_,rfl⟩;have HWK:=Aside.mk hwk
 have hwk':t.W[kk]? = some wk:=by rw [←hwk,List.getD_eq_getElem?_getD,List.getElem?_eq_getElem (by omega)];rfl
 have HWC:=Aside.mk (hW.cells kk wk hwk');clear hDD hkk hwk hwk' hD hr;clear hW ho;go_enter Tryz.func24,Tryz.ntmps24
 go_wp2_with (first
  | (refine wpList_load_row rfl 62 (.tmp 5) rfl w.heap.size rfl 62 (tgV t (.slice (some ad) n c)) (0,0) _ F0.out.tb.h Tryz.underlying62 rfl HT.out.1 ?_)
  | (refine wpList_store_row rfl 62 (.tmp 12) (.tmp 22) rfl w0.heap.size (tgV t (.slice (some ad) n c)) rfl rfl 62 _ (heap_alloc_new w0 _) HT.out.1 (by rw [HT.out.2.1];rfl) HT.out.2.2 ?_
     rw [World.setRow_alloc_new];obtain ⟨w1,hw1,B1,O1,F1,c16,c17,c18,f16,l1,l2⟩:=feed_w1 hR F0;rw [hw1]
     clear hw1)
  | (at_builtin
     refine wpList_append_own_at _ rfl (.tmp 23) (.tmp 25) 59 rfl w1.heap.size 4 j0 (.bool false) 1 1 Tryz.underlying59 hj hj0 hj1 hj2 rfl (by decide) (.slice (some ⟨w1.heap.size,0,none⟩) 0 0) 0 (bv []) rfl (own_madeB w1 w1.heap.size (Nat.le_refl _)) ad n c (bv t.W) rfl (by simp [bv,HN.out]) (((HW.out.keep B0.out).keep (B1.out.alloc _)).vals) (bv_one _) (by unfold maxLen;omega) (by omega) (by simp) ?_
     intro v2 w2 hown hgrow hnil hloc;have B2:=Aside.mk (show Bl w1 w2 from ((Bl.refl w1).alloc (.cells #[] 4)).grow hgrow (fun g e=>by obtain rfl:=Option.some.inj e;exact Nat.le_refl _));obtain ⟨r,c2,rfl,g16,d16,d17,d18,w3,hw3,HF3,B3,⟨i0,i1,i2,i3,i4,i5,i6⟩,rb,rc,ra,⟨t16,t17,t18⟩,oa,⟨o16,o17,o18⟩,of⟩:=feed_w3 B0 HZ0 HO B1 O1 F1 B2.out (by simpa [bv] using hown) (fun e=>by have:=(hnil.1 e).1;cases this)
     rw [hopi] at i1;rw [hkd] at i0;rw [HBB.out] at rb;rw [HCC.out] at rc;rw [HAA.out] at ra oa;rw [HUU.out] at i6;rw [HNZ.out] at t17 o17;rw [HCV.out] at t18 o18;have sb:=reg_cell2 HF3.out.fw.rb HOS.out HO.out.b;rw [HXB.out] at sb;have hlb:=HWC.out
     have wc:(w2.setCell ⟨w0.heap.size,16,none⟩ (.slice (some ⟨r,0,none⟩) n c2)).cell? (ad.add kk)=some (.bool wk):=by rw [hw3];exact B3.out.cell HWC.out
     rw [hw3] at wc;have WC:=Aside.mk wc;clear hlb
     clear hown hgrow hnil hloc c16 c17 c18 f16 l1 l2)
  )
 go_quiet (fail)
 have HF3q:=Aside.mk (HF3.out.keep (Bl.dN (n:=nq) (Bl.refl _)));have B3q:=Aside.mk (B3.out.dN (n:=nq))
 go_wp2_with fail
 have NE:=Aside.mk (show w.heap.size+1≠w0.heap.size∧w.heap.size≠w0.heap.size∧ad.block≠w0.heap.size from ⟨by have:=HZ0.out;omega,by have:=HZ0.out;omega,by have q:=World.block_lt_of_cell? w _ HWC.out;rw [add_block] at q;have:=HZ0.out;omega⟩);have NR:=Aside.mk (show w.heap.size+1≠r∧w.heap.size≠r∧ad.block≠r∧w0.heap.size≠r∧w.heap.size≤r∧(ad.add kk).block≠w.heap.size+3 from ⟨by have:=HF3.out.gr;omega,by have:=HF3.out.gr;omega,by have q:=World.block_lt_of_cell? w _ HWC.out;rw [add_block] at q;have:=HF3.out.gr;omega,fun e=>HF3.out.ro e.symm,by have:=HF3.out.gr;omega,by have q:=World.block_lt_of_cell? w _ HWC.out;omega⟩)
 obtain ⟨TX,hTX⟩:∃TX:TG,t=TX:=⟨_,rfl⟩;obtain ⟨w4,hw4⟩:∃w4,w3.drewN nq=w4:=⟨_,rfl⟩;have HF4:Aside (FO w4 w.heap.size w0.heap.size r n c2 t ad c i s TX):=⟨by rw [←hTX,←hw4];exact HF3q.out⟩;have B4:Aside (Bl w w4):=⟨by rw [←hw4];exact B3q.out⟩;rw [hw4];have HTX:=Aside.mk (tgL_hi HF4.out.tb.len (.slice (some ⟨r,0,none⟩) n c2));have HST:=Aside.mk ((HF4.out.keep (Bl.refl _).drew).st);clear hw4;have HTXE:=Aside.mk hTX
 clear hTX;have wc4:w4.drew.cell? (ad.add kk)=some (.bool wk):=B4.out.drew.cell HWC.out;refine wp_region_held_drew (S:=fun w'=>FS w' w.heap.size w0.heap.size t (.slice (some ad) n c) i s TX (.slice (some ⟨r,0,none⟩) n c2)∧w'.cell? (ad.add kk)=some (.bool wk)) (by kernel_rfl) ?hS0 (fun hS=>?_)
 case hS0=>exact ⟨(HF4.out.keep (Bl.refl _).drew).fs,wc4⟩
 refine yK 0 yo93 (.agg (tgV TX (.slice (some ⟨r,0,none⟩) n c2))) (yieldsIf_load_mid rfl 62 _ rfl w0.heap.size 0 rfl (tgL TX (.slice (some ⟨r,0,none⟩) n c2)) _ (fun wx hx=>FS.ld hx.1) Tryz.underlying62 rfl HTX.out) hS ?_;refine yG 1 yo94 (.pointer (some ⟨w.heap.size,16,none⟩)) hS ?_;refine yK 2 yo95 (.slice (some ad) n c) (.inl ⟨rfl,fun wx hx=>by have hc:=(show wx.cell? ⟨w.heap.size,16,none⟩=some (.slice (some ad) n c) from (FS.tb hx.1).cs.1);go_simp⟩) hS ?_
 refine yR 3 yo96 (.int .i64 (kk:Int)) hS ?_;refine yG 4 yo97 (.pointer (some (ad.add kk))) hS ?_;refine yK 5 yo98 (.bool wk) (.inl ⟨rfl,fun wx hx=>by have hc:=hx.2;go_simp⟩) hS ?_;refine yR 6 yo99 _ hS ?_;cases wk
 all_goals
  refine yR 7 yo100 _ hS ?_
  first | refine yS 8 yo101 hS ?_ | refine yG 8 yo101 (.pointer (some ⟨w.heap.size+1,2,none⟩)) hS ?_
  first | refine yS 9 yo102 hS ?_ | refine yK 9 yo102 (.int .i64 (i.a:Int)) (.inl ⟨rfl,fun wx hx=>by have hc:=(show wx.cell? ⟨w.heap.size+1,2,none⟩=some (.int .i64 (i.a:Int)) from by have q:=ins_c (FS.ib hx.1);exact q.2.2.1);go_simp⟩) hS ?_
  first | refine yS 10 yo103 hS ?_ | refine yG 10 yo103 (.pointer (some ⟨w.heap.size,0,none⟩)) hS ?_
  first | refine yS 11 yo104 hS ?_ | refine yG 11 yo104 (.pointer (some ⟨w.heap.size,i.a,none⟩)) hS ?_
  first | refine yS 12 yo105 hS ?_ | refine yK 12 yo105 (.bool aa) (.inl ⟨rfl,fun wx hx=>by have hc:=(show wx.cell? ⟨w.heap.size,i.a,none⟩=some (.bool aa) from by rw [←HAA.out];exact (FS.tb hx.1).rc HO.out.a);go_simp⟩) hS ?_
  first | refine yS 13 yo106 hS ?_ | refine yR 13 yo106 _ hS ?_
  refine yR 14 yo107 _ hS ?_;refine wpAnyH_ready (rs:=[15]) (by kernel_rfl) (by simp) (AllReadyH.cons (o:=yo109) rfl (fun K hK=>?_) AllReadyH.nil);rw [if_pos (by rfl)];refine wp_store_run 62 _ _ rfl (.pointer (some ⟨w.heap.size+3,0,none⟩)) (.agg (tgV TX (.slice (some ⟨r,0,none⟩) n c2))) rfl rfl HST.out ?_;refine hK.out _ _ ⟨FS.row hS.1 _,by rw [World.cell?_of_block (setRow_other _ (w.heap.size+3) _ _ NR.out.2.2.2.2.2)];exact hS.2⟩ (fun hS=>?_)
  clear hK K
  try simp only [Act.put,List.setIfInBounds_toArray,List.set_cons_zero,List.set_cons_succ]
  refine yR 16 yo108 _ hS ?_;refine wpAnyH_done (by kernel_rfl) ?_ _;go_wp2;refine bodyPost_ret (results_row_tmp rfl _ _ (w.heap.size+3) 62 (tgV TX (.slice (some ⟨r,0,none⟩) n c2)) (0,0) _ rfl (setRow_heap _ _ _ _ _ (0,0) (HF4.out.keep (Bl.refl _).drew).fw.zb) Tryz.underlying62 rfl HF4.out.rw.1) rfl ?_;refine fdp2 r c2 _ TX rfl ?_ ?_ ((HF4.out.keep (Bl.refl _).drew).fin _) ⟨below_setRow (B4.out.drew).out (by omega) _⟩
  · rw [←HTXE.out,←HU.out]
    all_goals show ((t,!(t.W.getD ((((reg s i.b+word32 i.im)%4294967296) - base) / 4) false) && !tagR t i.a):TG×Bool).1=_
    try rw [HKK.out]
    try rw [HWK.out]
    try rw [HAA.out]
    try rfl
  · rw [←HU.out]
    all_goals show ((t,!(t.W.getD ((((reg s i.b+word32 i.im)%4294967296) - base) / 4) false) && !tagR t i.a):TG×Bool).2=_
    try rw [HKK.out]
    try rw [HWK.out]
    try rw [HAA.out]
    try rfl
end
theorem feed_any {w:World} {t:TG} {ad:Addr} {n c:Nat} {i:I} {s:RS} (hR:t.R.length=16) (hW:RdB w ad c t.W) (hn:t.W.length=n) (hn40:n≤40) (hs:s.Ok) (ho:IOk i) {base:Nat} (hbase:base≤124) :
 Calls Tryz.prog 24 #[.agg (tgV t (.slice (some ad) n c)),.agg (iV i),.agg s.arr,.int .i64 (base:Int),.int .i64 (n:Int)] w fun e w'=>FdPost w n (feedS t i s base n) e w':=by
 have hkd:=ho.kd
 rcases (show i.kd=1∨i.kd=2∨i.kd=3∨i.kd=4∨i.kd=5∨i.kd=6∨i.kd=7 by omega) with hk | hk | hk | hk | hk | hk | hk
 · by_cases h0:i.op=0
   · exact feed_1_0 hR hW hn hn40 hs ho hk h0 (fs_1_0 hk h0)
   by_cases h8:i.op=8
   · exact feed_1_8 hR hW hn hn40 hs ho hk h8 (fs_1_8 hk h8)
   by_cases h9:i.op=9
   · exact feed_1_9 hR hW hn hn40 hs ho hk h9 (fs_1_9 hk h9)
   exact feed_1_x hR hW hn hn40 hs ho hk ⟨h0,h8,h9⟩ (fs_1_x hk ⟨h0,h8,h9⟩)
 · by_cases h0:i.op=0
   · exact feed_2_0 hR hW hn hn40 hs ho hk h0 (fs_2_0 hk h0)
   by_cases h8:i.op=8
   · exact feed_2_8 hR hW hn hn40 hs ho hk h8 (fs_2_8 hk h8)
   by_cases h9:i.op=9
   · exact feed_2_9 hR hW hn hn40 hs ho hk h9 (fs_2_9 hk h9)
   exact feed_2_x hR hW hn hn40 hs ho hk ⟨h0,h8,h9⟩ (fs_2_x hk ⟨h0,h8,h9⟩)
 · rw [←fs_3 (s:=s) (base:=base) (words:=n) hk]
   exact feed_3 hR hW hn hn40 hs ho hk
 · rw [←fs_4 (s:=s) (base:=base) (words:=n) hk]
   exact feed_4 hR hW hn hn40 hs ho hk
 · have hmem:=ho.mem hk
   cases hb:tagR t i.b with
   | false =>
     rcases (show (i.op=0∨i.op=1)∨(i.op=2∨i.op=3) by omega) with hop | hop
     · rcases hop with hop | hop
       · exact feed_5n_0 hR hW hn hn40 hs ho hk hop hb
       · exact feed_5n_1 hR hW hn hn40 hs ho hk hop hb
     · exact feed_5n_B hR hW hn hn40 hs ho hk hop hb
   | true =>
     by_cases r1:(reg s i.b+word32 i.im)%4294967296<base
     · exact feed_5b_lo hR hW hn hn40 hs ho hk hb hbase rfl r1 (fs_5b_o hk hb (.inl r1))
     by_cases r2:base+4*n≤(reg s i.b+word32 i.im)%4294967296
     · exact feed_5b_hi hR hW hn hn40 hs ho hk hb hbase rfl r2 (fs_5b_o hk hb (.inr r2))
     have hr:base≤(reg s i.b+word32 i.im)%4294967296∧(reg s i.b+word32 i.im)%4294967296<base+4*n:=by omega
     rcases (show i.op=0∨i.op=1∨i.op=2∨i.op=3 by omega) with hop | hop | hop | hop
     · exact feed_5b_0 hR hW hn hn40 hs ho hk hb hbase rfl hop hr (fs_5b_0 hk hop hb hr)
     · exact feed_5b_1 hR hW hn hn40 hs ho hk hb hbase rfl hop hr (fs_5b_1 hk hop hb hr)
     · exact feed_5b_2 hR hW hn hn40 hs ho hk hb hbase rfl hop hr (fs_5b_2 hk hop hb hr)
     · exact feed_5b_3 hR hW hn hn40 hs ho hk hb hbase rfl hop hr (fs_5b_3 hk hop hb hr)
 · cases hu:i.u with
   | false=>exact feed_6a hR hW hn hn40 hs ho hk hu (fs_6 hk)
   | true =>
     cases htk:takenS s i.op with
     | false=>exact feed_6b hR hW hn hn40 hs ho hk hu htk (fs_6 hk)
     | true=>exact feed_6c hR hW hn hn40 hs ho hk hu htk (fs_6 hk)
 · exact feed_7 hR hW hn hn40 hs ho hk (fs_7 hk)
end Go.Proofs.YtjmiaemabhlnjaaGreatDoor.Chains.Shifts
end
