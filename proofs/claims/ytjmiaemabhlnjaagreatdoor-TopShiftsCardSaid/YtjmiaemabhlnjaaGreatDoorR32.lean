/- A part of the proof of TopShifts. -/
import Derived.Test.YtjmiaemabhlnjaaGreatDoorR25
import Derived.Deep.QuietTactic
import Derived.Deep.RegionHeld3
import Derived.Deep.MidRow
section
set_option linter.all false
set_option maxRecDepth 20000
namespace Go.Proofs.YtjmiaemabhlnjaaGreatDoor.Chains.Shifts
open Go Go.RowKit Go.Proofs.YtjmiaemabhlnjaaGreatDoor.Chains
section
variable {w:World} {t:TG} {ad:Addr} {n c:Nat} {i:I} {s:RS}
set_option maxHeartbeats 16000000 in
theorem feed_2_8 (hR:t.R.length=16) (hW:RdB w ad c t.W) (hn:t.W.length=n) (hn40:n≤40) (hs:s.Ok) (ho:IOk i) {base words:Nat} (hk:i.kd=2) (hop:i.op=8) {U:TG×Bool} (hU:((({t with R:=t.R.set i.a ((tagR t i.b) || false),NZ:=((tagR t i.b) || false),CV:=((tagR t i.b) || false)}:TG),(!((tagR t i.b)&&false) && !(i.u&&t.CV))):TG×Bool)=U) :
 Calls Tryz.prog 24 #[.agg (tgV t (.slice (some ad) n c)),.agg (iV i),.agg s.arr,.int .i64 (base:Int),.int .i64 (words:Int)] w fun e w'=>FdPost w n U e w':=by
 have HU:=Aside.mk hU;clear hU;obtain ⟨j0,hj,hj0,hj1,hj2⟩:=info_parts infoB;obtain ⟨w0,hw0,F0,B0,HZ0,HT,HW,HN,HO,hnc,hb0,hb1,hc0,hc1,ha0,ha1,ha17,ha18,ha16⟩:=feed_pre (s:=s) hR hW hn ho
 have hkd:(i.kd:Int)=2:=by omega
 have hopi:(i.op:Int)=8:=by omega
 obtain ⟨bb,hbb⟩:∃bb,tagR t i.b=bb:=⟨_,rfl⟩;obtain ⟨cc,hcc⟩:∃cc,tagR t i.c=cc:=⟨_,rfl⟩;obtain ⟨aa,haa⟩:∃aa,tagR t i.a=aa:=⟨_,rfl⟩;obtain ⟨uu,huu⟩:∃uu,i.u=uu:=⟨_,rfl⟩;obtain ⟨nz,hnz⟩:∃nz,t.NZ=nz:=⟨_,rfl⟩;obtain ⟨cv,hcv⟩:∃cv,t.CV=cv:=⟨_,rfl⟩;have HBB:=Aside.mk hbb;have HCC:=Aside.mk hcc;have HAA:=Aside.mk haa;have HUU:=Aside.mk huu;have HNZ:=Aside.mk hnz;have HCV:=Aside.mk hcv;clear hbb hcc haa huu hnz hcv
 clear hW ho;go_enter Tryz.func24,Tryz.ntmps24
 go_wp2_with (first
  | (refine wpList_load_row rfl 62 (.tmp 5) rfl w.heap.size rfl 62 (tgV t (.slice (some ad) n c)) (0,0) _ F0.out.tb.h Tryz.underlying62 rfl HT.out.1 ?_)
  | (refine wpList_store_row rfl 62 (.tmp 12) (.tmp 22) rfl w0.heap.size (tgV t (.slice (some ad) n c)) rfl rfl 62 _ (heap_alloc_new w0 _) HT.out.1 (by rw [HT.out.2.1];rfl) HT.out.2.2 ?_
     rw [World.setRow_alloc_new];obtain ⟨w1,hw1,B1,O1,F1,c16,c17,c18,f16,l1,l2⟩:=feed_w1 hR F0;rw [hw1]
     clear hw1)
  | (at_builtin
     refine wpList_append_own_at _ rfl (.tmp 23) (.tmp 25) 59 rfl w1.heap.size 4 j0 (.bool false) 1 1 Tryz.underlying59 hj hj0 hj1 hj2 rfl (by decide) (.slice (some ⟨w1.heap.size,0,none⟩) 0 0) 0 (bv []) rfl (own_madeB w1 w1.heap.size (Nat.le_refl _)) ad n c (bv t.W) rfl (by simp [bv,HN.out]) (((HW.out.keep B0.out).keep (B1.out.alloc _)).vals) (bv_one _) (by unfold maxLen;omega) (by omega) (by simp) ?_
     intro v2 w2 hown hgrow hnil hloc;have B2:=Aside.mk (show Bl w1 w2 from ((Bl.refl w1).alloc (.cells #[] 4)).grow hgrow (fun g e=>by obtain rfl:=Option.some.inj e;exact Nat.le_refl _));obtain ⟨r,c2,rfl,g16,d16,d17,d18,w3,hw3,HF3,B3,⟨i0,i1,i2,i3,i4,i5,i6⟩,rb,rc,ra,⟨t16,t17,t18⟩,oa,⟨o16,o17,o18⟩,of⟩:=feed_w3 B0 HZ0 HO B1 O1 F1 B2.out (by simpa [bv] using hown) (fun e=>by have:=(hnil.1 e).1;cases this)
     rw [hkd] at i0;rw [HBB.out] at rb;rw [HCC.out] at rc;rw [HAA.out] at ra oa;rw [HUU.out] at i6;rw [HNZ.out] at t17 o17;rw [HCV.out] at t18 o18;rw [hopi] at i1
     clear hown hgrow hnil hloc c16 c17 c18 f16 l1 l2)
  | (refine stop_at 72 rfl ?_)
  )
 refine Hold.mk ?_;cases bb
 · cases uu
   · cases cv
     · go_wp2_with (first | (refine stop_at 148 rfl ?_))
       refine Hold.mk ?_;obtain ⟨TX,hTX⟩:∃TX:TG,({t with R:=t.R.set i.a false,NZ:=false,CV:=false}:TG)=TX:=⟨_,rfl⟩;obtain ⟨w4,hw4⟩:∃w4,((w3.setCell ⟨w0.heap.size,i.a,none⟩ (.bool false)).setCell ⟨w0.heap.size,17,none⟩ (.bool false)).setCell ⟨w0.heap.size,18,none⟩ (.bool false)=w4:=⟨_,rfl⟩;have HF4:Aside (FO w4 w.heap.size w0.heap.size r n c2 t ad c i s TX):=⟨by rw [←hTX,←hw4];exact (((HF3.out.setR HO.out.a false).setNZ false).setCV false)⟩
       have B4:Aside (Bl w w4):=⟨by rw [←hw4];exact ((B3.out.puts (p:=⟨w0.heap.size,i.a,none⟩) B0.out.out.size (.bool false)).puts (p:=⟨w0.heap.size,17,none⟩) B0.out.out.size (.bool false)).puts (p:=⟨w0.heap.size,18,none⟩) B0.out.out.size (.bool false)⟩;rw [hw4];have HTX:=Aside.mk (tgL_hi HF4.out.tb.len (.slice (some ⟨r,0,none⟩) n c2));have HST:=Aside.mk ((HF4.out.keep (Bl.refl _).drew).st);clear hw4
       have HTXE:=Aside.mk hTX;clear hTX
       go_wp2_with (first
        | (refine wpList_load_row rfl 62 (.tmp 12) rfl w0.heap.size rfl 62 (tgV TX (.slice (some ⟨r,0,none⟩) n c2)) (0,0) _ HF4.out.tb.h Tryz.underlying62 rfl HF4.out.rw.1 ?_)
        | (refine wpList_store_row rfl 62 (.tmp 10) (.tmp 148) rfl (w.heap.size+3) (tgV TX (.slice (some ⟨r,0,none⟩) n c2)) rfl rfl 62 _ HF4.out.fw.zb HF4.out.rw.1 (by rw [HF4.out.rw.2.1];rfl) HF4.out.rw.2.2 ?_))
       refine bodyPost_ret (results_row_tmp rfl _ _ (w.heap.size+3) 62 (tgV TX (.slice (some ⟨r,0,none⟩) n c2)) (0,0) _ rfl (setRow_heap _ _ _ _ _ (0,0) HF4.out.fw.zb) Tryz.underlying62 rfl HF4.out.rw.1) rfl ?_;refine fdp2 r c2 _ TX rfl ?_ ?_ (HF4.out.fin _) ⟨below_setRow B4.out.out (by omega) _⟩
       · rw [←HTXE.out,←HU.out]
         all_goals show ((({t with R:=t.R.set i.a ((tagR t i.b) || false),NZ:=((tagR t i.b) || false),CV:=((tagR t i.b) || false)}:TG),(!((tagR t i.b)&&false) && !(i.u&&t.CV))):TG×Bool).1=_
         try rw [HBB.out]
         try rw [HCC.out]
         try rw [HUU.out]
         try rw [HCV.out]
         try rfl
       · rw [←HU.out]
         all_goals show ((({t with R:=t.R.set i.a ((tagR t i.b) || false),NZ:=((tagR t i.b) || false),CV:=((tagR t i.b) || false)}:TG),(!((tagR t i.b)&&false) && !(i.u&&t.CV))):TG×Bool).2=_
         try rw [HBB.out]
         try rw [HCC.out]
         try rw [HUU.out]
         try rw [HCV.out]
         try rfl
     · go_wp2_with (first | (refine stop_at 148 rfl ?_))
       refine Hold.mk ?_;obtain ⟨TX,hTX⟩:∃TX:TG,({t with R:=t.R.set i.a false,NZ:=false,CV:=false}:TG)=TX:=⟨_,rfl⟩;obtain ⟨w4,hw4⟩:∃w4,((w3.setCell ⟨w0.heap.size,i.a,none⟩ (.bool false)).setCell ⟨w0.heap.size,17,none⟩ (.bool false)).setCell ⟨w0.heap.size,18,none⟩ (.bool false)=w4:=⟨_,rfl⟩;have HF4:Aside (FO w4 w.heap.size w0.heap.size r n c2 t ad c i s TX):=⟨by rw [←hTX,←hw4];exact (((HF3.out.setR HO.out.a false).setNZ false).setCV false)⟩
       have B4:Aside (Bl w w4):=⟨by rw [←hw4];exact ((B3.out.puts (p:=⟨w0.heap.size,i.a,none⟩) B0.out.out.size (.bool false)).puts (p:=⟨w0.heap.size,17,none⟩) B0.out.out.size (.bool false)).puts (p:=⟨w0.heap.size,18,none⟩) B0.out.out.size (.bool false)⟩;rw [hw4];have HTX:=Aside.mk (tgL_hi HF4.out.tb.len (.slice (some ⟨r,0,none⟩) n c2));have HST:=Aside.mk ((HF4.out.keep (Bl.refl _).drew).st);clear hw4
       have HTXE:=Aside.mk hTX;clear hTX
       go_wp2_with (first
        | (refine wpList_load_row rfl 62 (.tmp 12) rfl w0.heap.size rfl 62 (tgV TX (.slice (some ⟨r,0,none⟩) n c2)) (0,0) _ HF4.out.tb.h Tryz.underlying62 rfl HF4.out.rw.1 ?_)
        | (refine wpList_store_row rfl 62 (.tmp 10) (.tmp 148) rfl (w.heap.size+3) (tgV TX (.slice (some ⟨r,0,none⟩) n c2)) rfl rfl 62 _ HF4.out.fw.zb HF4.out.rw.1 (by rw [HF4.out.rw.2.1];rfl) HF4.out.rw.2.2 ?_))
       refine bodyPost_ret (results_row_tmp rfl _ _ (w.heap.size+3) 62 (tgV TX (.slice (some ⟨r,0,none⟩) n c2)) (0,0) _ rfl (setRow_heap _ _ _ _ _ (0,0) HF4.out.fw.zb) Tryz.underlying62 rfl HF4.out.rw.1) rfl ?_;refine fdp2 r c2 _ TX rfl ?_ ?_ (HF4.out.fin _) ⟨below_setRow B4.out.out (by omega) _⟩
       · rw [←HTXE.out,←HU.out]
         all_goals show ((({t with R:=t.R.set i.a ((tagR t i.b) || false),NZ:=((tagR t i.b) || false),CV:=((tagR t i.b) || false)}:TG),(!((tagR t i.b)&&false) && !(i.u&&t.CV))):TG×Bool).1=_
         try rw [HBB.out]
         try rw [HCC.out]
         try rw [HUU.out]
         try rw [HCV.out]
         try rfl
       · rw [←HU.out]
         all_goals show ((({t with R:=t.R.set i.a ((tagR t i.b) || false),NZ:=((tagR t i.b) || false),CV:=((tagR t i.b) || false)}:TG),(!((tagR t i.b)&&false) && !(i.u&&t.CV))):TG×Bool).2=_
         try rw [HBB.out]
         try rw [HCC.out]
         try rw [HUU.out]
         try rw [HCV.out]
         try rfl
   · cases cv
     · go_wp2_with (first | (refine stop_at 148 rfl ?_))
       refine Hold.mk ?_;obtain ⟨TX,hTX⟩:∃TX:TG,({t with R:=t.R.set i.a false,NZ:=false,CV:=false}:TG)=TX:=⟨_,rfl⟩;obtain ⟨w4,hw4⟩:∃w4,((w3.setCell ⟨w0.heap.size,i.a,none⟩ (.bool false)).setCell ⟨w0.heap.size,17,none⟩ (.bool false)).setCell ⟨w0.heap.size,18,none⟩ (.bool false)=w4:=⟨_,rfl⟩;have HF4:Aside (FO w4 w.heap.size w0.heap.size r n c2 t ad c i s TX):=⟨by rw [←hTX,←hw4];exact (((HF3.out.setR HO.out.a false).setNZ false).setCV false)⟩
       have B4:Aside (Bl w w4):=⟨by rw [←hw4];exact ((B3.out.puts (p:=⟨w0.heap.size,i.a,none⟩) B0.out.out.size (.bool false)).puts (p:=⟨w0.heap.size,17,none⟩) B0.out.out.size (.bool false)).puts (p:=⟨w0.heap.size,18,none⟩) B0.out.out.size (.bool false)⟩;rw [hw4];have HTX:=Aside.mk (tgL_hi HF4.out.tb.len (.slice (some ⟨r,0,none⟩) n c2));have HST:=Aside.mk ((HF4.out.keep (Bl.refl _).drew).st);clear hw4
       have HTXE:=Aside.mk hTX;clear hTX
       go_wp2_with (first
        | (refine wpList_load_row rfl 62 (.tmp 12) rfl w0.heap.size rfl 62 (tgV TX (.slice (some ⟨r,0,none⟩) n c2)) (0,0) _ HF4.out.tb.h Tryz.underlying62 rfl HF4.out.rw.1 ?_)
        | (refine wpList_store_row rfl 62 (.tmp 10) (.tmp 148) rfl (w.heap.size+3) (tgV TX (.slice (some ⟨r,0,none⟩) n c2)) rfl rfl 62 _ HF4.out.fw.zb HF4.out.rw.1 (by rw [HF4.out.rw.2.1];rfl) HF4.out.rw.2.2 ?_))
       refine bodyPost_ret (results_row_tmp rfl _ _ (w.heap.size+3) 62 (tgV TX (.slice (some ⟨r,0,none⟩) n c2)) (0,0) _ rfl (setRow_heap _ _ _ _ _ (0,0) HF4.out.fw.zb) Tryz.underlying62 rfl HF4.out.rw.1) rfl ?_;refine fdp2 r c2 _ TX rfl ?_ ?_ (HF4.out.fin _) ⟨below_setRow B4.out.out (by omega) _⟩
       · rw [←HTXE.out,←HU.out]
         all_goals show ((({t with R:=t.R.set i.a ((tagR t i.b) || false),NZ:=((tagR t i.b) || false),CV:=((tagR t i.b) || false)}:TG),(!((tagR t i.b)&&false) && !(i.u&&t.CV))):TG×Bool).1=_
         try rw [HBB.out]
         try rw [HCC.out]
         try rw [HUU.out]
         try rw [HCV.out]
         try rfl
       · rw [←HU.out]
         all_goals show ((({t with R:=t.R.set i.a ((tagR t i.b) || false),NZ:=((tagR t i.b) || false),CV:=((tagR t i.b) || false)}:TG),(!((tagR t i.b)&&false) && !(i.u&&t.CV))):TG×Bool).2=_
         try rw [HBB.out]
         try rw [HCC.out]
         try rw [HUU.out]
         try rw [HCV.out]
         try rfl
     · go_wp2_with (first | (refine stop_at 148 rfl ?_))
       refine Hold.mk ?_;obtain ⟨TX,hTX⟩:∃TX:TG,({t with R:=t.R.set i.a false,NZ:=false,CV:=false}:TG)=TX:=⟨_,rfl⟩;obtain ⟨w4,hw4⟩:∃w4,((w3.setCell ⟨w0.heap.size,i.a,none⟩ (.bool false)).setCell ⟨w0.heap.size,17,none⟩ (.bool false)).setCell ⟨w0.heap.size,18,none⟩ (.bool false)=w4:=⟨_,rfl⟩;have HF4:Aside (FO w4 w.heap.size w0.heap.size r n c2 t ad c i s TX):=⟨by rw [←hTX,←hw4];exact (((HF3.out.setR HO.out.a false).setNZ false).setCV false)⟩
       have B4:Aside (Bl w w4):=⟨by rw [←hw4];exact ((B3.out.puts (p:=⟨w0.heap.size,i.a,none⟩) B0.out.out.size (.bool false)).puts (p:=⟨w0.heap.size,17,none⟩) B0.out.out.size (.bool false)).puts (p:=⟨w0.heap.size,18,none⟩) B0.out.out.size (.bool false)⟩;rw [hw4];have HTX:=Aside.mk (tgL_hi HF4.out.tb.len (.slice (some ⟨r,0,none⟩) n c2));have HST:=Aside.mk ((HF4.out.keep (Bl.refl _).drew).st);clear hw4
       have HTXE:=Aside.mk hTX;clear hTX
       go_wp2_with (first
        | (refine wpList_load_row rfl 62 (.tmp 12) rfl w0.heap.size rfl 62 (tgV TX (.slice (some ⟨r,0,none⟩) n c2)) (0,0) _ HF4.out.tb.h Tryz.underlying62 rfl HF4.out.rw.1 ?_)
        | (refine wpList_store_row rfl 62 (.tmp 10) (.tmp 148) rfl (w.heap.size+3) (tgV TX (.slice (some ⟨r,0,none⟩) n c2)) rfl rfl 62 _ HF4.out.fw.zb HF4.out.rw.1 (by rw [HF4.out.rw.2.1];rfl) HF4.out.rw.2.2 ?_))
       refine bodyPost_ret (results_row_tmp rfl _ _ (w.heap.size+3) 62 (tgV TX (.slice (some ⟨r,0,none⟩) n c2)) (0,0) _ rfl (setRow_heap _ _ _ _ _ (0,0) HF4.out.fw.zb) Tryz.underlying62 rfl HF4.out.rw.1) rfl ?_;refine fdp2 r c2 _ TX rfl ?_ ?_ (HF4.out.fin _) ⟨below_setRow B4.out.out (by omega) _⟩
       · rw [←HTXE.out,←HU.out]
         all_goals show ((({t with R:=t.R.set i.a ((tagR t i.b) || false),NZ:=((tagR t i.b) || false),CV:=((tagR t i.b) || false)}:TG),(!((tagR t i.b)&&false) && !(i.u&&t.CV))):TG×Bool).1=_
         try rw [HBB.out]
         try rw [HCC.out]
         try rw [HUU.out]
         try rw [HCV.out]
         try rfl
       · rw [←HU.out]
         all_goals show ((({t with R:=t.R.set i.a ((tagR t i.b) || false),NZ:=((tagR t i.b) || false),CV:=((tagR t i.b) || false)}:TG),(!((tagR t i.b)&&false) && !(i.u&&t.CV))):TG×Bool).2=_
         try rw [HBB.out]
         try rw [HCC.out]
         try rw [HUU.out]
         try rw [HCV.out]
         try rfl
 · cases uu
   · cases cv
     · go_wp2_with (first | (refine stop_at 148 rfl ?_))
       refine Hold.mk ?_;obtain ⟨TX,hTX⟩:∃TX:TG,({t with R:=t.R.set i.a true,NZ:=true,CV:=true}:TG)=TX:=⟨_,rfl⟩;obtain ⟨w4,hw4⟩:∃w4,((w3.setCell ⟨w0.heap.size,i.a,none⟩ (.bool true)).setCell ⟨w0.heap.size,17,none⟩ (.bool true)).setCell ⟨w0.heap.size,18,none⟩ (.bool true)=w4:=⟨_,rfl⟩;have HF4:Aside (FO w4 w.heap.size w0.heap.size r n c2 t ad c i s TX):=⟨by rw [←hTX,←hw4];exact (((HF3.out.setR HO.out.a true).setNZ true).setCV true)⟩
       have B4:Aside (Bl w w4):=⟨by rw [←hw4];exact ((B3.out.puts (p:=⟨w0.heap.size,i.a,none⟩) B0.out.out.size (.bool true)).puts (p:=⟨w0.heap.size,17,none⟩) B0.out.out.size (.bool true)).puts (p:=⟨w0.heap.size,18,none⟩) B0.out.out.size (.bool true)⟩;rw [hw4];have HTX:=Aside.mk (tgL_hi HF4.out.tb.len (.slice (some ⟨r,0,none⟩) n c2));have HST:=Aside.mk ((HF4.out.keep (Bl.refl _).drew).st);clear hw4
       have HTXE:=Aside.mk hTX;clear hTX
       go_wp2_with (first
        | (refine wpList_load_row rfl 62 (.tmp 12) rfl w0.heap.size rfl 62 (tgV TX (.slice (some ⟨r,0,none⟩) n c2)) (0,0) _ HF4.out.tb.h Tryz.underlying62 rfl HF4.out.rw.1 ?_)
        | (refine wpList_store_row rfl 62 (.tmp 10) (.tmp 148) rfl (w.heap.size+3) (tgV TX (.slice (some ⟨r,0,none⟩) n c2)) rfl rfl 62 _ HF4.out.fw.zb HF4.out.rw.1 (by rw [HF4.out.rw.2.1];rfl) HF4.out.rw.2.2 ?_))
       refine bodyPost_ret (results_row_tmp rfl _ _ (w.heap.size+3) 62 (tgV TX (.slice (some ⟨r,0,none⟩) n c2)) (0,0) _ rfl (setRow_heap _ _ _ _ _ (0,0) HF4.out.fw.zb) Tryz.underlying62 rfl HF4.out.rw.1) rfl ?_;refine fdp2 r c2 _ TX rfl ?_ ?_ (HF4.out.fin _) ⟨below_setRow B4.out.out (by omega) _⟩
       · rw [←HTXE.out,←HU.out]
         all_goals show ((({t with R:=t.R.set i.a ((tagR t i.b) || false),NZ:=((tagR t i.b) || false),CV:=((tagR t i.b) || false)}:TG),(!((tagR t i.b)&&false) && !(i.u&&t.CV))):TG×Bool).1=_
         try rw [HBB.out]
         try rw [HCC.out]
         try rw [HUU.out]
         try rw [HCV.out]
         try rfl
       · rw [←HU.out]
         all_goals show ((({t with R:=t.R.set i.a ((tagR t i.b) || false),NZ:=((tagR t i.b) || false),CV:=((tagR t i.b) || false)}:TG),(!((tagR t i.b)&&false) && !(i.u&&t.CV))):TG×Bool).2=_
         try rw [HBB.out]
         try rw [HCC.out]
         try rw [HUU.out]
         try rw [HCV.out]
         try rfl
     · go_wp2_with (first | (refine stop_at 148 rfl ?_))
       refine Hold.mk ?_;obtain ⟨TX,hTX⟩:∃TX:TG,({t with R:=t.R.set i.a true,NZ:=true,CV:=true}:TG)=TX:=⟨_,rfl⟩;obtain ⟨w4,hw4⟩:∃w4,((w3.setCell ⟨w0.heap.size,i.a,none⟩ (.bool true)).setCell ⟨w0.heap.size,17,none⟩ (.bool true)).setCell ⟨w0.heap.size,18,none⟩ (.bool true)=w4:=⟨_,rfl⟩;have HF4:Aside (FO w4 w.heap.size w0.heap.size r n c2 t ad c i s TX):=⟨by rw [←hTX,←hw4];exact (((HF3.out.setR HO.out.a true).setNZ true).setCV true)⟩
       have B4:Aside (Bl w w4):=⟨by rw [←hw4];exact ((B3.out.puts (p:=⟨w0.heap.size,i.a,none⟩) B0.out.out.size (.bool true)).puts (p:=⟨w0.heap.size,17,none⟩) B0.out.out.size (.bool true)).puts (p:=⟨w0.heap.size,18,none⟩) B0.out.out.size (.bool true)⟩;rw [hw4];have HTX:=Aside.mk (tgL_hi HF4.out.tb.len (.slice (some ⟨r,0,none⟩) n c2));have HST:=Aside.mk ((HF4.out.keep (Bl.refl _).drew).st);clear hw4
       have HTXE:=Aside.mk hTX;clear hTX
       go_wp2_with (first
        | (refine wpList_load_row rfl 62 (.tmp 12) rfl w0.heap.size rfl 62 (tgV TX (.slice (some ⟨r,0,none⟩) n c2)) (0,0) _ HF4.out.tb.h Tryz.underlying62 rfl HF4.out.rw.1 ?_)
        | (refine wpList_store_row rfl 62 (.tmp 10) (.tmp 148) rfl (w.heap.size+3) (tgV TX (.slice (some ⟨r,0,none⟩) n c2)) rfl rfl 62 _ HF4.out.fw.zb HF4.out.rw.1 (by rw [HF4.out.rw.2.1];rfl) HF4.out.rw.2.2 ?_))
       refine bodyPost_ret (results_row_tmp rfl _ _ (w.heap.size+3) 62 (tgV TX (.slice (some ⟨r,0,none⟩) n c2)) (0,0) _ rfl (setRow_heap _ _ _ _ _ (0,0) HF4.out.fw.zb) Tryz.underlying62 rfl HF4.out.rw.1) rfl ?_;refine fdp2 r c2 _ TX rfl ?_ ?_ (HF4.out.fin _) ⟨below_setRow B4.out.out (by omega) _⟩
       · rw [←HTXE.out,←HU.out]
         all_goals show ((({t with R:=t.R.set i.a ((tagR t i.b) || false),NZ:=((tagR t i.b) || false),CV:=((tagR t i.b) || false)}:TG),(!((tagR t i.b)&&false) && !(i.u&&t.CV))):TG×Bool).1=_
         try rw [HBB.out]
         try rw [HCC.out]
         try rw [HUU.out]
         try rw [HCV.out]
         try rfl
       · rw [←HU.out]
         all_goals show ((({t with R:=t.R.set i.a ((tagR t i.b) || false),NZ:=((tagR t i.b) || false),CV:=((tagR t i.b) || false)}:TG),(!((tagR t i.b)&&false) && !(i.u&&t.CV))):TG×Bool).2=_
         try rw [HBB.out]
         try rw [HCC.out]
         try rw [HUU.out]
         try rw [HCV.out]
         try rfl
   · cases cv
     · go_wp2_with (first | (refine stop_at 148 rfl ?_))
       refine Hold.mk ?_;obtain ⟨TX,hTX⟩:∃TX:TG,({t with R:=t.R.set i.a true,NZ:=true,CV:=true}:TG)=TX:=⟨_,rfl⟩;obtain ⟨w4,hw4⟩:∃w4,((w3.setCell ⟨w0.heap.size,i.a,none⟩ (.bool true)).setCell ⟨w0.heap.size,17,none⟩ (.bool true)).setCell ⟨w0.heap.size,18,none⟩ (.bool true)=w4:=⟨_,rfl⟩;have HF4:Aside (FO w4 w.heap.size w0.heap.size r n c2 t ad c i s TX):=⟨by rw [←hTX,←hw4];exact (((HF3.out.setR HO.out.a true).setNZ true).setCV true)⟩
       have B4:Aside (Bl w w4):=⟨by rw [←hw4];exact ((B3.out.puts (p:=⟨w0.heap.size,i.a,none⟩) B0.out.out.size (.bool true)).puts (p:=⟨w0.heap.size,17,none⟩) B0.out.out.size (.bool true)).puts (p:=⟨w0.heap.size,18,none⟩) B0.out.out.size (.bool true)⟩;rw [hw4];have HTX:=Aside.mk (tgL_hi HF4.out.tb.len (.slice (some ⟨r,0,none⟩) n c2));have HST:=Aside.mk ((HF4.out.keep (Bl.refl _).drew).st);clear hw4
       have HTXE:=Aside.mk hTX;clear hTX
       go_wp2_with (first
        | (refine wpList_load_row rfl 62 (.tmp 12) rfl w0.heap.size rfl 62 (tgV TX (.slice (some ⟨r,0,none⟩) n c2)) (0,0) _ HF4.out.tb.h Tryz.underlying62 rfl HF4.out.rw.1 ?_)
        | (refine wpList_store_row rfl 62 (.tmp 10) (.tmp 148) rfl (w.heap.size+3) (tgV TX (.slice (some ⟨r,0,none⟩) n c2)) rfl rfl 62 _ HF4.out.fw.zb HF4.out.rw.1 (by rw [HF4.out.rw.2.1];rfl) HF4.out.rw.2.2 ?_))
       refine bodyPost_ret (results_row_tmp rfl _ _ (w.heap.size+3) 62 (tgV TX (.slice (some ⟨r,0,none⟩) n c2)) (0,0) _ rfl (setRow_heap _ _ _ _ _ (0,0) HF4.out.fw.zb) Tryz.underlying62 rfl HF4.out.rw.1) rfl ?_;refine fdp2 r c2 _ TX rfl ?_ ?_ (HF4.out.fin _) ⟨below_setRow B4.out.out (by omega) _⟩
       · rw [←HTXE.out,←HU.out]
         all_goals show ((({t with R:=t.R.set i.a ((tagR t i.b) || false),NZ:=((tagR t i.b) || false),CV:=((tagR t i.b) || false)}:TG),(!((tagR t i.b)&&false) && !(i.u&&t.CV))):TG×Bool).1=_
         try rw [HBB.out]
         try rw [HCC.out]
         try rw [HUU.out]
         try rw [HCV.out]
         try rfl
       · rw [←HU.out]
         all_goals show ((({t with R:=t.R.set i.a ((tagR t i.b) || false),NZ:=((tagR t i.b) || false),CV:=((tagR t i.b) || false)}:TG),(!((tagR t i.b)&&false) && !(i.u&&t.CV))):TG×Bool).2=_
         try rw [HBB.out]
         try rw [HCC.out]
         try rw [HUU.out]
         try rw [HCV.out]
         try rfl
     · go_wp2_with (first | (refine stop_at 148 rfl ?_))
       refine Hold.mk ?_;obtain ⟨TX,hTX⟩:∃TX:TG,({t with R:=t.R.set i.a true,NZ:=true,CV:=true}:TG)=TX:=⟨_,rfl⟩;obtain ⟨w4,hw4⟩:∃w4,((w3.setCell ⟨w0.heap.size,i.a,none⟩ (.bool true)).setCell ⟨w0.heap.size,17,none⟩ (.bool true)).setCell ⟨w0.heap.size,18,none⟩ (.bool true)=w4:=⟨_,rfl⟩;have HF4:Aside (FO w4 w.heap.size w0.heap.size r n c2 t ad c i s TX):=⟨by rw [←hTX,←hw4];exact (((HF3.out.setR HO.out.a true).setNZ true).setCV true)⟩
       have B4:Aside (Bl w w4):=⟨by rw [←hw4];exact ((B3.out.puts (p:=⟨w0.heap.size,i.a,none⟩) B0.out.out.size (.bool true)).puts (p:=⟨w0.heap.size,17,none⟩) B0.out.out.size (.bool true)).puts (p:=⟨w0.heap.size,18,none⟩) B0.out.out.size (.bool true)⟩;rw [hw4];have HTX:=Aside.mk (tgL_hi HF4.out.tb.len (.slice (some ⟨r,0,none⟩) n c2));have HST:=Aside.mk ((HF4.out.keep (Bl.refl _).drew).st);clear hw4
       have HTXE:=Aside.mk hTX;clear hTX
       go_wp2_with (first
        | (refine wpList_load_row rfl 62 (.tmp 12) rfl w0.heap.size rfl 62 (tgV TX (.slice (some ⟨r,0,none⟩) n c2)) (0,0) _ HF4.out.tb.h Tryz.underlying62 rfl HF4.out.rw.1 ?_)
        | (refine wpList_store_row rfl 62 (.tmp 10) (.tmp 148) rfl (w.heap.size+3) (tgV TX (.slice (some ⟨r,0,none⟩) n c2)) rfl rfl 62 _ HF4.out.fw.zb HF4.out.rw.1 (by rw [HF4.out.rw.2.1];rfl) HF4.out.rw.2.2 ?_))
       refine bodyPost_ret (results_row_tmp rfl _ _ (w.heap.size+3) 62 (tgV TX (.slice (some ⟨r,0,none⟩) n c2)) (0,0) _ rfl (setRow_heap _ _ _ _ _ (0,0) HF4.out.fw.zb) Tryz.underlying62 rfl HF4.out.rw.1) rfl ?_;refine fdp2 r c2 _ TX rfl ?_ ?_ (HF4.out.fin _) ⟨below_setRow B4.out.out (by omega) _⟩
       · rw [←HTXE.out,←HU.out]
         all_goals show ((({t with R:=t.R.set i.a ((tagR t i.b) || false),NZ:=((tagR t i.b) || false),CV:=((tagR t i.b) || false)}:TG),(!((tagR t i.b)&&false) && !(i.u&&t.CV))):TG×Bool).1=_
         try rw [HBB.out]
         try rw [HCC.out]
         try rw [HUU.out]
         try rw [HCV.out]
         try rfl
       · rw [←HU.out]
         all_goals show ((({t with R:=t.R.set i.a ((tagR t i.b) || false),NZ:=((tagR t i.b) || false),CV:=((tagR t i.b) || false)}:TG),(!((tagR t i.b)&&false) && !(i.u&&t.CV))):TG×Bool).2=_
         try rw [HBB.out]
         try rw [HCC.out]
         try rw [HUU.out]
         try rw [HCV.out]
         try rfl
end
end Go.Proofs.YtjmiaemabhlnjaaGreatDoor.Chains.Shifts
end
