/- A part of the proof of TopShifts. -/
import Derived.Test.YtjmiaemabhlnjaaGreatDoorR25
import Derived.Deep.QuietTactic
import Derived.Deep.RegionHeld3
import Derived.Deep.MidRow
section
set_option linter.all false
set_option maxRecDepth 20000
namespace Go.Proofs.YtjmiaemabhlnjaaGreatDoor.Chains.Shifts
open Go Go.RowKit Go.Proofs.YtjmiaemabhlnjaaGreatDoor.Chains
section
variable {w:World} {t:TG} {ad:Addr} {n c:Nat} {i:I} {s:RS}
set_option maxHeartbeats 16000000 in
theorem feed_7 (hR:t.R.length=16) (hW:RdB w ad c t.W) (hn:t.W.length=n) (hn40:n≤40) (hs:s.Ok) (ho:IOk i) {base words:Nat} (hk:i.kd=7) {U:TG×Bool} (hU:(((if i.u then {t with R:=t.R.set 15 (takenS s i.op || tagR t 15)} else t:TG),decide (i.op%8=7) || !t.NZ && !t.CV):TG×Bool)=U) :
 Calls Tryz.prog 24 #[.agg (tgV t (.slice (some ad) n c)),.agg (iV i),.agg s.arr,.int .i64 (base:Int),.int .i64 (words:Int)] w fun e w'=>FdPost w n U e w':=by
 have HU:=Aside.mk hU;clear hU;obtain ⟨j0,hj,hj0,hj1,hj2⟩:=info_parts infoB;obtain ⟨w0,hw0,F0,B0,HZ0,HT,HW,HN,HO,hnc,hb0,hb1,hc0,hc1,ha0,ha1,ha17,ha18,ha16⟩:=feed_pre (s:=s) hR hW hn ho
 have hkd:(i.kd:Int)=7:=by omega
 obtain ⟨bb,hbb⟩:∃bb,tagR t i.b=bb:=⟨_,rfl⟩;obtain ⟨cc,hcc⟩:∃cc,tagR t i.c=cc:=⟨_,rfl⟩;obtain ⟨aa,haa⟩:∃aa,tagR t i.a=aa:=⟨_,rfl⟩;obtain ⟨uu,huu⟩:∃uu,i.u=uu:=⟨_,rfl⟩;obtain ⟨nz,hnz⟩:∃nz,t.NZ=nz:=⟨_,rfl⟩;obtain ⟨cv,hcv⟩:∃cv,t.CV=cv:=⟨_,rfl⟩;have HBB:=Aside.mk hbb;have HCC:=Aside.mk hcc;have HAA:=Aside.mk haa;have HUU:=Aside.mk huu;have HNZ:=Aside.mk hnz;have HCV:=Aside.mk hcv;clear hbb hcc haa huu hnz hcv
 obtain ⟨tk,htk⟩:∃tk,takenS s i.op=tk:=⟨_,rfl⟩;have HTK0:=Aside.mk htk;have HTK:Aside (∀wx,Calls Tryz.prog 48 #[.agg s.arr,.int .i64 (i.op:Int)] wx fun e w'=>e=.returned (.bool tk)∧Bl wx w'):=⟨fun wx=>by have:=taken_any hs (i.op:Int) (by omega) (by have:=ho.op;omega) wx;rw [Int.toNat_natCast,htk] at this;exact this⟩;obtain ⟨r5,hr5⟩:∃r5,tagR t 15=r5:=⟨_,rfl⟩;have HR5:=Aside.mk hr5;obtain ⟨rd,hrd⟩:∃rd,decide (i.op%8=7)=rd:=⟨_,rfl⟩
 have HRD:=Aside.mk hrd;have H49:Aside (∀wx,Calls Tryz.prog 49 #[.int .i64 (i.op:Int)] wx fun e w'=>e=.returned (.bool (!rd))∧w'=wx):=⟨fun wx=>by rw [←hrd];exact reads_any (by have:=ho.op;omega) wx⟩;have HSK:=Aside.mk (And.intro hs (i68l hs));clear htk hr5 hrd;clear hW ho;go_enter Tryz.func24,Tryz.ntmps24
 go_wp2_with (first
  | (refine wpList_load_row rfl 62 (.tmp 5) rfl w.heap.size rfl 62 (tgV t (.slice (some ad) n c)) (0,0) _ F0.out.tb.h Tryz.underlying62 rfl HT.out.1 ?_)
  | (refine wpList_store_row rfl 62 (.tmp 12) (.tmp 22) rfl w0.heap.size (tgV t (.slice (some ad) n c)) rfl rfl 62 _ (heap_alloc_new w0 _) HT.out.1 (by rw [HT.out.2.1];rfl) HT.out.2.2 ?_
     rw [World.setRow_alloc_new];obtain ⟨w1,hw1,B1,O1,F1,c16,c17,c18,f16,l1,l2⟩:=feed_w1 hR F0;rw [hw1]
     clear hw1)
  | (at_builtin
     refine wpList_append_own_at _ rfl (.tmp 23) (.tmp 25) 59 rfl w1.heap.size 4 j0 (.bool false) 1 1 Tryz.underlying59 hj hj0 hj1 hj2 rfl (by decide) (.slice (some ⟨w1.heap.size,0,none⟩) 0 0) 0 (bv []) rfl (own_madeB w1 w1.heap.size (Nat.le_refl _)) ad n c (bv t.W) rfl (by simp [bv,HN.out]) (((HW.out.keep B0.out).keep (B1.out.alloc _)).vals) (bv_one _) (by unfold maxLen;omega) (by omega) (by simp) ?_
     intro v2 w2 hown hgrow hnil hloc;have B2:=Aside.mk (show Bl w1 w2 from ((Bl.refl w1).alloc (.cells #[] 4)).grow hgrow (fun g e=>by obtain rfl:=Option.some.inj e;exact Nat.le_refl _));obtain ⟨r,c2,rfl,g16,d16,d17,d18,w3,hw3,HF3,B3,⟨i0,i1,i2,i3,i4,i5,i6⟩,rb,rc,ra,⟨t16,t17,t18⟩,oa,⟨o16,o17,o18⟩,of⟩:=feed_w3 B0 HZ0 HO B1 O1 F1 B2.out (by simpa [bv] using hown) (fun e=>by have:=(hnil.1 e).1;cases this)
     rw [hkd] at i0;rw [HBB.out] at rb;rw [HCC.out] at rc;rw [HAA.out] at ra oa;rw [HUU.out] at i6;rw [HNZ.out] at t17 o17;rw [HCV.out] at t18 o18;have r15:=HF3.out.fw.tb.rc (j:=15) (by decide);rw [HR5.out] at r15;have O15:=HF3.out.tb.rc (j:=15) (by decide)
     clear hown hgrow hnil hloc c16 c17 c18 f16 l1 l2)
  | (refine stop_at 152 rfl ?_)
  )
 refine Hold.mk ?_;cases uu
 · go_wp2_with fail
   obtain ⟨TX,hTX⟩:∃TX:TG,t=TX:=⟨_,rfl⟩;obtain ⟨w4,hw4⟩:∃w4,w3=w4:=⟨_,rfl⟩;have HF4:Aside (FO w4 w.heap.size w0.heap.size r n c2 t ad c i s TX):=⟨by rw [←hTX,←hw4];exact HF3.out⟩;have B4:Aside (Bl w w4):=⟨by rw [←hw4];exact B3.out⟩;rw [hw4];have HTX:=Aside.mk (tgL_hi HF4.out.tb.len (.slice (some ⟨r,0,none⟩) n c2));have HST:=Aside.mk ((HF4.out.keep (Bl.refl _).drew).st);clear hw4;have HTXE:=Aside.mk hTX
   clear hTX;refine wp_region_held_drew (S:=fun w'=>FS w' w.heap.size w0.heap.size t (.slice (some ad) n c) i s TX (.slice (some ⟨r,0,none⟩) n c2)) (by kernel_rfl) ?hS0 (fun hS=>?_)
   case hS0=>exact (HF4.out.keep (Bl.refl _).drew).fs
   refine yK 0 yo11 (.agg (tgV TX (.slice (some ⟨r,0,none⟩) n c2))) (yieldsIf_load_mid rfl 62 _ rfl w0.heap.size 0 rfl (tgL TX (.slice (some ⟨r,0,none⟩) n c2)) _ (fun wx hx=>FS.ld hx) Tryz.underlying62 rfl HTX.out) hS ?_;refine yG 1 yo12 (.pointer (some ⟨w.heap.size+1,1,none⟩)) hS ?_;refine yK 2 yo13 (.int .i64 (i.op:Int)) (.inl ⟨rfl,fun wx hx=>by have hc:=(show wx.cell? ⟨w.heap.size+1,1,none⟩=some (.int .i64 (i.op:Int)) from by have q:=ins_c (FS.ib hx);exact q.2.1);go_simp⟩) hS ?_
   refine wpAnyH_ready (rs:=[3]) (by kernel_rfl) (by simp) (AllReadyH.cons (o:=yo26) rfl (fun K hK=>?_) AllReadyH.nil)
   go_simp
   (with_reducible refine (H49.out _).mono ?_);rintro e w5 ⟨rfl,rfl⟩
   refine hK.out _ _ hS (fun hS=>?_);clear hK K
   try simp only [Act.put,List.setIfInBounds_toArray,List.set_cons_zero,List.set_cons_succ]
   cases rd
   all_goals
    refine yR 4 yo14 _ hS ?_;refine yR 5 yo15 _ hS ?_
    first | refine yS 6 yo16 hS ?_ | refine yG 6 yo16 (.pointer (some ⟨w.heap.size,17,none⟩)) hS ?_
    first | refine yS 7 yo17 hS ?_ | (refine yK 7 yo17 (.bool nz) (.inl ⟨rfl,fun wx hx=>by have hc:=(show wx.cell? ⟨w.heap.size,17,none⟩=some (.bool nz) from by rw [←HNZ.out];exact (FS.tb hx).cs.2.1);go_simp⟩) hS ?_;cases nz)
    all_goals
     first | refine yS 8 yo18 hS ?_ | refine yR 8 yo18 _ hS ?_
     first | refine yS 9 yo19 hS ?_ | refine yR 9 yo19 _ hS ?_
     first | refine yS 10 yo20 hS ?_ | refine yG 10 yo20 (.pointer (some ⟨w.heap.size,18,none⟩)) hS ?_
     first | refine yS 11 yo21 hS ?_ | refine yK 11 yo21 (.bool cv) (.inl ⟨rfl,fun wx hx=>by have hc:=(show wx.cell? ⟨w.heap.size,18,none⟩=some (.bool cv) from by rw [←HCV.out];exact (FS.tb hx).cs.2.2);go_simp⟩) hS ?_
     first | refine yS 12 yo22 hS ?_ | refine yR 12 yo22 _ hS ?_
     first | refine yS 13 yo23 hS ?_ | refine yR 13 yo23 _ hS ?_
     refine yR 14 yo24 _ hS ?_;refine wpAnyH_ready (rs:=[15]) (by kernel_rfl) (by simp) (AllReadyH.cons (o:=yo27) rfl (fun K hK=>?_) AllReadyH.nil);rw [if_pos (by rfl)];refine wp_store_run 62 _ _ rfl (.pointer (some ⟨w.heap.size+3,0,none⟩)) (.agg (tgV TX (.slice (some ⟨r,0,none⟩) n c2))) rfl rfl HST.out ?_;refine hK.out _ _ (FS.row hS _) (fun hS=>?_);clear hK K
     try simp only [Act.put,List.setIfInBounds_toArray,List.set_cons_zero,List.set_cons_succ]
     refine yR 16 yo25 _ hS ?_;refine wpAnyH_done (by kernel_rfl) ?_ _;go_wp2;refine bodyPost_ret (results_row_tmp rfl _ _ (w.heap.size+3) 62 (tgV TX (.slice (some ⟨r,0,none⟩) n c2)) (0,0) _ rfl (setRow_heap _ _ _ _ _ (0,0) (HF4.out.keep (Bl.refl _).drew).fw.zb) Tryz.underlying62 rfl HF4.out.rw.1) rfl ?_;refine fdp2 r c2 _ TX rfl ?_ ?_ ((HF4.out.keep (Bl.refl _).drew).fin _) ⟨below_setRow (B4.out.drew).out (by omega) _⟩
     · rw [←HTXE.out,←HU.out]
       show (((if i.u then {t with R:=t.R.set 15 (takenS s i.op || tagR t 15)} else t:TG),decide (i.op%8=7) || !t.NZ && !t.CV):TG×Bool).1=_
       try rw [HUU.out]
       try rw [HTK0.out]
       try rw [HR5.out]
       try rw [HRD.out]
       try rw [HBB.out]
       try rw [HCC.out]
       try rw [HAA.out]
       try rw [HNZ.out]
       try rw [HCV.out]
       try rfl
     · rw [←HU.out]
       show (((if i.u then {t with R:=t.R.set 15 (takenS s i.op || tagR t 15)} else t:TG),decide (i.op%8=7) || !t.NZ && !t.CV):TG×Bool).2=_
       try rw [HUU.out]
       try rw [HTK0.out]
       try rw [HR5.out]
       try rw [HRD.out]
       try rw [HBB.out]
       try rw [HCC.out]
       try rw [HAA.out]
       try rw [HNZ.out]
       try rw [HCV.out]
       try rfl
 · cases tk
   · go_wp2_with (first
      | (refine wpList_load_row rfl 68 (.tmp 7) rfl (w.heap.size+2) rfl 68 s.arr (0,0) _ HF3.out.fw.rb Tryz.underlying68 rfl HSK.out.2 ?_)
      | (go_at_call 48;(with_reducible refine (HTK.out _).mono ?_);rintro e w5 ⟨rfl,hb5⟩
         have HF5:=Aside.mk (HF3.out.keep hb5);have B5:=Aside.mk (B3.out.trans hb5);have p15:=HF5.out.fw.tb.rc (j:=15) (by decide);rw [HR5.out] at p15;have q15:=HF5.out.tb.rc (j:=15) (by decide);have pf:=HF5.out.tb.frz 15
         clear hb5))
     obtain ⟨TX,hTX⟩:∃TX:TG,({t with R:=t.R.set 15 r5}:TG)=TX:=⟨_,rfl⟩;obtain ⟨w4,hw4⟩:∃w4,w5.setCell ⟨w0.heap.size,15,none⟩ (.bool r5)=w4:=⟨_,rfl⟩;have HF4:Aside (FO w4 w.heap.size w0.heap.size r n c2 t ad c i s TX):=⟨by rw [←hTX,←hw4];exact HF5.out.setR (by decide) r5⟩;have B4:Aside (Bl w w4):=⟨by rw [←hw4];exact B5.out.puts (p:=⟨w0.heap.size,15,none⟩) B0.out.out.size (.bool r5)⟩;rw [hw4];have HTX:=Aside.mk (tgL_hi HF4.out.tb.len (.slice (some ⟨r,0,none⟩) n c2))
     have HST:=Aside.mk ((HF4.out.keep (Bl.refl _).drew).st);clear hw4;have HTXE:=Aside.mk hTX;clear hTX;refine wp_region_held_drew (S:=fun w'=>FS w' w.heap.size w0.heap.size t (.slice (some ad) n c) i s TX (.slice (some ⟨r,0,none⟩) n c2)) (by kernel_rfl) ?hS0 (fun hS=>?_)
     case hS0=>exact (HF4.out.keep (Bl.refl _).drew).fs
     refine yK 0 yo11 (.agg (tgV TX (.slice (some ⟨r,0,none⟩) n c2))) (yieldsIf_load_mid rfl 62 _ rfl w0.heap.size 0 rfl (tgL TX (.slice (some ⟨r,0,none⟩) n c2)) _ (fun wx hx=>FS.ld hx) Tryz.underlying62 rfl HTX.out) hS ?_;refine yG 1 yo12 (.pointer (some ⟨w.heap.size+1,1,none⟩)) hS ?_;refine yK 2 yo13 (.int .i64 (i.op:Int)) (.inl ⟨rfl,fun wx hx=>by have hc:=(show wx.cell? ⟨w.heap.size+1,1,none⟩=some (.int .i64 (i.op:Int)) from by have q:=ins_c (FS.ib hx);exact q.2.1);go_simp⟩) hS ?_
     refine wpAnyH_ready (rs:=[3]) (by kernel_rfl) (by simp) (AllReadyH.cons (o:=yo26) rfl (fun K hK=>?_) AllReadyH.nil)
     go_simp
     (with_reducible refine (H49.out _).mono ?_);rintro e w5 ⟨rfl,rfl⟩
     refine hK.out _ _ hS (fun hS=>?_);clear hK K
     try simp only [Act.put,List.setIfInBounds_toArray,List.set_cons_zero,List.set_cons_succ]
     cases rd
     all_goals
      refine yR 4 yo14 _ hS ?_;refine yR 5 yo15 _ hS ?_
      first | refine yS 6 yo16 hS ?_ | refine yG 6 yo16 (.pointer (some ⟨w.heap.size,17,none⟩)) hS ?_
      first | refine yS 7 yo17 hS ?_ | (refine yK 7 yo17 (.bool nz) (.inl ⟨rfl,fun wx hx=>by have hc:=(show wx.cell? ⟨w.heap.size,17,none⟩=some (.bool nz) from by rw [←HNZ.out];exact (FS.tb hx).cs.2.1);go_simp⟩) hS ?_;cases nz)
      all_goals
       first | refine yS 8 yo18 hS ?_ | refine yR 8 yo18 _ hS ?_
       first | refine yS 9 yo19 hS ?_ | refine yR 9 yo19 _ hS ?_
       first | refine yS 10 yo20 hS ?_ | refine yG 10 yo20 (.pointer (some ⟨w.heap.size,18,none⟩)) hS ?_
       first | refine yS 11 yo21 hS ?_ | refine yK 11 yo21 (.bool cv) (.inl ⟨rfl,fun wx hx=>by have hc:=(show wx.cell? ⟨w.heap.size,18,none⟩=some (.bool cv) from by rw [←HCV.out];exact (FS.tb hx).cs.2.2);go_simp⟩) hS ?_
       first | refine yS 12 yo22 hS ?_ | refine yR 12 yo22 _ hS ?_
       first | refine yS 13 yo23 hS ?_ | refine yR 13 yo23 _ hS ?_
       refine yR 14 yo24 _ hS ?_;refine wpAnyH_ready (rs:=[15]) (by kernel_rfl) (by simp) (AllReadyH.cons (o:=yo27) rfl (fun K hK=>?_) AllReadyH.nil);rw [if_pos (by rfl)];refine wp_store_run 62 _ _ rfl (.pointer (some ⟨w.heap.size+3,0,none⟩)) (.agg (tgV TX (.slice (some ⟨r,0,none⟩) n c2))) rfl rfl HST.out ?_;refine hK.out _ _ (FS.row hS _) (fun hS=>?_);clear hK K
       try simp only [Act.put,List.setIfInBounds_toArray,List.set_cons_zero,List.set_cons_succ]
       refine yR 16 yo25 _ hS ?_;refine wpAnyH_done (by kernel_rfl) ?_ _;go_wp2;refine bodyPost_ret (results_row_tmp rfl _ _ (w.heap.size+3) 62 (tgV TX (.slice (some ⟨r,0,none⟩) n c2)) (0,0) _ rfl (setRow_heap _ _ _ _ _ (0,0) (HF4.out.keep (Bl.refl _).drew).fw.zb) Tryz.underlying62 rfl HF4.out.rw.1) rfl ?_;refine fdp2 r c2 _ TX rfl ?_ ?_ ((HF4.out.keep (Bl.refl _).drew).fin _) ⟨below_setRow (B4.out.drew).out (by omega) _⟩
       · rw [←HTXE.out,←HU.out]
         show (((if i.u then {t with R:=t.R.set 15 (takenS s i.op || tagR t 15)} else t:TG),decide (i.op%8=7) || !t.NZ && !t.CV):TG×Bool).1=_
         try rw [HUU.out]
         try rw [HTK0.out]
         try rw [HR5.out]
         try rw [HRD.out]
         try rw [HBB.out]
         try rw [HCC.out]
         try rw [HAA.out]
         try rw [HNZ.out]
         try rw [HCV.out]
         try rfl
       · rw [←HU.out]
         show (((if i.u then {t with R:=t.R.set 15 (takenS s i.op || tagR t 15)} else t:TG),decide (i.op%8=7) || !t.NZ && !t.CV):TG×Bool).2=_
         try rw [HUU.out]
         try rw [HTK0.out]
         try rw [HR5.out]
         try rw [HRD.out]
         try rw [HBB.out]
         try rw [HCC.out]
         try rw [HAA.out]
         try rw [HNZ.out]
         try rw [HCV.out]
         try rfl
   · go_wp2_with (first
      | (refine wpList_load_row rfl 68 (.tmp 7) rfl (w.heap.size+2) rfl 68 s.arr (0,0) _ HF3.out.fw.rb Tryz.underlying68 rfl HSK.out.2 ?_)
      | (go_at_call 48;(with_reducible refine (HTK.out _).mono ?_);rintro e w5 ⟨rfl,hb5⟩
         have HF5:=Aside.mk (HF3.out.keep hb5);have B5:=Aside.mk (B3.out.trans hb5);have p15:=HF5.out.fw.tb.rc (j:=15) (by decide);rw [HR5.out] at p15;have q15:=HF5.out.tb.rc (j:=15) (by decide);have pf:=HF5.out.tb.frz 15
         clear hb5))
     obtain ⟨TX,hTX⟩:∃TX:TG,({t with R:=t.R.set 15 true}:TG)=TX:=⟨_,rfl⟩;obtain ⟨w4,hw4⟩:∃w4,w5.setCell ⟨w0.heap.size,15,none⟩ (.bool true)=w4:=⟨_,rfl⟩;have HF4:Aside (FO w4 w.heap.size w0.heap.size r n c2 t ad c i s TX):=⟨by rw [←hTX,←hw4];exact HF5.out.setR (by decide) true⟩;have B4:Aside (Bl w w4):=⟨by rw [←hw4];exact B5.out.puts (p:=⟨w0.heap.size,15,none⟩) B0.out.out.size (.bool true)⟩;rw [hw4]
     have HTX:=Aside.mk (tgL_hi HF4.out.tb.len (.slice (some ⟨r,0,none⟩) n c2));have HST:=Aside.mk ((HF4.out.keep (Bl.refl _).drew).st);clear hw4;have HTXE:=Aside.mk hTX;clear hTX;refine wp_region_held_drew (S:=fun w'=>FS w' w.heap.size w0.heap.size t (.slice (some ad) n c) i s TX (.slice (some ⟨r,0,none⟩) n c2)) (by kernel_rfl) ?hS0 (fun hS=>?_)
     case hS0=>exact (HF4.out.keep (Bl.refl _).drew).fs
     refine yK 0 yo11 (.agg (tgV TX (.slice (some ⟨r,0,none⟩) n c2))) (yieldsIf_load_mid rfl 62 _ rfl w0.heap.size 0 rfl (tgL TX (.slice (some ⟨r,0,none⟩) n c2)) _ (fun wx hx=>FS.ld hx) Tryz.underlying62 rfl HTX.out) hS ?_;refine yG 1 yo12 (.pointer (some ⟨w.heap.size+1,1,none⟩)) hS ?_;refine yK 2 yo13 (.int .i64 (i.op:Int)) (.inl ⟨rfl,fun wx hx=>by have hc:=(show wx.cell? ⟨w.heap.size+1,1,none⟩=some (.int .i64 (i.op:Int)) from by have q:=ins_c (FS.ib hx);exact q.2.1);go_simp⟩) hS ?_
     refine wpAnyH_ready (rs:=[3]) (by kernel_rfl) (by simp) (AllReadyH.cons (o:=yo26) rfl (fun K hK=>?_) AllReadyH.nil)
     go_simp
     (with_reducible refine (H49.out _).mono ?_);rintro e w5 ⟨rfl,rfl⟩
     refine hK.out _ _ hS (fun hS=>?_);clear hK K
     try simp only [Act.put,List.setIfInBounds_toArray,List.set_cons_zero,List.set_cons_succ]
     cases rd
     all_goals
      refine yR 4 yo14 _ hS ?_;refine yR 5 yo15 _ hS ?_
      first | refine yS 6 yo16 hS ?_ | refine yG 6 yo16 (.pointer (some ⟨w.heap.size,17,none⟩)) hS ?_
      first | refine yS 7 yo17 hS ?_ | (refine yK 7 yo17 (.bool nz) (.inl ⟨rfl,fun wx hx=>by have hc:=(show wx.cell? ⟨w.heap.size,17,none⟩=some (.bool nz) from by rw [←HNZ.out];exact (FS.tb hx).cs.2.1);go_simp⟩) hS ?_;cases nz)
      all_goals
       first | refine yS 8 yo18 hS ?_ | refine yR 8 yo18 _ hS ?_
       first | refine yS 9 yo19 hS ?_ | refine yR 9 yo19 _ hS ?_
       first | refine yS 10 yo20 hS ?_ | refine yG 10 yo20 (.pointer (some ⟨w.heap.size,18,none⟩)) hS ?_
       first | refine yS 11 yo21 hS ?_ | refine yK 11 yo21 (.bool cv) (.inl ⟨rfl,fun wx hx=>by have hc:=(show wx.cell? ⟨w.heap.size,18,none⟩=some (.bool cv) from by rw [←HCV.out];exact (FS.tb hx).cs.2.2);go_simp⟩) hS ?_
       first | refine yS 12 yo22 hS ?_ | refine yR 12 yo22 _ hS ?_
       first | refine yS 13 yo23 hS ?_ | refine yR 13 yo23 _ hS ?_
       refine yR 14 yo24 _ hS ?_;refine wpAnyH_ready (rs:=[15]) (by kernel_rfl) (by simp) (AllReadyH.cons (o:=yo27) rfl (fun K hK=>?_) AllReadyH.nil);rw [if_pos (by rfl)];refine wp_store_run 62 _ _ rfl (.pointer (some ⟨w.heap.size+3,0,none⟩)) (.agg (tgV TX (.slice (some ⟨r,0,none⟩) n c2))) rfl rfl HST.out ?_;refine hK.out _ _ (FS.row hS _) (fun hS=>?_);clear hK K
       try simp only [Act.put,List.setIfInBounds_toArray,List.set_cons_zero,List.set_cons_succ]
       refine yR 16 yo25 _ hS ?_;refine wpAnyH_done (by kernel_rfl) ?_ _;go_wp2;refine bodyPost_ret (results_row_tmp rfl _ _ (w.heap.size+3) 62 (tgV TX (.slice (some ⟨r,0,none⟩) n c2)) (0,0) _ rfl (setRow_heap _ _ _ _ _ (0,0) (HF4.out.keep (Bl.refl _).drew).fw.zb) Tryz.underlying62 rfl HF4.out.rw.1) rfl ?_;refine fdp2 r c2 _ TX rfl ?_ ?_ ((HF4.out.keep (Bl.refl _).drew).fin _) ⟨below_setRow (B4.out.drew).out (by omega) _⟩
       · rw [←HTXE.out,←HU.out]
         show (((if i.u then {t with R:=t.R.set 15 (takenS s i.op || tagR t 15)} else t:TG),decide (i.op%8=7) || !t.NZ && !t.CV):TG×Bool).1=_
         try rw [HUU.out]
         try rw [HTK0.out]
         try rw [HR5.out]
         try rw [HRD.out]
         try rw [HBB.out]
         try rw [HCC.out]
         try rw [HAA.out]
         try rw [HNZ.out]
         try rw [HCV.out]
         try rfl
       · rw [←HU.out]
         show (((if i.u then {t with R:=t.R.set 15 (takenS s i.op || tagR t 15)} else t:TG),decide (i.op%8=7) || !t.NZ && !t.CV):TG×Bool).2=_
         try rw [HUU.out]
         try rw [HTK0.out]
         try rw [HR5.out]
         try rw [HRD.out]
         try rw [HBB.out]
         try rw [HCC.out]
         try rw [HAA.out]
         try rw [HNZ.out]
         try rw [HCV.out]
         try rfl
end
end Go.Proofs.YtjmiaemabhlnjaaGreatDoor.Chains.Shifts
end
