/- A part of the proof of TopShifts. -/
import Derived.Test.YtjmiaemabhlnjaaGreatDoorR25
import Derived.Test.YtjmiaemabhlnjaaGreatDoorR27
import Derived.Deep.QuietTactic
import Derived.Deep.RegionHeld3
import Derived.Deep.MidRow
section
set_option linter.all false
set_option maxRecDepth 20000
namespace Go.Proofs.YtjmiaemabhlnjaaGreatDoor.Chains.Shifts
open Go Go.RowKit Go.Proofs.YtjmiaemabhlnjaaGreatDoor.Chains
section
variable {w:World} {t:TG} {ad:Addr} {n c:Nat} {i:I} {s:RS}
set_option maxHeartbeats 40000000 in
theorem feed_5n_0 (hR:t.R.length=16) (hW:RdB w ad c t.W) (hn:t.W.length=n) (hn40:n≤40) (hs:s.Ok) (ho:IOk i) {base words:Nat} (hk:i.kd=5) (hop:i.op=0) (hbt:tagR t i.b=false) :
 Calls Tryz.prog 24 #[.agg (tgV t (.slice (some ad) n c)),.agg (iV i),.agg s.arr,.int .i64 (base:Int),.int .i64 (words:Int)] w fun e w'=>FdPost w n (feedS t i s base words) e w':=by
 obtain ⟨U,hU0⟩:∃U,feedS t i s base words=U:=⟨_,rfl⟩;rw [hU0];have HU0:=Aside.mk (And.intro hk (And.intro hbt hU0));clear hU0;obtain ⟨j0,hj,hj0,hj1,hj2⟩:=info_parts infoB;obtain ⟨w0,hw0,F0,B0,HZ0,HT,HW,HN,HO,hnc,hb0,hb1,hc0,hc1,ha0,ha1,ha17,ha18,ha16⟩:=feed_pre (s:=s) hR hW hn ho
 have hkd:(i.kd:Int)=5:=by omega
 obtain ⟨bb,hbb⟩:∃bb,tagR t i.b=bb:=⟨_,rfl⟩;obtain ⟨cc,hcc⟩:∃cc,tagR t i.c=cc:=⟨_,rfl⟩;obtain ⟨aa,haa⟩:∃aa,tagR t i.a=aa:=⟨_,rfl⟩;obtain ⟨uu,huu⟩:∃uu,i.u=uu:=⟨_,rfl⟩;obtain ⟨nz,hnz⟩:∃nz,t.NZ=nz:=⟨_,rfl⟩;obtain ⟨cv,hcv⟩:∃cv,t.CV=cv:=⟨_,rfl⟩;have HBB:=Aside.mk hbb;have HCC:=Aside.mk hcc;have HAA:=Aside.mk haa;have HUU:=Aside.mk huu;have HNZ:=Aside.mk hnz;have HCV:=Aside.mk hcv;clear hbb hcc haa huu hnz hcv
 have hat:((reg s i.b:Int)+i.im%4294967296)%4294967296=((((reg s i.b+word32 i.im)%4294967296):Nat):Int):=by unfold word32;omega
 have hal:((reg s i.b+word32 i.im)%4294967296)<4294967296:=Nat.mod_lt _ (by decide);obtain ⟨AT,hAT⟩:∃AT,((reg s i.b+word32 i.im)%4294967296)=AT:=⟨_,rfl⟩;have HAT:=Aside.mk hAT;rw [hAT] at hat hal;obtain ⟨XB,hXB⟩:∃XB,reg s i.b=XB:=⟨_,rfl⟩;have HXB:=Aside.mk hXB;rw [hXB] at hat;have HOS:=Aside.mk hs;clear hAT hXB
 have h4:AT=4294967232∨AT=4294967236∨AT=4294967240∨(¬AT=4294967232∧¬AT=4294967236∧¬AT=4294967240):=by omega
 have H4:=Aside.mk h4;have HOP:=Aside.mk hop;clear h4 hop
 obtain rfl:bb=false:=by rw [←HBB.out];exact hbt
 clear hbt;clear hW ho;go_enter Tryz.func24,Tryz.ntmps24
 go_wp2_with (first
  | (refine wpList_load_row rfl 62 (.tmp 5) rfl w.heap.size rfl 62 (tgV t (.slice (some ad) n c)) (0,0) _ F0.out.tb.h Tryz.underlying62 rfl HT.out.1 ?_)
  | (refine wpList_store_row rfl 62 (.tmp 12) (.tmp 22) rfl w0.heap.size (tgV t (.slice (some ad) n c)) rfl rfl 62 _ (heap_alloc_new w0 _) HT.out.1 (by rw [HT.out.2.1];rfl) HT.out.2.2 ?_
     rw [World.setRow_alloc_new];obtain ⟨w1,hw1,B1,O1,F1,c16,c17,c18,f16,l1,l2⟩:=feed_w1 hR F0;rw [hw1]
     clear hw1)
  | (at_builtin
     refine wpList_append_own_at _ rfl (.tmp 23) (.tmp 25) 59 rfl w1.heap.size 4 j0 (.bool false) 1 1 Tryz.underlying59 hj hj0 hj1 hj2 rfl (by decide) (.slice (some ⟨w1.heap.size,0,none⟩) 0 0) 0 (bv []) rfl (own_madeB w1 w1.heap.size (Nat.le_refl _)) ad n c (bv t.W) rfl (by simp [bv,HN.out]) (((HW.out.keep B0.out).keep (B1.out.alloc _)).vals) (bv_one _) (by unfold maxLen;omega) (by omega) (by simp) ?_
     intro v2 w2 hown hgrow hnil hloc;have B2:=Aside.mk (show Bl w1 w2 from ((Bl.refl w1).alloc (.cells #[] 4)).grow hgrow (fun g e=>by obtain rfl:=Option.some.inj e;exact Nat.le_refl _));obtain ⟨r,c2,rfl,g16,d16,d17,d18,w3,hw3,HF3,B3,⟨i0,i1,i2,i3,i4,i5,i6⟩,rb,rc,ra,⟨t16,t17,t18⟩,oa,⟨o16,o17,o18⟩,of⟩:=feed_w3 B0 HZ0 HO B1 O1 F1 B2.out (by simpa [bv] using hown) (fun e=>by have:=(hnil.1 e).1;cases this)
     rw [hkd] at i0;rw [HBB.out] at rb;rw [HCC.out] at rc;rw [HAA.out] at ra oa;rw [HUU.out] at i6;rw [HNZ.out] at t17 o17;rw [HCV.out] at t18 o18;have sb:=reg_cell2 HF3.out.fw.rb HOS.out HO.out.b;rw [HXB.out] at sb
     clear hown hgrow hnil hloc c16 c17 c18 f16 l1 l2)
  )
 have hop:=HOP.out;have h4:=H4.out;clear HOP H4
 have hopi:(i.op:Int)=0:=by omega
 have HU:=Aside.mk ((fs_5n_0 HU0.out.1 hop HU0.out.2.1).trans HU0.out.2.2)
 all_goals
  have HOPI:=Aside.mk hopi;rw [hopi] at i1;clear HU0
  rcases h4 with rfl | rfl | rfl | hp
  all_goals
   first
    | (have h1:((AT:Int)==4294967232)=false:=by rw [beq_eq_false_iff_ne];omega
       have h2:((AT:Int)==4294967236)=false:=by rw [beq_eq_false_iff_ne];omega
       have h3:((AT:Int)==4294967240)=false:=by rw [beq_eq_false_iff_ne];omega
       have h1n:¬(AT=4294967232):=hp.1;have h2n:¬(AT=4294967236):=hp.2.1;have h3n:¬(AT=4294967240):=hp.2.2;have HP:=Aside.mk hp
       clear hp)
    | skip
   go_quiet (fail)
   have HF3q:=Aside.mk (HF3.out.keep (Bl.dN (n:=nq) (Bl.refl _)));have B3q:=Aside.mk (B3.out.dN (n:=nq))
   go_wp2_with fail
   obtain ⟨TX,hTX⟩:∃TX:TG,({t with R:=t.R.set i.a false,NZ:=false}:TG)=TX:=⟨_,rfl⟩;obtain ⟨w4,hw4⟩:∃w4,((w3.drewN nq).setCell ⟨w0.heap.size,i.a,none⟩ (.bool false)).setCell ⟨w0.heap.size,17,none⟩ (.bool false)=w4:=⟨_,rfl⟩;have HF4:Aside (FO w4 w.heap.size w0.heap.size r n c2 t ad c i s TX):=⟨by rw [←hTX,←hw4];exact (HF3q.out.setR HO.out.a false).setNZ false⟩;have B4:Aside (Bl w w4):=⟨by rw [←hw4];exact (B3q.out.puts (p:=⟨w0.heap.size,i.a,none⟩) B0.out.out.size (.bool false)).puts (p:=⟨w0.heap.size,17,none⟩) B0.out.out.size (.bool false)⟩
   rw [hw4];have HTX:=Aside.mk (tgL_hi HF4.out.tb.len (.slice (some ⟨r,0,none⟩) n c2));have HST:=Aside.mk ((HF4.out.keep (Bl.refl _).drew).st);clear hw4;have HTXE:=Aside.mk hTX;clear hTX;refine wp_region_held_drew (S:=fun w'=>FS w' w.heap.size w0.heap.size t (.slice (some ad) n c) i s TX (.slice (some ⟨r,0,none⟩) n c2)) (by kernel_rfl) ?hS0 (fun hS=>?_)
   case hS0=>exact (HF4.out.keep (Bl.refl _).drew).fs
   refine yK 0 yo59 (.agg (tgV TX (.slice (some ⟨r,0,none⟩) n c2))) (yieldsIf_load_mid rfl 62 _ rfl w0.heap.size 0 rfl (tgL TX (.slice (some ⟨r,0,none⟩) n c2)) _ (fun wx hx=>FS.ld hx) Tryz.underlying62 rfl HTX.out) hS ?_;refine yR 1 yo60 _ hS ?_;refine yR 2 yo61 _ hS ?_
   first | (refine yS 3 yo62 hS ?_) | (refine yG 3 yo62 (.pointer (some ⟨w.heap.size+1,1,none⟩)) hS ?_)
   first | (refine yS 4 yo63 hS ?_) | (refine yK 4 yo63 (.int .i64 0) (.inl ⟨rfl,fun wx hx=>by have hc:=(show wx.cell? ⟨w.heap.size+1,1,none⟩=some (.int .i64 0) from by have q:=ins_c (FS.ib hx);rw [HOPI.out] at q;exact q.2.1);go_simp⟩) hS ?_)
   first | (refine yS 5 yo64 hS ?_) | (refine yR 5 yo64 _ hS ?_)
   first | (refine yS 6 yo65 hS ?_) | (refine yR 6 yo65 _ hS ?_)
   refine yS 7 yo66 hS ?_;refine yS 8 yo67 hS ?_;refine yS 9 yo68 hS ?_
   first | (refine yS 10 yo69 hS ?_) | (refine yR 10 yo69 _ hS ?_)
   refine yR 11 yo70 _ hS ?_;refine yR 12 yo71 _ hS ?_
   first | (refine yS 13 yo72 hS ?_) | (refine yR 13 yo72 _ hS ?_)
   first | (refine yS 14 yo73 hS ?_) | (refine yR 14 yo73 _ hS ?_)
   refine yS 15 yo74 hS ?_;refine yS 16 yo75 hS ?_;refine yS 17 yo76 hS ?_;refine yS 18 yo77 hS ?_;refine yS 19 yo78 hS ?_
   first | (refine yS 20 yo79 hS ?_) | (refine yR 20 yo79 _ hS ?_)
   first | (refine yS 21 yo80 hS ?_) | (refine yR 21 yo80 _ hS ?_)
   refine yR 22 yo81 _ hS ?_;refine wpAnyH_ready (rs:=[23]) (by kernel_rfl) (by simp) (AllReadyH.cons (o:=yo83) rfl (fun K hK=>?_) AllReadyH.nil);rw [if_pos (by rfl)];refine wp_store_run 62 _ _ rfl (.pointer (some ⟨w.heap.size+3,0,none⟩)) (.agg (tgV TX (.slice (some ⟨r,0,none⟩) n c2))) rfl rfl HST.out ?_;refine hK.out _ _ (FS.row hS _) (fun hS=>?_);clear hK K
   try simp only [Act.put,List.setIfInBounds_toArray,List.set_cons_zero,List.set_cons_succ]
   refine yR 24 yo82 _ hS ?_;refine wpAnyH_done (by kernel_rfl) ?_ _;go_wp2;refine bodyPost_ret (results_row_tmp rfl _ _ (w.heap.size+3) 62 (tgV TX (.slice (some ⟨r,0,none⟩) n c2)) (0,0) _ rfl (setRow_heap _ _ _ _ _ (0,0) (HF4.out.keep (Bl.refl _).drew).fw.zb) Tryz.underlying62 rfl HF4.out.rw.1) rfl ?_;refine fdp2 r c2 _ TX rfl ?_ ?_ ((HF4.out.keep (Bl.refl _).drew).fin _) ⟨below_setRow (B4.out.drew).out (by omega) _⟩
   · rw [←HTXE.out,←HU.out]
     all_goals show ((({t with R:=t.R.set i.a false,NZ:=false}:TG),(((reg s i.b+word32 i.im)%4294967296)==4294967232 || ((reg s i.b+word32 i.im)%4294967296)==4294967236 || ((reg s i.b+word32 i.im)%4294967296)==4294967240)):TG×Bool).1=_
     try rw [HAA.out]
     try rw [HAT.out]
     try simp [HP.out.1,HP.out.2.1,HP.out.2.2]
     try rfl
   · rw [←HU.out]
     all_goals show ((({t with R:=t.R.set i.a false,NZ:=false}:TG),(((reg s i.b+word32 i.im)%4294967296)==4294967232 || ((reg s i.b+word32 i.im)%4294967296)==4294967236 || ((reg s i.b+word32 i.im)%4294967296)==4294967240)):TG×Bool).2=_
     try rw [HAA.out]
     try rw [HAT.out]
     try simp [HP.out.1,HP.out.2.1,HP.out.2.2]
     try rfl
set_option maxHeartbeats 40000000 in
theorem feed_5n_1 (hR:t.R.length=16) (hW:RdB w ad c t.W) (hn:t.W.length=n) (hn40:n≤40) (hs:s.Ok) (ho:IOk i) {base words:Nat} (hk:i.kd=5) (hop:i.op=1) (hbt:tagR t i.b=false) :
 Calls Tryz.prog 24 #[.agg (tgV t (.slice (some ad) n c)),.agg (iV i),.agg s.arr,.int .i64 (base:Int),.int .i64 (words:Int)] w fun e w'=>FdPost w n (feedS t i s base words) e w':=by
 obtain ⟨U,hU0⟩:∃U,feedS t i s base words=U:=⟨_,rfl⟩;rw [hU0];have HU0:=Aside.mk (And.intro hk (And.intro hbt hU0));clear hU0;obtain ⟨j0,hj,hj0,hj1,hj2⟩:=info_parts infoB;obtain ⟨w0,hw0,F0,B0,HZ0,HT,HW,HN,HO,hnc,hb0,hb1,hc0,hc1,ha0,ha1,ha17,ha18,ha16⟩:=feed_pre (s:=s) hR hW hn ho
 have hkd:(i.kd:Int)=5:=by omega
 obtain ⟨bb,hbb⟩:∃bb,tagR t i.b=bb:=⟨_,rfl⟩;obtain ⟨cc,hcc⟩:∃cc,tagR t i.c=cc:=⟨_,rfl⟩;obtain ⟨aa,haa⟩:∃aa,tagR t i.a=aa:=⟨_,rfl⟩;obtain ⟨uu,huu⟩:∃uu,i.u=uu:=⟨_,rfl⟩;obtain ⟨nz,hnz⟩:∃nz,t.NZ=nz:=⟨_,rfl⟩;obtain ⟨cv,hcv⟩:∃cv,t.CV=cv:=⟨_,rfl⟩;have HBB:=Aside.mk hbb;have HCC:=Aside.mk hcc;have HAA:=Aside.mk haa;have HUU:=Aside.mk huu;have HNZ:=Aside.mk hnz;have HCV:=Aside.mk hcv;clear hbb hcc haa huu hnz hcv
 have hat:((reg s i.b:Int)+i.im%4294967296)%4294967296=((((reg s i.b+word32 i.im)%4294967296):Nat):Int):=by unfold word32;omega
 have hal:((reg s i.b+word32 i.im)%4294967296)<4294967296:=Nat.mod_lt _ (by decide);obtain ⟨AT,hAT⟩:∃AT,((reg s i.b+word32 i.im)%4294967296)=AT:=⟨_,rfl⟩;have HAT:=Aside.mk hAT;rw [hAT] at hat hal;obtain ⟨XB,hXB⟩:∃XB,reg s i.b=XB:=⟨_,rfl⟩;have HXB:=Aside.mk hXB;rw [hXB] at hat;have HOS:=Aside.mk hs;clear hAT hXB
 have h4:AT=4294967232∨AT=4294967236∨AT=4294967240∨(¬AT=4294967232∧¬AT=4294967236∧¬AT=4294967240):=by omega
 have H4:=Aside.mk h4;have HOP:=Aside.mk hop;clear h4 hop
 obtain rfl:bb=false:=by rw [←HBB.out];exact hbt
 clear hbt;clear hW ho;go_enter Tryz.func24,Tryz.ntmps24
 go_wp2_with (first
  | (refine wpList_load_row rfl 62 (.tmp 5) rfl w.heap.size rfl 62 (tgV t (.slice (some ad) n c)) (0,0) _ F0.out.tb.h Tryz.underlying62 rfl HT.out.1 ?_)
  | (refine wpList_store_row rfl 62 (.tmp 12) (.tmp 22) rfl w0.heap.size (tgV t (.slice (some ad) n c)) rfl rfl 62 _ (heap_alloc_new w0 _) HT.out.1 (by rw [HT.out.2.1];rfl) HT.out.2.2 ?_
     rw [World.setRow_alloc_new];obtain ⟨w1,hw1,B1,O1,F1,c16,c17,c18,f16,l1,l2⟩:=feed_w1 hR F0;rw [hw1]
     clear hw1)
  | (at_builtin
     refine wpList_append_own_at _ rfl (.tmp 23) (.tmp 25) 59 rfl w1.heap.size 4 j0 (.bool false) 1 1 Tryz.underlying59 hj hj0 hj1 hj2 rfl (by decide) (.slice (some ⟨w1.heap.size,0,none⟩) 0 0) 0 (bv []) rfl (own_madeB w1 w1.heap.size (Nat.le_refl _)) ad n c (bv t.W) rfl (by simp [bv,HN.out]) (((HW.out.keep B0.out).keep (B1.out.alloc _)).vals) (bv_one _) (by unfold maxLen;omega) (by omega) (by simp) ?_
     intro v2 w2 hown hgrow hnil hloc;have B2:=Aside.mk (show Bl w1 w2 from ((Bl.refl w1).alloc (.cells #[] 4)).grow hgrow (fun g e=>by obtain rfl:=Option.some.inj e;exact Nat.le_refl _));obtain ⟨r,c2,rfl,g16,d16,d17,d18,w3,hw3,HF3,B3,⟨i0,i1,i2,i3,i4,i5,i6⟩,rb,rc,ra,⟨t16,t17,t18⟩,oa,⟨o16,o17,o18⟩,of⟩:=feed_w3 B0 HZ0 HO B1 O1 F1 B2.out (by simpa [bv] using hown) (fun e=>by have:=(hnil.1 e).1;cases this)
     rw [hkd] at i0;rw [HBB.out] at rb;rw [HCC.out] at rc;rw [HAA.out] at ra oa;rw [HUU.out] at i6;rw [HNZ.out] at t17 o17;rw [HCV.out] at t18 o18;have sb:=reg_cell2 HF3.out.fw.rb HOS.out HO.out.b;rw [HXB.out] at sb
     clear hown hgrow hnil hloc c16 c17 c18 f16 l1 l2)
  )
 have hop:=HOP.out;have h4:=H4.out;clear HOP H4
 have hopi:(i.op:Int)=1:=by omega
 have HU:=Aside.mk ((fs_5n_1 HU0.out.1 hop HU0.out.2.1).trans HU0.out.2.2)
 all_goals
  have HOPI:=Aside.mk hopi;rw [hopi] at i1;clear HU0
  rcases h4 with rfl | rfl | rfl | hp
  all_goals
   first
    | (have h1:((AT:Int)==4294967232)=false:=by rw [beq_eq_false_iff_ne];omega
       have h2:((AT:Int)==4294967236)=false:=by rw [beq_eq_false_iff_ne];omega
       have h3:((AT:Int)==4294967240)=false:=by rw [beq_eq_false_iff_ne];omega
       have h1n:¬(AT=4294967232):=hp.1;have h2n:¬(AT=4294967236):=hp.2.1;have h3n:¬(AT=4294967240):=hp.2.2;have HP:=Aside.mk hp
       clear hp)
    | skip
   go_quiet (fail)
   have HF3q:=Aside.mk (HF3.out.keep (Bl.dN (n:=nq) (Bl.refl _)));have B3q:=Aside.mk (B3.out.dN (n:=nq))
   go_wp2_with fail
   obtain ⟨TX,hTX⟩:∃TX:TG,({t with R:=t.R.set i.a false,NZ:=false}:TG)=TX:=⟨_,rfl⟩;obtain ⟨w4,hw4⟩:∃w4,((w3.drewN nq).setCell ⟨w0.heap.size,i.a,none⟩ (.bool false)).setCell ⟨w0.heap.size,17,none⟩ (.bool false)=w4:=⟨_,rfl⟩;have HF4:Aside (FO w4 w.heap.size w0.heap.size r n c2 t ad c i s TX):=⟨by rw [←hTX,←hw4];exact (HF3q.out.setR HO.out.a false).setNZ false⟩;have B4:Aside (Bl w w4):=⟨by rw [←hw4];exact (B3q.out.puts (p:=⟨w0.heap.size,i.a,none⟩) B0.out.out.size (.bool false)).puts (p:=⟨w0.heap.size,17,none⟩) B0.out.out.size (.bool false)⟩
   rw [hw4];have HTX:=Aside.mk (tgL_hi HF4.out.tb.len (.slice (some ⟨r,0,none⟩) n c2));have HST:=Aside.mk ((HF4.out.keep (Bl.refl _).drew).st);clear hw4;have HTXE:=Aside.mk hTX;clear hTX;refine wp_region_held_drew (S:=fun w'=>FS w' w.heap.size w0.heap.size t (.slice (some ad) n c) i s TX (.slice (some ⟨r,0,none⟩) n c2)) (by kernel_rfl) ?hS0 (fun hS=>?_)
   case hS0=>exact (HF4.out.keep (Bl.refl _).drew).fs
   refine yK 0 yo59 (.agg (tgV TX (.slice (some ⟨r,0,none⟩) n c2))) (yieldsIf_load_mid rfl 62 _ rfl w0.heap.size 0 rfl (tgL TX (.slice (some ⟨r,0,none⟩) n c2)) _ (fun wx hx=>FS.ld hx) Tryz.underlying62 rfl HTX.out) hS ?_;refine yR 1 yo60 _ hS ?_;refine yR 2 yo61 _ hS ?_
   first | (refine yS 3 yo62 hS ?_) | (refine yG 3 yo62 (.pointer (some ⟨w.heap.size+1,1,none⟩)) hS ?_)
   first | (refine yS 4 yo63 hS ?_) | (refine yK 4 yo63 (.int .i64 1) (.inl ⟨rfl,fun wx hx=>by have hc:=(show wx.cell? ⟨w.heap.size+1,1,none⟩=some (.int .i64 1) from by have q:=ins_c (FS.ib hx);rw [HOPI.out] at q;exact q.2.1);go_simp⟩) hS ?_)
   first | (refine yS 5 yo64 hS ?_) | (refine yR 5 yo64 _ hS ?_)
   first | (refine yS 6 yo65 hS ?_) | (refine yR 6 yo65 _ hS ?_)
   first | (refine yS 7 yo66 hS ?_) | (refine yG 7 yo66 (.pointer (some ⟨w.heap.size+1,1,none⟩)) hS ?_)
   first | (refine yS 8 yo67 hS ?_) | (refine yK 8 yo67 (.int .i64 1) (.inl ⟨rfl,fun wx hx=>by have hc:=(show wx.cell? ⟨w.heap.size+1,1,none⟩=some (.int .i64 1) from by have q:=ins_c (FS.ib hx);rw [HOPI.out] at q;exact q.2.1);go_simp⟩) hS ?_)
   first | (refine yS 9 yo68 hS ?_) | (refine yR 9 yo68 _ hS ?_)
   first | (refine yS 10 yo69 hS ?_) | (refine yR 10 yo69 _ hS ?_)
   refine yR 11 yo70 _ hS ?_;refine yR 12 yo71 _ hS ?_;refine yS 13 yo72 hS ?_;refine yS 14 yo73 hS ?_;refine yS 15 yo74 hS ?_;refine yS 16 yo75 hS ?_;refine yS 17 yo76 hS ?_;refine yS 18 yo77 hS ?_;refine yS 19 yo78 hS ?_;refine yS 20 yo79 hS ?_;refine yS 21 yo80 hS ?_;refine yR 22 yo81 _ hS ?_;refine wpAnyH_ready (rs:=[23]) (by kernel_rfl) (by simp) (AllReadyH.cons (o:=yo83) rfl (fun K hK=>?_) AllReadyH.nil)
   rw [if_pos (by rfl)];refine wp_store_run 62 _ _ rfl (.pointer (some ⟨w.heap.size+3,0,none⟩)) (.agg (tgV TX (.slice (some ⟨r,0,none⟩) n c2))) rfl rfl HST.out ?_;refine hK.out _ _ (FS.row hS _) (fun hS=>?_);clear hK K
   try simp only [Act.put,List.setIfInBounds_toArray,List.set_cons_zero,List.set_cons_succ]
   refine yR 24 yo82 _ hS ?_;refine wpAnyH_done (by kernel_rfl) ?_ _;go_wp2;refine bodyPost_ret (results_row_tmp rfl _ _ (w.heap.size+3) 62 (tgV TX (.slice (some ⟨r,0,none⟩) n c2)) (0,0) _ rfl (setRow_heap _ _ _ _ _ (0,0) (HF4.out.keep (Bl.refl _).drew).fw.zb) Tryz.underlying62 rfl HF4.out.rw.1) rfl ?_;refine fdp2 r c2 _ TX rfl ?_ ?_ ((HF4.out.keep (Bl.refl _).drew).fin _) ⟨below_setRow (B4.out.drew).out (by omega) _⟩
   · rw [←HTXE.out,←HU.out]
     all_goals show ((({t with R:=t.R.set i.a false,NZ:=false}:TG),false):TG×Bool).1=_
     try rw [HAA.out]
     try rw [HAT.out]
     try simp [HP.out.1,HP.out.2.1,HP.out.2.2]
     try rfl
   · rw [←HU.out]
     all_goals show ((({t with R:=t.R.set i.a false,NZ:=false}:TG),false):TG×Bool).2=_
     try rw [HAA.out]
     try rw [HAT.out]
     try simp [HP.out.1,HP.out.2.1,HP.out.2.2]
     try rfl
end
end Go.Proofs.YtjmiaemabhlnjaaGreatDoor.Chains.Shifts
end
