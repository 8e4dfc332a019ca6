/- A part of the proof of TopShifts. -/
import Derived.Test.YtjmiaemabhlnjaaGreatDoorQ2
import Derived.Deep.RegionHeld3
import Derived.Test.YtjmiaemabhlnjaaGreatDoorQ0
import Derived.Deep.MidRow
section
set_option linter.all false
set_option maxRecDepth 20000
namespace Go.Proofs.YtjmiaemabhlnjaaGreatDoor.Chains.Shifts
open Go Go.RowKit Go.Proofs.YtjmiaemabhlnjaaGreatDoor.Chains
set_option maxHeartbeats 4000000 in
theorem do_imm_p_ok {s:RS} (h:s.Ok) {op a b c:Nat} {im:Int} {u:Bool} (ha:a<16) (hb:b<16) (hc:c<16) (hop:op<12) (hk:ukOf op=195) (hok:(aluS UA s op u (reg s b) (word32 im)).ok=true) (hm:∀wx,Calls Tryz.prog 81 #[.agg (insV 2 op a b c im u)] wx fun e w'=>e=.returned (.bool true)∧Bl wx w') (w:World) :
 Calls Tryz.prog 86 #[.agg s.arr,.agg (insV 2 op a b c im u)] w fun e w'=>e=.returned (.tuple #[.agg (showS (putR (aluS UA s op u (reg s b) (word32 im)).s a (aluS UA s op u (reg s b) (word32 im)).x) (aluS UA s op u (reg s b) (word32 im)).x).arr,.int .i64 0])∧Bl w w':=by
 have HM:=Aside.mk hm;have hfd:=field_0
 have hb0:(0:Int)≤(b:Int):=by omega
 have hb1:(b:Int)<16:=by omega
 have hx:=(alu_s_ok h op u (reg_lt' h b) (word32_lt im)).1;have hs2:=(alu_s_ok h op u (reg_lt' h b) (word32_lt im)).2;have HU:=Aside.mk (fun wx=>units_p hop hk wx);obtain ⟨N,hN⟩:∃N,(word32 im)=N:=⟨_,rfl⟩
 have hNl:N<4294967296:=by rw [←hN];exact (word32_lt im)
 obtain ⟨BB,hB⟩:∃BB,reg s b=BB:=⟨_,rfl⟩
 have hBl:BB<4294967296:=by rw [←hB];exact reg_lt' h b
 rw [hB,hN] at hok hx hs2 ⊢;obtain ⟨X,hX⟩:∃X,(aluS UA s op u BB N).x=X:=⟨_,rfl⟩;obtain ⟨s2,hS2⟩:∃s2,(aluS UA s op u BB N).s=s2:=⟨_,rfl⟩;rw [hX] at hx ⊢;rw [hS2] at hs2 ⊢;have HUC:=Aside.mk (And.intro hok (And.intro hX hS2));have HUC2:=Aside.mk (And.intro hBl hNl);have HN:=Aside.mk hN
 have hwN:im%4294967296=(N:Int):=by rw [←hN];unfold word32;omega
 obtain ⟨RV,hRV⟩:∃RV,s.arr=RV:=⟨_,rfl⟩;obtain ⟨RV2,hRV2⟩:∃RV2,(putR s2 a X).arr=RV2:=⟨_,rfl⟩;obtain ⟨RV3,hRV3⟩:∃RV3,(showS (putR s2 a X) X).arr=RV3:=⟨_,rfl⟩;have HSh:=Aside.mk (fun wx=>show_any (ok_put hs2 a hx) X hx wx);rw [hRV2,hRV3] at HSh;rw [hRV,hRV3];have E2:=Aside.mk hRV2;have Z3:=Aside.mk (sz3 (ok_show (ok_put hs2 a hx) X) hRV3);clear hRV2 hRV3;obtain ⟨w0,hw0⟩:∃w0,((w.alloc (.cells RV 68)).alloc (.cells (insV 2 op a b c im u) 72)).alloc (.cells zR 68)=w0:=⟨_,rfl⟩
 have hD:DoW w0 w.heap.size s 2 op a b c im u zR:=by
  rw [←hw0,←hRV]
  have k:((w.alloc (.cells s.arr 68)).alloc (.cells (insV 2 op a b c im u) 72)).heap.size=w.heap.size+2:=by simp
  have n2:=heap_alloc_new ((w.alloc (.cells s.arr 68)).alloc (.cells (insV 2 op a b c im u) 72)) (.cells zR 68);rw [k] at n2;exact ⟨⟨(heap_alloc_old _ _ (by simp;omega)).trans (heap_alloc2_old w _ _),h⟩,(heap_alloc_old _ _ (by simp)).trans (heap_alloc2_new w _ _),n2,rfl⟩
 have D0:=Aside.mk hD;have B0:=Aside.mk (show Bl w w0 by rw [←hw0];exact (((Bl.refl w).alloc _).alloc _).alloc _);have E1:=Aside.mk hRV;have HS:=Aside.mk h;clear hm h hD hRV hok hX hS2 hN hBl hNl;clear hk
 all_goals
  go_enter Tryz.func86,Tryz.ntmps86
  go_wp2_with (first
   | (refine wpList_load_row rfl 72 (.tmp 3) rfl (w.heap.size+1) rfl 72 _ (0,0) _ D0.out.i Tryz.underlying72 rfl i72 ?_)
   | (go_at_call 81;with_reducible refine (HM.out _).mono ?_;rintro e w1 ⟨rfl,hb1⟩;have D1:=Aside.mk (D0.out.keep hb1);have B1:=Aside.mk (B0.out.trans hb1);clear hb1
      have c0:=D1.out.ic (j:=0) rfl
      have R1:=Aside.mk (RN.mk D1.out.r E1.out))
   | (refine wpList_load_row rfl 68 (.tmp 2) rfl w.heap.size rfl 68 RV (0,0) _ R1.out.h Tryz.underlying68 rfl R1.out.sz ?_)
   | (refine wpList_store_row rfl 68 (.tmp 6) (.tmp 19) rfl w1.heap.size RV rfl rfl 68 _ (heap_alloc_new w1 _) R1.out.sz (by rw [R1.out.l21];rfl) R1.out.one ?_
      rw [World.setRow_alloc_new];obtain ⟨w2,hw2⟩:∃w2,w1.alloc (.cells RV 68)=w2:=⟨_,rfl⟩;rw [hw2];have B2:=Aside.mk (show Bl w1 w2 by rw [←hw2];exact (Bl.refl w1).alloc _);have R2:=Aside.mk (show RB w2 w1.heap.size s from ⟨by rw [←hw2,E1.out];exact heap_alloc_new w1 _,HS.out⟩);have D2:=Aside.mk (D1.out.keep B2.out);clear hw2 c0;have c0:=D2.out.ic (j:=0) rfl;have c1:=D2.out.ic (j:=1) rfl;have c3:=D2.out.ic (j:=3) rfl;have c4:=D2.out.ic (j:=4) rfl;have c5:=D2.out.ic (j:=5) rfl;have c6:=D2.out.ic (j:=6) rfl
      have cb:=D2.out.r.cell (reg_at D2.out.r.ok hb);rw [hB] at cb;have cc:=D2.out.r.cell (reg_at D2.out.r.ok hc);obtain ⟨CC,hCC⟩:∃CC,reg s c=CC:=⟨_,rfl⟩;rw [hCC] at cc;clear hCC))
  have N1:=Aside.mk (show w.heap.size+1≠w1.heap.size from by have:=(Array.getElem?_eq_some_iff.1 D1.out.z).1;omega);have N0:=Aside.mk (show w.heap.size≠w1.heap.size from by have:=(Array.getElem?_eq_some_iff.1 D1.out.z).1;omega);have C1:=Aside.mk (show w2.cell? ⟨w.heap.size+1,1,none⟩=some (.int .i64 (op:Int)) from c1);have C3:=Aside.mk (show w2.cell? ⟨w.heap.size+1,3,none⟩=some (.int .i64 (b:Int)) from c3)
  have C6:=Aside.mk (show w2.cell? ⟨w.heap.size+1,6,none⟩=some (.bool u) from c6);have CB:=Aside.mk (show w2.cell? ⟨w.heap.size,b,none⟩=some (.int .u32 (BB:Int)) from cb);clear c0 c1 c3 c4 c5 c6 cb cc
  go_region_held3 (fun w'=>w'.cell? ⟨w.heap.size+1,1,none⟩=some (.int .i64 (op:Int))∧w'.cell? ⟨w.heap.size+1,3,none⟩=some (.int .i64 (b:Int))∧w'.cell? ⟨w.heap.size+1,6,none⟩=some (.bool u)∧w'.cell? ⟨w.heap.size,b,none⟩=some (.int .u32 (BB:Int))) (((refine keep4 (g:=w1.heap.size) C1.out C3.out C6.out CB.out N1.out N1.out N1.out N0.out ?_);(first | (with_reducible assumption) | exact bl_by (Bl.drew (Bl.refl _)) _))) (first | (go_at_call 122;((with_reducible refine (HU.out _).mono ?_);rintro e wu ⟨L,p,rfl,hidx,hU,hbu⟩;have hGu:w2.grownBy wu (some w1.heap.size):=bl_by ((Bl.drew (Bl.refl _)).trans hbu) _;have hRu:=Aside.mk (R2.out.drew.keep hbu);have hUu:=Aside.mk hU;clear hU hbu)) | ((with_reducible refine (unitC_1 hUu.out hRu.out HUC2.out HUC.out).mono ?_);rintro e wv ⟨rfl,hRv,hgv⟩;have hGv:w2.grownBy wv (some w1.heap.size):=hGu.trans hgv))
  have D3:=Aside.mk (D2.out.grow hGv (Array.getElem?_eq_some_iff.1 D1.out.z).1);have R3:=Aside.mk hRv;have BV:=Aside.mk ((B1.out.trans B2.out).grow hGv (fun g e=>by obtain rfl:w1.heap.size=g:=Option.some.inj e;exact B1.out.out.size));clear hRv hgv hGv hGu hidx;have c2:=D3.out.ic (j:=2) rfl;have ca:=R3.out.cell (reg_at R3.out.ok ha);have fa:=R3.out.frz a
  go_wp2_with (first
   | (refine wpList_load_row rfl 68 (.tmp 6) rfl w1.heap.size rfl 68 RV2 (0,0) _ ((R3.out.setR ha hx).h.trans (by rw [E2.out])) Tryz.underlying68 rfl (by rw [←E2.out];exact i68l (ok_put hs2 a hx)) ?_)
   | (go_at_call 85;with_reducible refine (HSh.out _).mono ?_;rintro e w3 ⟨rfl,hb3⟩;have B3:=Aside.mk hb3;clear hb3)
   | (refine wpList_store_row rfl 68 (.tmp 4) (.tmp 68) rfl (w.heap.size+2) RV3 rfl rfl 68 _ (do_z D1.out D3.out B3.out) Z3.out.1 (by rw [Z3.out.2.1];rfl) Z3.out.2.2 ?_))
  refine bodyPost_ret (results_row_tmp rfl _ _ (w.heap.size+2) 68 RV3 (0,0) _ rfl (setRow_heap _ _ _ _ _ (0,0) (do_z D1.out D3.out B3.out)) Tryz.underlying68 rfl Z3.out.1) rfl ?_;exact ⟨rfl,do_bl B1.out BV.out B3.out⟩
set_option maxHeartbeats 4000000 in
theorem do_imm_n_ok {s:RS} (h:s.Ok) {op a b c:Nat} {im:Int} {u:Bool} (ha:a<16) (hb:b<16) (hc:c<16) (hop:op<12) {k:Nat} (hk:ukOf op=k) (hk5:k=154∨k=159∨k=161∨k=163∨k=165) (hok:(aluS UA s op u (reg s b) (word32 im)).ok=true) (hm:∀wx,Calls Tryz.prog 81 #[.agg (insV 2 op a b c im u)] wx fun e w'=>e=.returned (.bool true)∧Bl wx w') (w:World) :
 Calls Tryz.prog 86 #[.agg s.arr,.agg (insV 2 op a b c im u)] w fun e w'=>e=.returned (.tuple #[.agg (showS (putR (aluS UA s op u (reg s b) (word32 im)).s a (aluS UA s op u (reg s b) (word32 im)).x) (aluS UA s op u (reg s b) (word32 im)).x).arr,.int .i64 0])∧Bl w w':=by
 have HM:=Aside.mk hm;have hfd:=field_0
 have hb0:(0:Int)≤(b:Int):=by omega
 have hb1:(b:Int)<16:=by omega
 have hx:=(alu_s_ok h op u (reg_lt' h b) (word32_lt im)).1;have hs2:=(alu_s_ok h op u (reg_lt' h b) (word32_lt im)).2;have HU:=Aside.mk (fun wx=>units_no hop hk (by omega) wx);obtain ⟨N,hN⟩:∃N,(word32 im)=N:=⟨_,rfl⟩
 have hNl:N<4294967296:=by rw [←hN];exact (word32_lt im)
 obtain ⟨BB,hB⟩:∃BB,reg s b=BB:=⟨_,rfl⟩
 have hBl:BB<4294967296:=by rw [←hB];exact reg_lt' h b
 rw [hB,hN] at hok hx hs2 ⊢;obtain ⟨X,hX⟩:∃X,(aluS UA s op u BB N).x=X:=⟨_,rfl⟩;obtain ⟨s2,hS2⟩:∃s2,(aluS UA s op u BB N).s=s2:=⟨_,rfl⟩;rw [hX] at hx ⊢;rw [hS2] at hs2 ⊢;have HUC:=Aside.mk (And.intro hok (And.intro hX hS2));have HUC2:=Aside.mk (And.intro hBl hNl);have HN:=Aside.mk hN
 have hwN:im%4294967296=(N:Int):=by rw [←hN];unfold word32;omega
 obtain ⟨RV,hRV⟩:∃RV,s.arr=RV:=⟨_,rfl⟩;obtain ⟨RV2,hRV2⟩:∃RV2,(putR s2 a X).arr=RV2:=⟨_,rfl⟩;obtain ⟨RV3,hRV3⟩:∃RV3,(showS (putR s2 a X) X).arr=RV3:=⟨_,rfl⟩;have HSh:=Aside.mk (fun wx=>show_any (ok_put hs2 a hx) X hx wx);rw [hRV2,hRV3] at HSh;rw [hRV,hRV3];have E2:=Aside.mk hRV2;have Z3:=Aside.mk (sz3 (ok_show (ok_put hs2 a hx) X) hRV3);clear hRV2 hRV3;obtain ⟨w0,hw0⟩:∃w0,((w.alloc (.cells RV 68)).alloc (.cells (insV 2 op a b c im u) 72)).alloc (.cells zR 68)=w0:=⟨_,rfl⟩
 have hD:DoW w0 w.heap.size s 2 op a b c im u zR:=by
  rw [←hw0,←hRV]
  have k:((w.alloc (.cells s.arr 68)).alloc (.cells (insV 2 op a b c im u) 72)).heap.size=w.heap.size+2:=by simp
  have n2:=heap_alloc_new ((w.alloc (.cells s.arr 68)).alloc (.cells (insV 2 op a b c im u) 72)) (.cells zR 68);rw [k] at n2;exact ⟨⟨(heap_alloc_old _ _ (by simp;omega)).trans (heap_alloc2_old w _ _),h⟩,(heap_alloc_old _ _ (by simp)).trans (heap_alloc2_new w _ _),n2,rfl⟩
 have D0:=Aside.mk hD;have B0:=Aside.mk (show Bl w w0 by rw [←hw0];exact (((Bl.refl w).alloc _).alloc _).alloc _);have E1:=Aside.mk hRV;have HS:=Aside.mk h;clear hm h hD hRV hok hX hS2 hN hBl hNl
 rcases hk5 with rfl | rfl | rfl | rfl | rfl<;>clear hk
 all_goals
  go_enter Tryz.func86,Tryz.ntmps86
  go_wp2_with (first
   | (refine wpList_load_row rfl 72 (.tmp 3) rfl (w.heap.size+1) rfl 72 _ (0,0) _ D0.out.i Tryz.underlying72 rfl i72 ?_)
   | (go_at_call 81;with_reducible refine (HM.out _).mono ?_;rintro e w1 ⟨rfl,hb1⟩;have D1:=Aside.mk (D0.out.keep hb1);have B1:=Aside.mk (B0.out.trans hb1);clear hb1
      have c0:=D1.out.ic (j:=0) rfl
      have R1:=Aside.mk (RN.mk D1.out.r E1.out))
   | (refine wpList_load_row rfl 68 (.tmp 2) rfl w.heap.size rfl 68 RV (0,0) _ R1.out.h Tryz.underlying68 rfl R1.out.sz ?_)
   | (refine wpList_store_row rfl 68 (.tmp 6) (.tmp 19) rfl w1.heap.size RV rfl rfl 68 _ (heap_alloc_new w1 _) R1.out.sz (by rw [R1.out.l21];rfl) R1.out.one ?_
      rw [World.setRow_alloc_new];obtain ⟨w2,hw2⟩:∃w2,w1.alloc (.cells RV 68)=w2:=⟨_,rfl⟩;rw [hw2];have B2:=Aside.mk (show Bl w1 w2 by rw [←hw2];exact (Bl.refl w1).alloc _);have R2:=Aside.mk (show RB w2 w1.heap.size s from ⟨by rw [←hw2,E1.out];exact heap_alloc_new w1 _,HS.out⟩);have D2:=Aside.mk (D1.out.keep B2.out);clear hw2 c0;have c0:=D2.out.ic (j:=0) rfl;have c1:=D2.out.ic (j:=1) rfl;have c3:=D2.out.ic (j:=3) rfl;have c4:=D2.out.ic (j:=4) rfl;have c5:=D2.out.ic (j:=5) rfl;have c6:=D2.out.ic (j:=6) rfl
      have cb:=D2.out.r.cell (reg_at D2.out.r.ok hb);rw [hB] at cb;have cc:=D2.out.r.cell (reg_at D2.out.r.ok hc);obtain ⟨CC,hCC⟩:∃CC,reg s c=CC:=⟨_,rfl⟩;rw [hCC] at cc;clear hCC))
  have N1:=Aside.mk (show w.heap.size+1≠w1.heap.size from by have:=(Array.getElem?_eq_some_iff.1 D1.out.z).1;omega);have N0:=Aside.mk (show w.heap.size≠w1.heap.size from by have:=(Array.getElem?_eq_some_iff.1 D1.out.z).1;omega);have C1:=Aside.mk (show w2.cell? ⟨w.heap.size+1,1,none⟩=some (.int .i64 (op:Int)) from c1);have C3:=Aside.mk (show w2.cell? ⟨w.heap.size+1,3,none⟩=some (.int .i64 (b:Int)) from c3)
  have C6:=Aside.mk (show w2.cell? ⟨w.heap.size+1,6,none⟩=some (.bool u) from c6);have CB:=Aside.mk (show w2.cell? ⟨w.heap.size,b,none⟩=some (.int .u32 (BB:Int)) from cb);clear c0 c1 c3 c4 c5 c6 cb cc
  go_region_held3 (fun w'=>w'.cell? ⟨w.heap.size+1,1,none⟩=some (.int .i64 (op:Int))∧w'.cell? ⟨w.heap.size+1,3,none⟩=some (.int .i64 (b:Int))∧w'.cell? ⟨w.heap.size+1,6,none⟩=some (.bool u)∧w'.cell? ⟨w.heap.size,b,none⟩=some (.int .u32 (BB:Int))) (((refine keep4 (g:=w1.heap.size) C1.out C3.out C6.out CB.out N1.out N1.out N1.out N0.out ?_);(first | (with_reducible assumption) | exact bl_by (Bl.drew (Bl.refl _)) _))) (first | (go_at_call 122;((with_reducible refine (HU.out _).mono ?_);rintro e wu ⟨L,rfl,hidx,hU,hbu⟩;have hGu:w2.grownBy wu (some w1.heap.size):=bl_by ((Bl.drew (Bl.refl _)).trans hbu) _;have hRu:=Aside.mk (R2.out.drew.keep hbu);have hUu:=Aside.mk hU;clear hU hbu)) | ((with_reducible refine (unitC_0 hUu.out hRu.out HUC2.out HUC.out).mono ?_);rintro e wv ⟨rfl,hRv,hgv⟩;have hGv:w2.grownBy wv (some w1.heap.size):=hGu.trans hgv))
  have D3:=Aside.mk (D2.out.grow hGv (Array.getElem?_eq_some_iff.1 D1.out.z).1);have R3:=Aside.mk hRv;have BV:=Aside.mk ((B1.out.trans B2.out).grow hGv (fun g e=>by obtain rfl:w1.heap.size=g:=Option.some.inj e;exact B1.out.out.size));clear hRv hgv hGv hGu hidx;have c2:=D3.out.ic (j:=2) rfl;have ca:=R3.out.cell (reg_at R3.out.ok ha);have fa:=R3.out.frz a
  go_wp2_with (first
   | (refine wpList_load_row rfl 68 (.tmp 6) rfl w1.heap.size rfl 68 RV2 (0,0) _ ((R3.out.setR ha hx).h.trans (by rw [E2.out])) Tryz.underlying68 rfl (by rw [←E2.out];exact i68l (ok_put hs2 a hx)) ?_)
   | (go_at_call 85;with_reducible refine (HSh.out _).mono ?_;rintro e w3 ⟨rfl,hb3⟩;have B3:=Aside.mk hb3;clear hb3)
   | (refine wpList_store_row rfl 68 (.tmp 4) (.tmp 68) rfl (w.heap.size+2) RV3 rfl rfl 68 _ (do_z D1.out D3.out B3.out) Z3.out.1 (by rw [Z3.out.2.1];rfl) Z3.out.2.2 ?_))
  refine bodyPost_ret (results_row_tmp rfl _ _ (w.heap.size+2) 68 RV3 (0,0) _ rfl (setRow_heap _ _ _ _ _ (0,0) (do_z D1.out D3.out B3.out)) Tryz.underlying68 rfl Z3.out.1) rfl ?_;exact ⟨rfl,do_bl B1.out BV.out B3.out⟩
set_option maxHeartbeats 4000000 in
theorem do_imm_n_no {s:RS} (h:s.Ok) {op a b c:Nat} {im:Int} {u:Bool} (ha:a<16) (hb:b<16) (hc:c<16) (hop:op<12) {k:Nat} (hk:ukOf op=k) (hk5:k=165) (hok:(aluS UA s op u (reg s b) (word32 im)).ok=false) (hm:∀wx,Calls Tryz.prog 81 #[.agg (insV 2 op a b c im u)] wx fun e w'=>e=.returned (.bool true)∧Bl wx w') (w:World) :
 Calls Tryz.prog 86 #[.agg s.arr,.agg (insV 2 op a b c im u)] w fun e w'=>e=.returned (.tuple #[.agg s.arr,.int .i64 5])∧Bl w w':=by
 have HM:=Aside.mk hm;have hfd:=field_0
 have hb0:(0:Int)≤(b:Int):=by omega
 have hb1:(b:Int)<16:=by omega
 have hx:=(alu_s_ok h op u (reg_lt' h b) (word32_lt im)).1;have hs2:=(alu_s_ok h op u (reg_lt' h b) (word32_lt im)).2;have HU:=Aside.mk (fun wx=>units_no hop hk (by omega) wx);obtain ⟨N,hN⟩:∃N,(word32 im)=N:=⟨_,rfl⟩
 have hNl:N<4294967296:=by rw [←hN];exact (word32_lt im)
 obtain ⟨BB,hB⟩:∃BB,reg s b=BB:=⟨_,rfl⟩
 have hBl:BB<4294967296:=by rw [←hB];exact reg_lt' h b
 rw [hB,hN] at hok hx hs2;obtain ⟨X,hX⟩:∃X,(aluS UA s op u BB N).x=X:=⟨_,rfl⟩;obtain ⟨s2,hS2⟩:∃s2,(aluS UA s op u BB N).s=s2:=⟨_,rfl⟩;rw [hX] at hx;rw [hS2] at hs2;have HUC:=Aside.mk (And.intro hok (And.intro hX hS2));have HUC2:=Aside.mk (And.intro hBl hNl);have HN:=Aside.mk hN
 have hwN:im%4294967296=(N:Int):=by rw [←hN];unfold word32;omega
 obtain ⟨RV,hRV⟩:∃RV,s.arr=RV:=⟨_,rfl⟩;rw [hRV];obtain ⟨w0,hw0⟩:∃w0,((w.alloc (.cells RV 68)).alloc (.cells (insV 2 op a b c im u) 72)).alloc (.cells zR 68)=w0:=⟨_,rfl⟩
 have hD:DoW w0 w.heap.size s 2 op a b c im u zR:=by
  rw [←hw0,←hRV]
  have k:((w.alloc (.cells s.arr 68)).alloc (.cells (insV 2 op a b c im u) 72)).heap.size=w.heap.size+2:=by simp
  have n2:=heap_alloc_new ((w.alloc (.cells s.arr 68)).alloc (.cells (insV 2 op a b c im u) 72)) (.cells zR 68);rw [k] at n2;exact ⟨⟨(heap_alloc_old _ _ (by simp;omega)).trans (heap_alloc2_old w _ _),h⟩,(heap_alloc_old _ _ (by simp)).trans (heap_alloc2_new w _ _),n2,rfl⟩
 have D0:=Aside.mk hD;have B0:=Aside.mk (show Bl w w0 by rw [←hw0];exact (((Bl.refl w).alloc _).alloc _).alloc _);have E1:=Aside.mk hRV;have HS:=Aside.mk h;clear hm h hD hRV hok hX hS2 hN hBl hNl;subst hk5;clear hk
 all_goals
  go_enter Tryz.func86,Tryz.ntmps86
  go_wp2_with (first
   | (refine wpList_load_row rfl 72 (.tmp 3) rfl (w.heap.size+1) rfl 72 _ (0,0) _ D0.out.i Tryz.underlying72 rfl i72 ?_)
   | (go_at_call 81;with_reducible refine (HM.out _).mono ?_;rintro e w1 ⟨rfl,hb1⟩;have D1:=Aside.mk (D0.out.keep hb1);have B1:=Aside.mk (B0.out.trans hb1);clear hb1
      have c0:=D1.out.ic (j:=0) rfl
      have R1:=Aside.mk (RN.mk D1.out.r E1.out))
   | (refine wpList_load_row rfl 68 (.tmp 2) rfl w.heap.size rfl 68 RV (0,0) _ R1.out.h Tryz.underlying68 rfl R1.out.sz ?_)
   | (refine wpList_store_row rfl 68 (.tmp 6) (.tmp 19) rfl w1.heap.size RV rfl rfl 68 _ (heap_alloc_new w1 _) R1.out.sz (by rw [R1.out.l21];rfl) R1.out.one ?_
      rw [World.setRow_alloc_new];obtain ⟨w2,hw2⟩:∃w2,w1.alloc (.cells RV 68)=w2:=⟨_,rfl⟩;rw [hw2];have B2:=Aside.mk (show Bl w1 w2 by rw [←hw2];exact (Bl.refl w1).alloc _);have R2:=Aside.mk (show RB w2 w1.heap.size s from ⟨by rw [←hw2,E1.out];exact heap_alloc_new w1 _,HS.out⟩);have D2:=Aside.mk (D1.out.keep B2.out);clear hw2 c0;have c0:=D2.out.ic (j:=0) rfl;have c1:=D2.out.ic (j:=1) rfl;have c3:=D2.out.ic (j:=3) rfl;have c4:=D2.out.ic (j:=4) rfl;have c5:=D2.out.ic (j:=5) rfl;have c6:=D2.out.ic (j:=6) rfl
      have cb:=D2.out.r.cell (reg_at D2.out.r.ok hb);rw [hB] at cb;have cc:=D2.out.r.cell (reg_at D2.out.r.ok hc);obtain ⟨CC,hCC⟩:∃CC,reg s c=CC:=⟨_,rfl⟩;rw [hCC] at cc;clear hCC))
  have N1:=Aside.mk (show w.heap.size+1≠w1.heap.size from by have:=(Array.getElem?_eq_some_iff.1 D1.out.z).1;omega);have N0:=Aside.mk (show w.heap.size≠w1.heap.size from by have:=(Array.getElem?_eq_some_iff.1 D1.out.z).1;omega);have C1:=Aside.mk (show w2.cell? ⟨w.heap.size+1,1,none⟩=some (.int .i64 (op:Int)) from c1);have C3:=Aside.mk (show w2.cell? ⟨w.heap.size+1,3,none⟩=some (.int .i64 (b:Int)) from c3)
  have C6:=Aside.mk (show w2.cell? ⟨w.heap.size+1,6,none⟩=some (.bool u) from c6);have CB:=Aside.mk (show w2.cell? ⟨w.heap.size,b,none⟩=some (.int .u32 (BB:Int)) from cb);clear c0 c1 c3 c4 c5 c6 cb cc
  go_region_held3 (fun w'=>w'.cell? ⟨w.heap.size+1,1,none⟩=some (.int .i64 (op:Int))∧w'.cell? ⟨w.heap.size+1,3,none⟩=some (.int .i64 (b:Int))∧w'.cell? ⟨w.heap.size+1,6,none⟩=some (.bool u)∧w'.cell? ⟨w.heap.size,b,none⟩=some (.int .u32 (BB:Int))) (((refine keep4 (g:=w1.heap.size) C1.out C3.out C6.out CB.out N1.out N1.out N1.out N0.out ?_);(first | (with_reducible assumption) | exact bl_by (Bl.drew (Bl.refl _)) _))) (first | (go_at_call 122;((with_reducible refine (HU.out _).mono ?_);rintro e wu ⟨L,rfl,hidx,hU,hbu⟩;have hGu:w2.grownBy wu (some w1.heap.size):=bl_by ((Bl.drew (Bl.refl _)).trans hbu) _;have hRu:=Aside.mk (R2.out.drew.keep hbu);have hUu:=Aside.mk hU;clear hU hbu)) | ((with_reducible refine (unitC_0 hUu.out hRu.out HUC2.out HUC.out).mono ?_);rintro e wv ⟨rfl,hRv,hgv⟩;have hGv:w2.grownBy wv (some w1.heap.size):=hGu.trans hgv))
  have D3:=Aside.mk (D2.out.grow hGv (Array.getElem?_eq_some_iff.1 D1.out.z).1);have R3:=Aside.mk hRv;have BV:=Aside.mk ((B1.out.trans B2.out).grow hGv (fun g e=>by obtain rfl:w1.heap.size=g:=Option.some.inj e;exact B1.out.out.size));clear hRv hgv hGv hGu hidx;have R4:=Aside.mk (RN.mk D3.out.r E1.out)
  go_wp2_with (first
   | (refine wpList_load_row rfl 68 (.tmp 2) rfl w.heap.size rfl 68 RV (0,0) _ R4.out.h Tryz.underlying68 rfl R4.out.sz ?_)
   | (refine wpList_store_row rfl 68 (.tmp 4) (.tmp 52) rfl (w.heap.size+2) RV rfl rfl 68 _ D3.out.z R4.out.sz (by rw [R4.out.l21];rfl) R4.out.one ?_))
  refine bodyPost_ret (results_row_tmp rfl _ _ (w.heap.size+2) 68 RV (0,0) _ rfl (setRow_heap _ _ _ _ _ (0,0) D3.out.z) Tryz.underlying68 rfl R4.out.sz) rfl ?_;exact ⟨rfl,⟨below_setRow BV.out.out (by omega) _⟩⟩
section
variable {P:Program}
theorem run_loadVar_sub (w:World) (g off:Nat) (t ty:TypeId) (cs:List Value) (cur:Array Value) (fr:Nat×Nat) (d:TypeDesc) (hg:w.heap[g]? = some (.cells cur t fr)) (hsub:∀j v,cs[j]? = some v→cur[off+j]? = some v)
 (hu:P.underlying ty=some d) (hd:(match d with | .struct _ | .array _ _=>true | _=>false)=true) (hi:(P.info? ty).map (·.size)=some cs.length) :
 (loadVar ty ⟨g,off,none⟩).run P w=.ok (.agg cs.toArray) w:=by
 have hl:(loadCells ⟨g,off,none⟩ cs.length).run P w=.ok cs.toArray w :=
  run_loadCells_list (P:=P) w ⟨g,off,none⟩ cs (fun j v hv=>by
   have hadd:(⟨g,off,none⟩:Addr).add j=⟨g,off+j,none⟩:=by unfold Addr.add;split<;>simp_all
   rw [hadd,cell_of_row w g (off+j) cur t fr hg]
   exact hsub j v hv)
 cases hq:P.info? ty with
 | none=>simp [hq] at hi
 | some i =>
   have hs:i.size=cs.length:=by simpa [hq] using hi
   have hagg:(isAgg ty).run P w=.ok true w:=by
    unfold isAgg;rw [Sem.run_bind,run_underlying hu w]
    cases d<;>simp_all
   simp [loadVar,Sem.run_bind,hagg,sizeOf,typeInfo,hq,hs,hl]
theorem wpList_load_sub {ops:Array Oper} {rest:List Oper} {o:Oper} {a:Act} {w:World} {Q:Exit→Act→World→Prop} (hgd:o.guard=none) (ty:TypeId) (x:Operand) (ho:o.op=.load ty x)
 (g off:Nat) (hx:a.eval x=.pointer (some ⟨g,off,none⟩)) (t:TypeId) (cs:List Value) (cur:Array Value) (fr:Nat×Nat) (d:TypeDesc) (hg:w.heap[g]? = some (.cells cur t fr)) (hsub:∀j v,cs[j]? = some v→cur[off+j]? = some v)
 (hu:P.underlying ty=some d) (hd:(match d with | .struct _ | .array _ _=>true | _=>false)=true) (hi:(P.info? ty).map (·.size)=some cs.length)
 (h:wpList P ops Q rest (a.put o.dst (.agg cs.toArray)) w):wpList P ops Q (o::rest) a w :=
 wpList_plain hgd fun _ hK=>by
  unfold Oper.wp execOp;simp only [ho,hx,Instr.loadAt,Instr.sureAddr,Sem.run_bind,Sem.run_pure,Result.andThen_ok,run_loadVar_sub w g off t ty cs cur fr d hg hsub hu hd hi];exact hK _ _ h
theorem wpList_store_sub {ops:Array Oper} {rest:List Oper} {o:Oper} {a:Act} {w:World} {Q:Exit→Act→World→Prop} (hgd:o.guard=none) (ty:TypeId) (x y:Operand) (ho:o.op=.store ty x y)
 (g off:Nat) (cells:Array Value) (hx:a.eval x=.pointer (some ⟨g,off,none⟩)) (hy:a.eval y=.agg cells)
 (t:TypeId) (old:Array Value) (hg:w.heap[g]? = some (.cells old t (0,0))) (hi:(P.info? ty).map (·.size)=some cells.size)
 (hold:off+cells.size≤old.size) (h1:cells.all (·.oneCell')=true)
 (h:wpList P ops Q rest (a.put o.dst undef) (w.setRow g (old.toList.take off++cells.toList++old.toList.drop (off+cells.size)).toArray)):wpList P ops Q (o::rest) a w :=
 wpList_plain hgd fun _ hK=>by
  have hst:=run_storeCells_at P g off t cells.toList 0 old w hg (by simpa using hold) (fun v hv=>(Array.all_eq_true_iff_forall_mem.1 h1) v (by simpa using hv));simp only [Nat.add_zero,Array.length_toList] at hst
  cases hq:P.info? ty with
  | none=>simp [hq] at hi
  | some i =>
    have hs:cells.size=i.size:=by simp [hq] at hi;omega
    have hrun:(storeVar ty ⟨g,off,none⟩ (.agg cells)).run P w=.ok () (w.setRow g (old.toList.take off++cells.toList++old.toList.drop (off+cells.size)).toArray):=by
     simp [storeVar,sizeOf,typeInfo,hq,Value.cells,hs,hst]
     try simpa [hs] using hst
    unfold Oper.wp execOp;simp only [ho,hx,hy,Instr.storeAt,Instr.sureAddr,Sem.run_bind,Sem.run_pure,Result.andThen_ok,hrun];exact hK _ _ h
end
structure MBlk (w:World) (gm ga:Nat) (s:RS) (pc st:Nat) (inV outV:Value):Prop where
 h:w.heap[gm]? = some (.cells (.pointer (some ⟨ga,0,none⟩)::(s.cells++[.int .u32 (pc:Int),.int .i64 (st:Int),inV,outV])).toArray 70 (0,0))
 ok:s.Ok
theorem RS.Ok.clen {s:RS} (h:s.Ok):s.cells.length=21:=by
 have hu:(u32n s.R).length=16:=by simpa [u32n] using h.len
 simp [RS.cells,hu]
theorem MBlk.lt {w:World} {gm ga:Nat} {s:RS} {pc st:Nat} {inV outV:Value} (h:MBlk w gm ga s pc st inV outV):gm<w.heap.size:=(Array.getElem?_eq_some_iff.1 h.h).1
theorem MBlk.frz {w:World} {gm ga:Nat} {s:RS} {pc st:Nat} {inV outV:Value} (h:MBlk w gm ga s pc st inV outV) (j:Nat):w.frozen? ⟨gm,j,none⟩=false:=frozen_of_row w gm j _ _ h.h
theorem MBlk.cells {w:World} {gm ga:Nat} {s:RS} {pc st:Nat} {inV outV:Value} (h:MBlk w gm ga s pc st inV outV) :
 w.cell? ⟨gm,0,none⟩=some (.pointer (some ⟨ga,0,none⟩))∧w.cell? ⟨gm,22,none⟩=some (.int .u32 (pc:Int))∧w.cell? ⟨gm,23,none⟩=some (.int .i64 (st:Int))∧w.cell? ⟨gm,24,none⟩=some inV∧w.cell? ⟨gm,25,none⟩=some outV:=by
 have hl:=h.ok.clen
 refine ⟨?_,?_,?_,?_,?_⟩<;>rw [cell_of_row w gm _ _ _ (0,0) h.h]
 · rfl
 all_goals simp [List.getElem?_append_right,hl]
theorem MBlk.sub {w:World} {gm ga:Nat} {s:RS} {pc st:Nat} {inV outV:Value} (h:MBlk w gm ga s pc st inV outV):∀j v,s.cells[j]? = some v→((.pointer (some ⟨ga,0,none⟩)::(s.cells++[.int .u32 (pc:Int),.int .i64 (st:Int),inV,outV])).toArray:Array Value)[1+j]? = some v:=by
 intro j v hj;have hl:j<s.cells.length:=(List.getElem?_eq_some_iff.1 hj).1;rw [List.getElem?_toArray,Nat.add_comm,List.getElem?_cons_succ,List.getElem?_append_left hl];exact hj
theorem status_any {w:World} {gm ga:Nat} {s:RS} {pc st:Nat} {inV outV:Value} (h:MBlk w gm ga s pc st inV outV):Calls Tryz.prog 20 #[.pointer (some ⟨gm,0,none⟩)] w fun e w'=>e=.returned (.int .i64 (st:Int))∧w'=w:=by
 obtain ⟨c0,c1,c2,c3,c4⟩:=h.cells;go_enter Tryz.func20,Tryz.ntmps20;go_wp2;go_ret;exact ⟨rfl,rfl⟩
theorem pc_any {w:World} {gm ga:Nat} {s:RS} {pc st:Nat} {inV outV:Value} (h:MBlk w gm ga s pc st inV outV):Calls Tryz.prog 21 #[.pointer (some ⟨gm,0,none⟩)] w fun e w'=>e=.returned (.int .u32 (pc:Int))∧w'=w:=by
 obtain ⟨c0,c1,c2,c3,c4⟩:=h.cells;go_enter Tryz.func21,Tryz.ntmps21;go_wp2;go_ret;exact ⟨rfl,rfl⟩
theorem i68c {s:RS} (h:s.Ok):(Tryz.prog.info? 68).map (·.size)=some s.cells.length:=by rw [h.clen];exact i68
variable {w:World} {gm ga:Nat} {s:RS} {pc st:Nat} {inV outV:Value} {n:Nat} {M:List Nat}
theorem ld_byte_ok (h:MBlk w gm ga s pc st inV outV) (hm:Mem w ga n M) (a x:Nat) (ha:a<4294967296) (h2:a / 4<n) (hx:M[a / 4]? = some x) :
 Calls Tryz.prog 84 #[.pointer (some ⟨gm,0,none⟩),.int .i64 1,.int .u32 (a:Int)] w fun e w'=>e=.returned (.tuple #[.int .u32 ((x / 2 ^ (a%4*8)%256:Nat):Int),.int .i64 0])∧w'=w:=by
 obtain ⟨c0,c1,c2,c3,c4⟩:=h.cells;have HB:=Aside.mk (byte_ok hm a x ha h2 hx);have hl:x / 2 ^ (a%4*8)%256<256:=Nat.mod_lt _ (by decide);generalize x / 2 ^ (a%4*8)%256=y at HB hl;clear hx h2;go_enter Tryz.func84,Tryz.ntmps84
 go_wp2_with (with_reducible refine HB.out.mono ?_;rintro e w' ⟨rfl,rfl⟩)
 go_ret2;exact ⟨rfl,rfl⟩
theorem ld_byte_no (h:MBlk w gm ga s pc st inV outV) (hm:Mem w ga n M) (a:Nat) (ha:a<4294967296) (h2:¬a / 4<n) :
 Calls Tryz.prog 84 #[.pointer (some ⟨gm,0,none⟩),.int .i64 1,.int .u32 (a:Int)] w fun e w'=>e=.returned (.tuple #[.int .u32 0,.int .i64 3])∧w'=w:=by
 obtain ⟨c0,c1,c2,c3,c4⟩:=h.cells;have HB:=Aside.mk (byte_no hm a ha h2);clear h2;go_enter Tryz.func84,Tryz.ntmps84
 go_wp2_with (with_reducible refine HB.out.mono ?_;rintro e w' ⟨rfl,rfl⟩)
 go_ret2;exact ⟨rfl,rfl⟩
theorem ld_word_ok (h:MBlk w gm ga s pc st inV outV) (hm:Mem w ga n M) (op:Int) (hop:op≠1) (a x:Nat) (ha:a<4294967296) (hp:a≠4294967232) (h1:a%4=0) (h2:a / 4<n) (hx:M[a / 4]? = some x) :
 Calls Tryz.prog 84 #[.pointer (some ⟨gm,0,none⟩),.int .i64 op,.int .u32 (a:Int)] w fun e w'=>e=.returned (.tuple #[.int .u32 (x:Int),.int .i64 0])∧w'=w:=by
 obtain ⟨c0,c1,c2,c3,c4⟩:=h.cells;have HB:=Aside.mk (word_ok hm a x ha h1 h2 hx)
 have hp':¬((a:Int)=4294967232):=by omega
 clear hx h2 h1 hp;go_enter Tryz.func84,Tryz.ntmps84
 go_wp2_with (with_reducible refine HB.out.mono ?_;rintro e w' ⟨rfl,rfl⟩)
 go_ret2;exact ⟨rfl,rfl⟩
theorem ld_word_no (h:MBlk w gm ga s pc st inV outV) (hm:Mem w ga n M) (op:Int) (hop:op≠1) (a:Nat) (ha:a<4294967296) (hp:a≠4294967232) (h0:atT n a 4≠0) :
 Calls Tryz.prog 84 #[.pointer (some ⟨gm,0,none⟩),.int .i64 op,.int .u32 (a:Int)] w fun e w'=>e=.returned (.tuple #[.int .u32 0,.int .i64 (atT n a 4:Nat)])∧w'=w:=by
 obtain ⟨c0,c1,c2,c3,c4⟩:=h.cells;have HB:=Aside.mk (word_no hm a ha h0)
 have hp':¬((a:Int)=4294967232):=by omega
 obtain ⟨tt,ht⟩:∃tt,atT n a 4=tt:=⟨_,rfl⟩;rw [ht] at HB ⊢;clear hp h0 ht;go_enter Tryz.func84,Tryz.ntmps84
 go_wp2_with (with_reducible refine HB.out.mono ?_;rintro e w' ⟨rfl,rfl⟩)
 go_ret2;exact ⟨rfl,rfl⟩
theorem ld_in_nil {A:Option Addr} {c:Nat} (h:MBlk w gm ga s pc st (.slice A 0 c) outV) (op:Int) (hop:op≠1) :
 Calls Tryz.prog 84 #[.pointer (some ⟨gm,0,none⟩),.int .i64 op,.int .u32 4294967232] w fun e w'=>e=.returned (.tuple #[.int .u32 0,.int .i64 0])∧w'=w:=by
 obtain ⟨c0,c1,c2,c3,c4⟩:=h.cells;go_enter Tryz.func84,Tryz.ntmps84;go_wp2;go_ret2;exact ⟨rfl,rfl⟩
theorem slice_tail (A:Addr) (k c:Nat) (hk:k+1≤c):∃A2:Addr,A2.block=A.block∧(∀wx,(Instr.slice 22 (.slice (some A) (k+1) c) (some (.int .i64 1)) none none).run Tryz.prog wx=.ok (.slice (some A2) k (c - 1)) wx)∧(∀wx x l,RdW wx (some A) c (x::l)→l.length=k→RdW wx (some A2) (c - 1) l):=by
 by_cases h1:c=1
 · subst h1
   obtain rfl:k=0:=by omega
   refine ⟨A,rfl,fun wx=>by go_simp,fun wx x l h hl=>?_⟩;obtain rfl:l=[]:=List.eq_nil_of_length_eq_zero hl;exact ⟨by simp,by unfold maxLen;omega,fun e=>(by cases e),fun ad ha j x hj=>(by simp at hj)⟩
 · refine ⟨A.add 1,by rw [add_block],fun wx=>?_,fun wx x l h hl=>?_⟩
   · have h2:¬(c=1):=h1
     have h3:1≤c:=by omega
     go_simp
     exact fun h=>absurd h (by omega)
   · have:=h.le
     have hmx:=h.mx;refine ⟨by simp at this;omega,by omega,fun e=>(by cases e),fun ad ha j y hj=>?_⟩;obtain rfl:=Option.some.inj ha;rw [add_add,Nat.add_comm];exact h.cells A rfl (j+1) y (by simpa using hj)
theorem ld_in_cons {A:Addr} {k c:Nat} {x:Nat} {l:List Nat} (hl:l.length=k) (h:MBlk w gm ga s pc st (.slice (some A) (k+1) c) outV) (hr:RdW w (some A) c (x::l)) (op:Int) (hop:op≠1) :
 ∃A2:Addr,A2.block=A.block∧RdW w (some A2) (c - 1) l∧Calls Tryz.prog 84 #[.pointer (some ⟨gm,0,none⟩),.int .i64 op,.int .u32 4294967232] w fun e w'=>e=.returned (.tuple #[.int .u32 (x:Int),.int .i64 0])∧w'=w.setCell ⟨gm,24,none⟩ (.slice (some A2) k (c - 1)):=by
 have hkc:k+1≤c:=by have:=hr.le;simp at this;omega
 obtain ⟨A2,hb,hsl,hrd⟩:=slice_tail A k c hkc;refine ⟨A2,hb,hrd w x l hr hl,?_⟩;obtain ⟨c0,c1,c2,c3,c4⟩:=h.cells;have hf:=h.frz 24
 have hx:w.cell? A=some (.int .u32 (x:Int)):=by simpa [Addr.add] using hr.cells A rfl 0 x rfl
 have hmx:=hr.mx;unfold maxLen at hmx;clear hrd hr;go_enter Tryz.func84,Tryz.ntmps84;go_wp2;go_ret2;exact ⟨rfl,rfl⟩
theorem st_byte_ok (h:MBlk w gm ga s pc st inV outV) (hm:Mem w ga n M) (a x y:Nat) (ha:a<4294967296) (hx:x<4294967296) (h2:a / 4<n) (hy:M[a / 4]? = some y) :
 Calls Tryz.prog 83 #[.pointer (some ⟨gm,0,none⟩),.int .i64 3,.int .u32 (a:Int),.int .u32 (x:Int)] w fun e w'=>e=.returned (.int .i64 0)∧w'=w.setCell ⟨ga,a / 4,none⟩ (.int .u32 (setBN y (x%256) (a%4):Nat)):=by
 obtain ⟨c0,c1,c2,c3,c4⟩:=h.cells;have HB:=Aside.mk (setbyte_ok hm a (x%256) y ha (Nat.mod_lt _ (by decide)) h2 hy);rw [show ((x%256:Nat):Int)=(x:Int)%256 by omega] at HB;clear hy h2;go_enter Tryz.func83,Tryz.ntmps83
 go_wp2_with (with_reducible refine HB.out.mono ?_;rintro e w' ⟨rfl,rfl⟩)
 go_ret;exact ⟨rfl,rfl⟩
theorem st_byte_no (h:MBlk w gm ga s pc st inV outV) (hm:Mem w ga n M) (a x:Nat) (ha:a<4294967296) (hx:x<4294967296) (h2:¬a / 4<n) :
 Calls Tryz.prog 83 #[.pointer (some ⟨gm,0,none⟩),.int .i64 3,.int .u32 (a:Int),.int .u32 (x:Int)] w fun e w'=>e=.returned (.int .i64 3)∧w'=w:=by
 obtain ⟨c0,c1,c2,c3,c4⟩:=h.cells;have HB:=Aside.mk (setbyte_no hm a (x%256) ha h2);rw [show ((x%256:Nat):Int)=(x:Int)%256 by omega] at HB;clear h2;go_enter Tryz.func83,Tryz.ntmps83
 go_wp2_with (with_reducible refine HB.out.mono ?_;rintro e w' ⟨rfl,rfl⟩)
 go_ret;exact ⟨rfl,rfl⟩
theorem st_halt (op:Int) (hop:op≠3) (x:Nat) :
 Calls Tryz.prog 83 #[.pointer (some ⟨gm,0,none⟩),.int .i64 op,.int .u32 4294967240,.int .u32 (x:Int)] w fun e w'=>e=.returned (.int .i64 1)∧w'=w:=by
 go_enter Tryz.func83,Tryz.ntmps83;go_wp2;go_ret;exact ⟨rfl,rfl⟩
theorem st_word_ok (h:MBlk w gm ga s pc st inV outV) (hm:Mem w ga n M) (op:Int) (hop:op≠3) (a x:Nat) (ha:a<4294967296) (hx:x<4294967296) (hp:a≠4294967236∧a≠4294967240) (h1:a%4=0) (h2:a / 4<n) :
 Calls Tryz.prog 83 #[.pointer (some ⟨gm,0,none⟩),.int .i64 op,.int .u32 (a:Int),.int .u32 (x:Int)] w fun e w'=>e=.returned (.int .i64 0)∧w'=w.setCell ⟨ga,a / 4,none⟩ (.int .u32 (x:Int)):=by
 obtain ⟨c0,c1,c2,c3,c4⟩:=h.cells;have HB:=Aside.mk (setword_ok hm a x ha hx h1 h2)
 have hp1:¬((a:Int)=4294967236):=by omega
 have hp2:¬((a:Int)=4294967240):=by omega
 clear h2 h1 hp;go_enter Tryz.func83,Tryz.ntmps83
 go_wp2_with (with_reducible refine HB.out.mono ?_;rintro e w' ⟨rfl,rfl⟩)
 go_ret;exact ⟨rfl,rfl⟩
theorem st_word_no (h:MBlk w gm ga s pc st inV outV) (hm:Mem w ga n M) (op:Int) (hop:op≠3) (a x:Nat) (ha:a<4294967296) (hp:a≠4294967236∧a≠4294967240) (h0:atT n a 4≠0) :
 Calls Tryz.prog 83 #[.pointer (some ⟨gm,0,none⟩),.int .i64 op,.int .u32 (a:Int),.int .u32 (x:Int)] w fun e w'=>e=.returned (.int .i64 (atT n a 4:Nat))∧w'=w:=by
 obtain ⟨c0,c1,c2,c3,c4⟩:=h.cells;have HB:=Aside.mk (setword_no hm a x ha h0)
 have hp1:¬((a:Int)=4294967236):=by omega
 have hp2:¬((a:Int)=4294967240):=by omega
 obtain ⟨tt,ht⟩:∃tt,atT n a 4=tt:=⟨_,rfl⟩;rw [ht] at HB ⊢;clear hp h0 ht;go_enter Tryz.func83,Tryz.ntmps83
 go_wp2_with (with_reducible refine HB.out.mono ?_;rintro e w' ⟨rfl,rfl⟩)
 go_ret;exact ⟨rfl,rfl⟩
theorem newsU (W:World) (x:Int) (T:TypeId):∀j u,[Value.int .u32 x][j]? = some u→(W.alloc (.cells #[.int .u32 x] T)).cell? ((⟨W.heap.size,0,none⟩:Addr).add j)=some u:=by
 intro j u h
 match j,h with
 | 0,h=>simp at h;subst h;show (W.alloc _).cell? ⟨W.heap.size,0,none⟩=_;rw [World.cell?_alloc_at _ _ _ _ rfl];rfl
 | j+1,h=>simp at h
set_option maxHeartbeats 2000000 in
theorem st_out {k base:Nat} {out:List Nat} (h:MBlk w gm ga s pc st inV outV) (hk:out.length=k) (hk9:k≤1000) (ho:Aside (w.ownsRow base 56 1 outV k (u32n out))) (hb:base≤w.heap.size) (hne:Aside (outV.ownBlock≠some gm)) (op:Int) (hop:op≠3) (x:Nat) :
 Calls Tryz.prog 83 #[.pointer (some ⟨gm,0,none⟩),.int .i64 op,.int .u32 4294967236,.int .u32 (x:Int)] w fun e w'=>∃v' w1,e=.returned (.int .i64 0)∧w'=w1.setCell ⟨gm,25,none⟩ v'∧w1.ownsRow base 56 1 v' (k+1) (u32n (out++[x])) ∧
  (w.alloc (.cells #[.int .u32 (x:Int)] 56)).grownBy w1 outV.ownBlock∧(v'.ownBlock=outV.ownBlock∨v'.ownBlock=some (w.alloc (.cells #[.int .u32 (x:Int)] 56)).heap.size):=by
 obtain ⟨i0,hi,hz0,hz1,hz2⟩:=info_parts infoU;obtain ⟨c0,c1,c2,c3,c4⟩:=h.cells;have HB:=Aside.mk h;clear hk h;go_enter Tryz.func83,Tryz.ntmps83
 go_wp2_with (at_builtin;refine holdp ?_)
 refine Hold.mk ?_;refine wpList_append_own_at _ rfl (.tmp 27) (.tmp 29) 22 rfl base 56 i0 (.int .u32 0) 1 4 Tryz.underlying22 hi hz0 hz1 hz2 rfl (by decide) outV k (u32n out) rfl (ho.out.alloc _) ⟨w.heap.size,0,none⟩ 1 1 [.int .u32 (x:Int)] rfl rfl (newsU w x 56) (by intro u hu;simp at hu;subst hu;rfl) (by unfold maxLen;omega) (by omega) (by simp;omega) ?_;intro v' w1 hown hgrow _ hloc;have hng:some gm≠outV.ownBlock:=fun e=>hne.out e.symm
 have c25:w1.cell? ⟨gm,25,none⟩=some outV:=hgrow.cell (((Bl.refl w).alloc _).cell c4) hng
 have f25:w1.frozen? ⟨gm,25,none⟩=false:=by
  have hl:gm<(w.alloc (.cells #[.int .u32 (x:Int)] 56)).heap.size:=by have:=HB.out.lt;simp;omega
  have e1:=World.frozen?_of_block (a:=⟨gm,25,none⟩) (hgrow.block gm hl hng);have e2:=World.frozen?_of_block (a:=⟨gm,25,none⟩) (heap_alloc_old w (.cells #[.int .u32 (x:Int)] 56) HB.out.lt);rw [e1,e2];exact HB.out.frz 25
 have hown2:w1.ownsRow base 56 1 v' (k+1) (u32n (out++[x])):=by simpa [u32n] using hown
 obtain ⟨A',c',rfl,_,_,_⟩:=RdW.own hown2;have HO:=Aside.mk hown2;have HG:=Aside.mk hgrow;have HL:=Aside.mk hloc;clear hown hown2 hgrow hloc hng;go_wp2;go_ret;exact ⟨_,w1,rfl,rfl,HO.out,HG.out,HL.out⟩
theorem MBlk.keep {w w':World} {gm ga:Nat} {s:RS} {pc st:Nat} {inV outV:Value} (h:MBlk w gm ga s pc st inV outV) (k:Bl w w'):MBlk w' gm ga s pc st inV outV:=⟨by rw [k.blk h.lt];exact h.h,h.ok⟩
theorem arr_size {s:RS} (h:s.Ok):s.arr.size=21:=h.cell.1
theorem regs_any {w:World} {gm ga:Nat} {s:RS} {pc st:Nat} {inV outV:Value} (h:MBlk w gm ga s pc st inV outV):Calls Tryz.prog 25 #[.pointer (some ⟨gm,0,none⟩)] w fun e w'=>e=.returned (.agg s.arr)∧Bl w w':=by
 have hs:=Aside.mk (arr_size h.ok);have H:=Aside.mk h;have H1:Aside (∀o,MBlk (w.alloc o) gm ga s pc st inV outV):=⟨fun o=>h.keep ((Bl.refl w).alloc o)⟩;go_enter Tryz.func25,Tryz.ntmps25
 go_wp2_with (first
  | (refine wpList_load_sub rfl 68 (.tmp 5) rfl gm 1 rfl 70 s.cells _ (0,0) _ (H1.out _).h h.sub Tryz.underlying68 rfl (i68c h.ok) ?_)
  | (refine wpList_store_row rfl 68 (.tmp 2) (.tmp 6) rfl w.heap.size s.arr rfl rfl 68 _ (heap_alloc_new w _) (by rw [hs.out];exact i68) (by rw [hs.out];rfl) s.one ?_)
  | fail)
 refine bodyPost_ret (results_cell_row rfl _ _ w.heap.size 68 _ (0,0) _ rfl (setRow_heap _ _ _ _ _ (0,0) (heap_alloc_new w _)) Tryz.underlying68 rfl (by rw [hs.out];exact i68)) rfl ?_;exact ⟨rfl,⟨below_setRow ((Bl.refl w).alloc _).out (Nat.le_refl _) _⟩⟩
theorem out_any {w:World} {gm ga:Nat} {s:RS} {pc st:Nat} {inV:Value} {A:Option Addr} {k c:Nat} {out:List Nat} (h:MBlk w gm ga s pc st inV (.slice A k c)) (hr:RdW w A c out) (hk:out.length=k) (hk9:k≤1000) :
 Calls Tryz.prog 18 #[.pointer (some ⟨gm,0,none⟩)] w fun e w'=>∃v,e=.returned v∧w'.ownsRow w.heap.size 56 1 v k (u32n out)∧Bl w w':=by
 obtain ⟨c0,c1,c2,c3,c4⟩:=h.cells;have HC:=Aside.mk (clonew_any k hk hr (by omega));clear h hr hk;go_enter Tryz.func18,Tryz.ntmps18
 go_wp2_with (with_reducible refine HC.out.mono ?_;rintro e w1 ⟨v,rfl,ho,hb⟩
              have HO:=Aside.mk ho;have HB:=Aside.mk hb
              clear ho hb)
 go_ret;exact ⟨_,rfl,HO.out,HB.out⟩
end Go.Proofs.YtjmiaemabhlnjaaGreatDoor.Chains.Shifts
end
section
set_option linter.all false
set_option maxRecDepth 20000
namespace Go.Proofs.YtjmiaemabhlnjaaGreatDoor.Chains.Shifts
open Go.Proofs.YtjmiaemabhlnjaaGreatDoor.Chains
theorem fix_next {U:Alu} {B:Bytes} (G:Good U B) (dec:Nat→Option I) {d i k n:Nat} {a b:MS} {t t':TG} (F:Fix d i k n a b t) (ha:MOk a) (hb:MOk b) (hR:t'.R.length=16) (hW:t'.W.length=n) :
 Fix d i k n (stepS U B dec a).1 (stepS U B dec b).1 t':=by
 obtain ⟨a1,a2⟩:=step_ok G dec ha;obtain ⟨b1,b2⟩:=step_ok G dec hb;exact ⟨by rw [a2,b2];exact F.an,by rw [a2];exact F.ai,by rw [b2];exact F.bk,by rw [a2];exact F.a4,F.i4,F.k4,F.il,F.kl,F.dd,a1.M,b1.M,a1.R,b1.R,hR,hW,a1.w,b1.w,a1.r,b1.r⟩
theorem sub_sh {d x y:Nat} (g:Bool) (hx:x<4294967296) (hy:y<4294967296) (hd:d<4294967296) (h:y=sh d g x):((y:Int) - (x:Int))%4294967296=((if g then d else 0:Nat):Int):=by
 cases g
 · rw [sh_f] at h;subst h;simp
 · rw [sh_t] at h;simp only [if_true];omega
theorem moved_r {d i k n:Nat} {a b:MS} {t:TG} (F:Fix d i k n a b t) (C:Core d i k n a b t) {j:Nat} (hj:j<16):((reg b.s j:Int) - (reg a.s j:Int))%4294967296=((if tagR t j then d else 0:Nat):Int) :=
 sub_sh _ (reg_lt F.ar F.aR hj) (reg_lt F.br F.bR hj) (d_lt F.dd) (C.r j hj)
theorem moved_w {d i k n:Nat} {a b:MS} {t:TG} (F:Fix d i k n a b t) (C:Core d i k n a b t) {j:Nat} (hj:j<n):((b.M.getD (k / 4+j) 0:Int) - (a.M.getD (i / 4+j) 0:Int))%4294967296=((if t.W.getD j false then d else 0:Nat):Int) :=
 sub_sh _ (getD_lt F.aw _) (getD_lt F.bw _) (d_lt F.dd) (C.w j hj)
theorem moved_pc {d a b:Nat} (hd:d<4294967296) (ha:a<4294967296) (h:b=(a+d)%4294967296):((b:Int) - (a:Int))%4294967296=(d:Int):=by omega
def imgStep (base:Nat) (l:List Nat) (s:Nat):List Nat:=l.set s ((l.getD s 0+base)%4294967296)
def imgN (base:Nat) (ws:List Nat) (S:List Nat):List Nat:=S.foldl (imgStep base) ws
def markN (n:Nat) (S:List Nat):List Bool:=S.foldl (fun t s=>t.set s true) (List.replicate n false)
theorem imgN_snoc (base:Nat) (ws:List Nat) (S:List Nat) (s:Nat):imgN base ws (S++[s])=imgStep base (imgN base ws S) s:=by
 unfold imgN;rw [List.foldl_append];rfl
theorem markN_snoc (n:Nat) (S:List Nat) (s:Nat):markN n (S++[s])=(markN n S).set s true:=by
 unfold markN;rw [List.foldl_append];rfl
theorem imgN_len (base:Nat) (ws S:List Nat):(imgN base ws S).length=ws.length:=by
 induction S using snocInd with
 | h0=>rfl
 | h1 S s ih=>rw [imgN_snoc];simp [imgStep,ih]
theorem markN_len (n:Nat) (S:List Nat):(markN n S).length=n:=by
 induction S using snocInd with
 | h0=>simp [markN]
 | h1 S s ih=>rw [markN_snoc];simp [ih]
theorem imgN_lt (base:Nat) {ws:List Nat} (S:List Nat) (h:∀x∈ws,x<4294967296):∀x∈imgN base ws S,x<4294967296:=by
 induction S using snocInd with
 | h0=>exact h
 | h1 S s ih=>rw [imgN_snoc];exact set_lt ih (Nat.mod_lt _ (by decide))
theorem imgN_at (base:Nat) (ws S:List Nat) (j:Nat) (hn:S.Nodup) (hj:j<ws.length):(imgN base ws S).getD j 0=if j∈S then (ws.getD j 0+base)%4294967296 else ws.getD j 0:=by
 induction S using snocInd with
 | h0=>simp [imgN]
 | h1 S s ih =>
   have h2:S.Nodup∧s ∉ S:=by
    have:=List.nodup_append.1 hn;exact ⟨this.1,fun h=>this.2.2 s h s (by simp) rfl⟩
   have hl:=imgN_len base ws S;rw [imgN_snoc];unfold imgStep
   by_cases e:j=s
   · subst e
     rw [getD_set _ _ _ _ _ (by omega),if_pos rfl,if_pos (by simp),ih h2.1,if_neg h2.2]
   · have:((imgN base ws S).set s (((imgN base ws S).getD s 0+base)%4294967296)).getD j 0=(imgN base ws S).getD j 0:=by
      simp only [List.getD_eq_getElem?_getD];rw [List.getElem?_set_ne (by omega)]
     rw [this,ih h2.1];simp [e]
theorem markN_at (n:Nat) (S:List Nat) (j:Nat) (hj:j<n):(markN n S).getD j false=decide (j∈S):=by
 induction S using snocInd with
 | h0=>simp [markN,List.getD_eq_getElem?_getD,hj]
 | h1 S s ih =>
   rw [markN_snoc];have hl:=markN_len n S
   by_cases e:j=s
   · subst e
     rw [getD_set _ _ _ _ _ (by omega),if_pos rfl];simp
   · have:((markN n S).set s true).getD j false=(markN n S).getD j false:=by
      simp only [List.getD_eq_getElem?_getD];rw [List.getElem?_set_ne (by omega)]
     rw [this,ih];simp [e]
def regs0 (at_ mem:Nat):RS:=⟨((List.replicate 16 0).set 13 (at_%4294967296)).set 14 (4*mem%4294967296),0,false,false,false,false⟩
def spl (Z:List Nat) (at_:Nat) (l:List Nat):List Nat:=Z.take at_++(l++Z.drop (at_+l.length))
def laidM (at_:Nat) (l:List Nat):List Nat:=spl (List.replicate 4096 0) at_ l
def ms0 (at_ mem:Nat) (ws S inp:List Nat):MS:=⟨regs0 at_ mem,at_,0,inp,[],laidM (at_ / 4) (imgN at_ ws S),mem⟩
def tg0 (n:Nat) (S:List Nat):TG:=⟨(List.replicate 16 false).set 13 true,markN n S,false,false⟩
theorem spl_len {Z:List Nat} {at_:Nat} {l:List Nat} (h:at_+l.length≤Z.length):(spl Z at_ l).length=Z.length:=by simp [spl];omega
theorem spl_at {Z:List Nat} {at_:Nat} {l:List Nat} (h:at_+l.length≤Z.length) {j:Nat} (hj:j<l.length):(spl Z at_ l).getD (at_+j) 0=l.getD j 0:=by
 unfold spl;rw [List.getD_eq_getElem?_getD,List.getElem?_append_right (by simp;omega),List.getElem?_append_left (by simp;omega),List.getD_eq_getElem?_getD]
 congr 2
 simp;omega
theorem spl_lt {Z:List Nat} {at_:Nat} {l:List Nat} (hz:∀x∈Z,x<4294967296) (h:∀x∈l,x<4294967296):∀x∈spl Z at_ l,x<4294967296:=by
 intro x hx;simp only [spl,List.mem_append] at hx
 rcases hx with h1 | h1 | h1
 · exact hz x (List.mem_of_mem_take h1)
 · exact h x h1
 · exact hz x (List.mem_of_mem_drop h1)
theorem z_len:(List.replicate 4096 (0:Nat)).length=4096:=List.length_replicate
theorem laidM_len {at_:Nat} {l:List Nat} (h:at_+l.length≤4096):(laidM at_ l).length=4096:=(spl_len (by rw [z_len];exact h)).trans z_len
theorem laidM_at {at_:Nat} {l:List Nat} (h:at_+l.length≤4096) {j:Nat} (hj:j<l.length):(laidM at_ l).getD (at_+j) 0=l.getD j 0:=spl_at (by rw [z_len];exact h) hj
theorem laidM_lt {at_:Nat} {l:List Nat} (h:∀x∈l,x<4294967296):∀x∈laidM at_ l,x<4294967296:=spl_lt (fun x hx=>by have:=List.eq_of_mem_replicate hx;omega) h
theorem ms0_ok {at_ mem:Nat} {ws S inp:List Nat} (ha:at_≤124) (hm:at_ / 4+ws.length≤mem) (h4:mem≤4096) (hw:∀x∈ws,x<4294967296) (hi:∀x∈inp,x<4294967296):MOk (ms0 at_ mem ws S inp):=by
 have hl:=imgN_len at_ ws S;refine ⟨laidM_len (by omega),by simp [ms0,regs0],h4,laidM_lt (imgN_lt _ _ hw),?_,(show 0<4294967296 by decide),hi,(fun x h=>by cases h),(show at_<4294967296 by omega)⟩
 show ∀x∈((List.replicate 16 0).set 13 (at_%4294967296)).set 14 (4*mem%4294967296),x<4294967296
 exact set_lt (set_lt (fun x hx=>by have:=List.eq_of_mem_replicate hx;omega) (Nat.mod_lt _ (by decide))) (Nat.mod_lt _ (by decide))
theorem start_sim {i k mem:Nat} {ws S inp:List Nat} (hS:S.Pairwise (· < ·)) (hi:i≤124) (hk:k≤124) (i4:i%4=0) (k4:k%4=0) (h1:i / 4+ws.length≤mem) (h2:k / 4+ws.length≤mem) (h4:mem≤4096) (hw:∀x∈ws,x<4294967296) (hin:∀x∈inp,x<4294967296) :
 Fix ((4294967296+k - i)%4294967296) i k ws.length (ms0 i mem ws S inp) (ms0 k mem ws S inp) (tg0 ws.length S) ∧
 Sim ((4294967296+k - i)%4294967296) i k ws.length (ms0 i mem ws S inp) (ms0 k mem ws S inp) (tg0 ws.length S):=by
 have A:=ms0_ok (S:=S) hi h1 h4 hw hin;have B:=ms0_ok (S:=S) hk h2 h4 hw hin;have hn:S.Nodup:=hS.imp (fun h=>Nat.ne_of_lt h);obtain ⟨d,hd⟩:∃d,(4294967296+k - i)%4294967296=d:=⟨_,rfl⟩;rw [hd];refine ⟨⟨rfl,h1,h2,h4,i4,k4,hi,hk,hd.symm,A.M,B.M,A.R,B.R,by simp [tg0],by simp [tg0,markN_len],A.w,B.w,A.r,B.r⟩,⟨?_,?_,fun _=>⟨rfl,rfl⟩,fun _=>⟨rfl,rfl⟩,rfl,rfl,rfl⟩,by show k=(i+d)%4294967296;omega,rfl⟩
 · intro j hj
   have hj:j=0∨j=1∨j=2∨j=3∨j=4∨j=5∨j=6∨j=7∨j=8∨j=9∨j=10∨j=11∨j=12∨j=13∨j=14∨j=15:=by omega
   rcases hj with rfl | rfl | rfl | rfl | rfl | rfl | rfl | rfl | rfl | rfl | rfl | rfl | rfl | rfl | rfl | rfl
   all_goals first
    | rfl
    | (show k%4294967296=(i%4294967296+d)%4294967296;omega)
 · intro j hj
   show (laidM (k / 4) (imgN k ws S)).getD (k / 4+j) 0=sh d ((markN ws.length S).getD j false) ((laidM (i / 4) (imgN i ws S)).getD (i / 4+j) 0)
   rw [laidM_at (by rw [imgN_len];omega) (by rw [imgN_len];omega),laidM_at (by rw [imgN_len];omega) (by rw [imgN_len];omega),imgN_at _ _ _ _ hn hj,imgN_at _ _ _ _ hn hj,markN_at _ _ _ hj]
   by_cases hm:j∈S
   · simp only [hm,if_true,decide_true,sh_t];omega
   · simp only [hm,if_false,decide_false,sh_f]
end Go.Proofs.YtjmiaemabhlnjaaGreatDoor.Chains.Shifts
end
section
set_option linter.all false
set_option maxRecDepth 20000
namespace Go.Proofs.YtjmiaemabhlnjaaGreatDoor.Chains.Shifts
open Go Go.RowKit Go.Proofs.YtjmiaemabhlnjaaGreatDoor.Chains
structure Fr (w w':World) (g1 g2:Nat) (o:Option Nat):Prop where
 os:w'.os=w.os
 tape:w'.tape=w.tape
 output:w'.output=w.output
 size:w.heap.size≤w'.heap.size
 block:∀k,k<w.heap.size→k≠g1→k≠g2→o≠some k→w'.heap[k]? = w.heap[k]?
theorem grown_setM (w:World) (g i:Nat) (x:Value):w.grownBy (w.setCell ⟨g,i,none⟩ x) (some g) :=
 ⟨rfl,rfl,rfl,by simp,fun k _ hk=>heap_setCell_other w ⟨g,i,none⟩ k x (fun e=>hk (by simp [e]))⟩
section
variable {w w' w1 w2:World} {g1 g2:Nat} {o o':Option Nat}
theorem Fr.bl (h:Bl w w'):Fr w w' g1 g2 o:=⟨h.out.os,h.out.tape,h.out.output,h.out.size,fun k hk _ _ _=>h.out.block k hk⟩
theorem Fr.refl:Fr w w g1 g2 o:=Fr.bl (Bl.refl w)
theorem Fr.grown {r:Option Nat} (h:w.grownBy w' r) (hr:∀g,r=some g→g=g1∨g=g2∨o=some g):Fr w w' g1 g2 o :=
 ⟨h.os,h.tape,h.output,h.size,fun k hk n1 n2 n3=>h.block k hk (fun e=>by rcases hr k e.symm with h1 | h1 | h1<;>contradiction)⟩
theorem Fr.trans (h:Fr w w1 g1 g2 o) (k:Fr w1 w2 g1 g2 o') (ho:o'=o∨∃g,o'=some g∧w.heap.size≤g):Fr w w2 g1 g2 o :=
 ⟨k.os.trans h.os,k.tape.trans h.tape,k.output.trans h.output,Nat.le_trans h.size k.size,fun j hj n1 n2 n3 =>
   (k.block j (Nat.lt_of_lt_of_le hj h.size) n1 n2 (fun e=>by
     rcases ho with rfl | ⟨g,rfl,hg⟩
     · exact n3 e
     · have:=Option.some.inj e;omega)).trans (h.block j hj n1 n2 n3)⟩
theorem Fr.set1 (j:Nat) (v:Value):Fr w (w.setCell ⟨g1,j,none⟩ v) g1 g2 o:=Fr.grown (grown_setM w g1 j v) (fun g e=>.inl (Option.some.inj e).symm)
theorem Fr.set2 (j:Nat) (v:Value):Fr w (w.setCell ⟨g2,j,none⟩ v) g1 g2 o:=Fr.grown (grown_setM w g2 j v) (fun g e=>.inr (.inl (Option.some.inj e).symm))
theorem Fr.row1 (cs:Array Value):Fr w (w.setRow g1 cs) g1 g2 o:=Fr.grown (grown_setRow w g1 cs) (fun g e=>.inl (Option.some.inj e).symm)
theorem Fr.blk (h:Fr w w' g1 g2 o) {k:Nat} (hk:k<w.heap.size) (n1:k≠g1) (n2:k≠g2) (n3:o≠some k):w'.heap[k]? = w.heap[k]? := h.block k hk n1 n2 n3
theorem Fr.cell (h:Fr w w' g1 g2 o) {a:Addr} {v:Value} (hc:w.cell? a=some v) (n1:a.block≠g1) (n2:a.block≠g2) (n3:o≠some a.block):w'.cell? a=some v:=by
 rw [World.cell?_of_block (h.block a.block (World.block_lt_of_cell? w a hc) n1 n2 n3)];exact hc
theorem Fr.to_bl {W:World} (h:Fr w w' g1 g2 o) (k:Bl W w) (h1:W.heap.size≤g1) (h2:W.heap.size≤g2) (h3:∀g,o=some g→W.heap.size≤g):Bl W w' :=
 ⟨h.os.trans k.out.os,h.tape.trans k.out.tape,h.output.trans k.out.output,Nat.le_trans k.out.size h.size,fun j hj =>
   (h.block j (Nat.lt_of_lt_of_le hj k.out.size) (by omega) (by omega) (fun e=>by have:=h3 j e;omega)).trans (k.out.block j hj)⟩
end
theorem own_blk {w w':World} {base:Nat} {e:TypeId} {size n:Nat} {v:Value} {xs:List Value} (h:w.ownsRow base e size v n xs) (k:∀g,v.ownBlock=some g→w'.heap[g]? = w.heap[g]?):w'.ownsRow base e size v n xs:=by
 obtain ⟨h1,h2⟩:=h;refine ⟨h1,?_⟩
 rcases h2 with h2 | ⟨g,cap,cur,rfl,hg,hh,hr⟩
 · exact .inl h2
 · exact .inr ⟨g,cap,cur,rfl,hg,by rw [k g rfl];exact hh,hr⟩
theorem rdw_blk {w w':World} {A:Option Addr} {c:Nat} {l:List Nat} (h:RdW w A c l) (k:∀ad,A=some ad→w'.heap[ad.block]? = w.heap[ad.block]?):RdW w' A c l :=
 ⟨h.le,h.mx,h.nil,fun ad ha j x hj=>by
   have e:w'.heap[(ad.add j).block]? = w.heap[(ad.add j).block]? := by rw [add_block];exact k ad ha
   rw [World.cell?_of_block e];exact h.cells ad ha j x hj⟩
section
variable {w:World} {gm ga:Nat} {s:RS} {pc st:Nat} {inV outV:Value}
theorem MBlk.setIn (h:MBlk w gm ga s pc st inV outV) (v:Value):MBlk (w.setCell ⟨gm,24,none⟩ v) gm ga s pc st v outV:=by
 have hl:=h.ok.clen;refine ⟨?_,h.ok⟩;rw [heap_setCell_same w gm 24 _ _ _ h.h];simp [List.set_append_right,hl]
theorem MBlk.setOut (h:MBlk w gm ga s pc st inV outV) (v:Value):MBlk (w.setCell ⟨gm,25,none⟩ v) gm ga s pc st inV v:=by
 have hl:=h.ok.clen;refine ⟨?_,h.ok⟩;rw [heap_setCell_same w gm 25 _ _ _ h.h];simp [List.set_append_right,hl]
theorem MBlk.setSt (h:MBlk w gm ga s pc st inV outV) (v:Nat):MBlk (w.setCell ⟨gm,23,none⟩ (.int .i64 (v:Int))) gm ga s pc v inV outV:=by
 have hl:=h.ok.clen;refine ⟨?_,h.ok⟩;rw [heap_setCell_same w gm 23 _ _ _ h.h];simp [List.set_append_right,hl]
theorem MBlk.setPc (h:MBlk w gm ga s pc st inV outV) (v:Nat):MBlk (w.setCell ⟨gm,22,none⟩ (.int .u32 (v:Int))) gm ga s v st inV outV:=by
 have hl:=h.ok.clen;refine ⟨?_,h.ok⟩;rw [heap_setCell_same w gm 22 _ _ _ h.h];simp [List.set_append_right,hl]
theorem cells_R {s:RS} (h:s.Ok) {j:Nat} (hj:j<16) (x:Nat):s.cells.set j (.int .u32 (x:Int))=(putR s j x).cells:=by
 have hl:=h.len
 have hu:(u32n s.R).length=16:=by simpa [u32n] using hl
 show List.set (u32n s.R++_) j _=(u32n (s.R.set j x)++_)
 rw [List.set_append_left _ _ (by omega),u32n,u32n,List.map_set]
 rfl
theorem MBlk.setReg (h:MBlk w gm ga s pc st inV outV) {j:Nat} (hj:j<16) {x:Nat} (hx:x<4294967296):MBlk (w.setCell ⟨gm,1+j,none⟩ (.int .u32 (x:Int))) gm ga (putR s j x) pc st inV outV:=by
 have hl:=h.ok.clen;refine ⟨?_,⟨by show (s.R.set j x).length=16;simpa using h.ok.len,set_lt h.ok.lt hx,h.ok.hlt⟩⟩;rw [heap_setCell_same w gm (1+j) _ _ _ h.h,←cells_R h.ok hj x,List.setIfInBounds_toArray,Nat.add_comm 1 j,List.set_cons_succ,List.set_append_left _ _ (by omega)]
theorem MBlk.regc (h:MBlk w gm ga s pc st inV outV) {j:Nat} (hj:j<16):w.cell? ⟨gm,1+j,none⟩=some (.int .u32 ((reg s j:Nat):Int)):=by
 rw [cell_of_row w gm (1+j) _ _ (0,0) h.h];refine h.sub j _ ?_;have hl:=h.ok.len
 have hu:(u32n s.R).length=16:=by simpa [u32n] using hl
 have:j<s.R.length:=by omega
 simp [RS.cells,List.getElem?_append_left,hu,hj,u32n,reg,this,List.getD_eq_getElem?_getD]
theorem MBlk.setS (h:MBlk w gm ga s pc st inV outV) {s2:RS} (h2:s2.Ok) {cur:Array Value} (hc:w.heap[gm]? = some (.cells cur 70 (0,0))):MBlk (w.setRow gm (cur.toList.take 1++s2.arr.toList++cur.toList.drop (1+s2.arr.size)).toArray) gm ga s2 pc st inV outV:=by
 have e:=hc.symm.trans h.h
 obtain rfl:cur=_:=by injection e with e;injection e
 have hl:=h.ok.clen;have hz:s2.arr.size=21:=h2.cell.1;refine ⟨?_,h2⟩;rw [setRow_heap _ _ _ _ _ (0,0) h.h,hz]
 congr 3
 simp [RS.arr,List.drop_append,hl]
end
structure MW (w:World) (gm ga:Nat) (ib ob:Option Nat) (m:MS):Prop where
 ex:∃A c outV,MBlk w gm ga m.s m.pc m.st (.slice A m.inp.length c) outV∧RdW w A c m.inp∧A.map (·.block)=ib∧w.ownsRow 0 56 1 outV m.out.length (u32n m.out)∧outV.ownBlock=ob
 mem:Mem w ga m.n m.M
 d1:gm≠ga
 d2:ib≠some gm
 d3:ib≠some ga
 d4:ob≠some gm
 d5:ob≠some ga
 d6:∀g,ob=some g→ib≠some g
 ilt:∀g,ib=some g→g<w.heap.size
section
variable {w w':World} {gm ga:Nat} {ib ob:Option Nat} {m:MS}
theorem MW.olt (h:MW w gm ga ib ob m):∀g,ob=some g→g<w.heap.size:=by
 obtain ⟨A,c,outV,h1,h2,h3,h4,h5⟩:=h.ex;exact fun g e=>(h4.lt g (by rw [h5];exact e)).2
theorem MW.mlt (h:MW w gm ga ib ob m):gm<w.heap.size:=by obtain ⟨A,c,outV,h1,_⟩:=h.ex;exact h1.lt
theorem MW.stay (h:MW w gm ga ib ob m) (hz:w.heap.size≤w'.heap.size) (k1:w'.heap[gm]? = w.heap[gm]?) (k2:w'.heap[ga]? = w.heap[ga]?) (k3:∀g,ib=some g→w'.heap[g]? = w.heap[g]?) (k4:∀g,ob=some g→w'.heap[g]? = w.heap[g]?):MW w' gm ga ib ob m:=by
 obtain ⟨A,c,outV,h1,h2,h3,h4,h5⟩:=h.ex
 exact ⟨⟨A,c,outV,⟨by rw [k1];exact h1.h,h1.ok⟩,rdw_blk h2 (fun ad ha=>k3 ad.block (by rw [←h3,ha];rfl)),h3,own_blk h4 (fun g hg=>k4 g (by rw [←h5];exact hg)),h5⟩,
  ⟨by rw [k2];exact h.mem.h,h.mem.len,h.mem.le,h.mem.lt⟩,h.d1,h.d2,h.d3,h.d4,h.d5,h.d6,fun g e=>Nat.lt_of_lt_of_le (h.ilt g e) hz⟩
theorem MW.keep (h:MW w gm ga ib ob m) (k:Bl w w'):MW w' gm ga ib ob m :=
 h.stay k.out.size (k.blk h.mlt) (k.blk h.mem.lth) (fun g e=>k.blk (h.ilt g e)) (fun g e=>k.blk (h.olt g e))
theorem MW.other (h:MW w gm ga ib ob m) {g1 g2:Nat} {o:Option Nat} (k:Fr w w' g1 g2 o) (n:∀g,(g=gm∨g=ga∨ib=some g∨ob=some g)→g≠g1∧g≠g2∧o≠some g):MW w' gm ga ib ob m :=
 h.stay k.size (k.blk h.mlt (n _ (.inl rfl)).1 (n _ (.inl rfl)).2.1 (n _ (.inl rfl)).2.2) (k.blk h.mem.lth (n _ (.inr (.inl rfl))).1 (n _ (.inr (.inl rfl))).2.1 (n _ (.inr (.inl rfl))).2.2)
  (fun g e=>k.blk (h.ilt g e) (n _ (.inr (.inr (.inl e)))).1 (n _ (.inr (.inr (.inl e)))).2.1 (n _ (.inr (.inr (.inl e)))).2.2)
  (fun g e=>k.blk (h.olt g e) (n _ (.inr (.inr (.inr e)))).1 (n _ (.inr (.inr (.inr e)))).2.1 (n _ (.inr (.inr (.inr e)))).2.2)
theorem MW.blk (h:MW w gm ga ib ob m) {s:RS} {pc st:Nat} (hz:w.heap.size≤w'.heap.size) (k:∀g,g<w.heap.size→g≠gm→w'.heap[g]? = w.heap[g]?)
 (hb:∀inV outV,MBlk w gm ga m.s m.pc m.st inV outV→MBlk w' gm ga s pc st inV outV):MW w' gm ga ib ob {m with s:=s,pc:=pc,st:=st}:=by
 obtain ⟨A,c,outV,h1,h2,h3,h4,h5⟩:=h.ex;have e1:w'.heap[ga]? = w.heap[ga]? := k ga h.mem.lth (Ne.symm h.d1)
 exact ⟨⟨A,c,outV,hb _ _ h1,rdw_blk h2 (fun ad ha=>k _ (h.ilt _ (by rw [←h3,ha];rfl)) (fun e=>h.d2 (by rw [←h3,ha,←e];rfl))),h3,own_blk h4 (fun g hg=>k g (h.olt g (by rw [←h5];exact hg)) (fun e=>h.d4 (by rw [←h5,hg,e]))),h5⟩,
  ⟨by rw [e1];exact h.mem.h,h.mem.len,h.mem.le,h.mem.lt⟩,h.d1,h.d2,h.d3,h.d4,h.d5,h.d6,fun g e=>Nat.lt_of_lt_of_le (h.ilt g e) hz⟩
theorem MW.memy (h:MW w gm ga ib ob m) {M:List Nat} (hz:w.heap.size≤w'.heap.size) (k:∀g,g<w.heap.size→g≠ga→w'.heap[g]? = w.heap[g]?) (hb:Mem w' ga m.n M):MW w' gm ga ib ob {m with M:=M}:=by
 obtain ⟨A,c,outV,h1,h2,h3,h4,h5⟩:=h.ex
 exact ⟨⟨A,c,outV,⟨by rw [k gm h1.lt h.d1];exact h1.h,h1.ok⟩,rdw_blk h2 (fun ad ha=>k _ (h.ilt _ (by rw [←h3,ha];rfl)) (fun e=>h.d3 (by rw [←h3,ha,←e];rfl))),h3,own_blk h4 (fun g hg=>k g (h.olt g (by rw [←h5];exact hg)) (fun e=>h.d5 (by rw [←h5,hg,e]))),h5⟩,
  hb,h.d1,h.d2,h.d3,h.d4,h.d5,h.d6,fun g e=>Nat.lt_of_lt_of_le (h.ilt g e) hz⟩
theorem mem_at (h:Mem w ga m.n m.M) {q:Nat} (hq:q<m.n):m.M[q]? = some (m.M.getD q 0):=by
 have h1:=h.len;have h2:=h.le;rw [List.getD_eq_getElem?_getD,List.getElem?_eq_getElem (by omega)];rfl
theorem setC_other (w:World) (g j:Nat) (v:Value):∀k,k<w.heap.size→k≠g→(w.setCell ⟨g,j,none⟩ v).heap[k]? = w.heap[k]? := fun k hk hn=>heap_setCell_other w ⟨g,j,none⟩ k v (fun e=>hn (by simpa using e))
theorem mw_load (h:MW w gm ga ib ob m) {op a:Nat} (ha:a<4294967296) :
 Calls Tryz.prog 84 #[.pointer (some ⟨gm,0,none⟩),.int .i64 (op:Int),.int .u32 (a:Int)] w fun e w'=>e=.returned (.tuple #[.int .u32 ((loadS m op a).1:Int),.int .i64 ((loadS m op a).2.1:Int)])∧MW w' gm ga ib ob (loadS m op a).2.2∧Fr w w' gm ga ob:=by
 obtain ⟨A,c,outV,h1,h2,h3,h4,h5⟩:=h.ex;have hmem:=h.mem;unfold loadS
 by_cases ho:op=1
 · subst ho
   rw [if_pos rfl]
   by_cases hq:a / 4<m.n
   · rw [if_pos hq]
     refine (ld_byte_ok h1 hmem a _ ha hq (mem_at hmem hq)).mono ?_;rintro e w' ⟨rfl,rfl⟩;exact ⟨rfl,h,Fr.refl⟩
   · rw [if_neg hq]
     refine (ld_byte_no h1 hmem a ha hq).mono ?_;rintro e w' ⟨rfl,rfl⟩;exact ⟨rfl,h,Fr.refl⟩
 · rw [if_neg ho]
   have ho':(op:Int)≠1:=by omega
   by_cases hp:a=4294967232
   · subst hp
     rw [if_pos rfl]
     cases hi:m.inp with
     | nil =>
       rw [hi] at h1;refine (ld_in_nil h1 op ho').mono ?_;rintro e w' ⟨rfl,rfl⟩;exact ⟨rfl,h,Fr.refl⟩
     | cons x r =>
       rw [hi] at h1 h2
       cases A with
       | none=>have:=(h2.nil rfl).1;cases this
       | some ad =>
         obtain ⟨A2,hb,hr,hc⟩:=ld_in_cons (k:=r.length) rfl h1 h2 op ho';refine hc.mono ?_;rintro e w' ⟨rfl,rfl⟩;refine ⟨rfl,?_,Fr.set1 _ _⟩;have k:=setC_other w gm 24 (.slice (some A2) r.length (c - 1));have hzz:w.heap.size≤(w.setCell ⟨gm,24,none⟩ (.slice (some A2) r.length (c - 1))).heap.size:=(grown_setM w gm 24 _).size
         have hi2:ib=some A2.block:=by rw [←h3,hb];rfl
         have hk1:A2.block<w.heap.size:=h.ilt _ hi2;have hk2:A2.block≠gm:=fun e=>h.d2 (by rw [hi2,e])
         exact ⟨⟨some A2,c - 1,outV,h1.setIn _,rdw_blk hr (fun ad' e=>by obtain rfl:=Option.some.inj e;exact k _ hk1 hk2),by rw [←h3];simp [hb],own_blk h4 (fun g hg=>k g (h.olt g (by rw [←h5];exact hg)) (fun e=>h.d4 (by rw [←h5,hg,e]))),h5⟩,
          ⟨by rw [k ga hmem.lth (Ne.symm h.d1)];exact hmem.h,hmem.len,hmem.le,hmem.lt⟩,h.d1,h.d2,h.d3,h.d4,h.d5,h.d6,fun g e=>Nat.lt_of_lt_of_le (h.ilt g e) hzz⟩
   · rw [if_neg hp]
     by_cases ht:atT m.n a 4=0
     · rw [if_pos ht]
       have hq:a%4=0∧a / 4<m.n:=by
        unfold atT at ht
        split at ht
        · split at ht
          · exact ⟨by assumption,by assumption⟩
          · cases ht
        · cases ht
       refine (ld_word_ok h1 hmem op ho' a _ ha hp hq.1 hq.2 (mem_at hmem hq.2)).mono ?_;rintro e w' ⟨rfl,rfl⟩;exact ⟨rfl,h,Fr.refl⟩
     · rw [if_neg ht]
       refine (ld_word_no h1 hmem op ho' a ha hp ht).mono ?_;rintro e w' ⟨rfl,rfl⟩;exact ⟨rfl,h,Fr.refl⟩
theorem mw_store (h:MW w gm ga ib ob m) (h9:m.out.length≤1000) {op a x:Nat} (ha:a<4294967296) (hx:x<4294967296) :
 Calls Tryz.prog 83 #[.pointer (some ⟨gm,0,none⟩),.int .i64 (op:Int),.int .u32 (a:Int),.int .u32 (x:Int)] w fun e w'=>∃ob',e=.returned (.int .i64 ((storeS ⟨setBN⟩ m op a x).1:Int))∧MW w' gm ga ib ob' (storeS ⟨setBN⟩ m op a x).2∧Fr w w' gm ga ob∧(ob'=ob∨∃g,ob'=some g∧w.heap.size≤g):=by
 obtain ⟨A,c,outV,h1,h2,h3,h4,h5⟩:=h.ex;have hmem:=h.mem;unfold storeS
 by_cases ho:op=3
 · subst ho
   rw [if_pos rfl]
   by_cases hq:a / 4<m.n
   · rw [if_pos hq]
     refine (st_byte_ok h1 hmem a x _ ha hx hq (mem_at hmem hq)).mono ?_;rintro e w' ⟨rfl,rfl⟩;have hl:=setB_is (m.M.getD (a / 4) 0) (x%256) (a%4) (getD_lt hmem.lt _);refine ⟨ob,rfl,h.memy (grown_setM w ga _ _).size (setC_other w ga _ _) (hmem.put (by have:=hmem.le;omega) hl.2),Fr.set2 _ _,.inl rfl⟩
   · rw [if_neg hq]
     refine (st_byte_no h1 hmem a x ha hx hq).mono ?_;rintro e w' ⟨rfl,rfl⟩;exact ⟨ob,rfl,h,Fr.refl,.inl rfl⟩
 · rw [if_neg ho]
   have ho':(op:Int)≠3:=by omega
   by_cases hp:a=4294967236
   · subst hp
     rw [if_pos rfl]
     have hne:outV.ownBlock≠some gm:=by rw [h5];exact h.d4
     refine (st_out (base:=0) h1 rfl h9 ⟨h4⟩ (Nat.zero_le _) ⟨hne⟩ op ho' x).mono ?_;rintro e w' ⟨v',w1,rfl,rfl,how,hgr,hloc⟩
     have hz1:w.heap.size≤w1.heap.size:=by have:=hgr.size;simp at this;omega
     have k1:∀g,g<w.heap.size→ob≠some g→w1.heap[g]? = w.heap[g]? := fun g hg hn=>by
      rw [hgr.block g (by simp;omega) (by rw [h5];exact fun e=>hn e.symm)];exact heap_alloc_old w _ hg
     have hnew:v'.ownBlock=ob∨∃g,v'.ownBlock=some g∧w.heap.size≤g:=by
      rcases hloc with e | e
      · exact .inl (e.trans h5)
      · exact .inr ⟨_,e,by simp⟩
     have k2:=setC_other w1 gm 25 v';have fr1:Fr w w1 gm ga ob:=⟨hgr.os,hgr.tape,hgr.output,hz1,fun k hk _ _ n3=>k1 k hk n3⟩
     have dd:∀g,v'.ownBlock=some g→g<w.heap.size→ob=some g:=fun g e hg=>by
      rcases hnew with h | ⟨g',h,hg'⟩
      · rw [←h];exact e
      · rw [h] at e;have:=Option.some.inj e;omega
     have hmb:MBlk w1 gm ga m.s m.pc m.st (.slice A m.inp.length c) outV:=⟨by rw [k1 gm h1.lt h.d4];exact h1.h,h1.ok⟩;have q4:v'.ownBlock≠some gm:=fun e=>h.d4 (dd _ e h.mlt);refine ⟨v'.ownBlock,rfl,⟨⟨A,c,v',hmb.setOut _,rdw_blk h2 (fun ad ha=>?_),h3,?_,rfl⟩,⟨?_,hmem.len,hmem.le,hmem.lt⟩,h.d1,h.d2,h.d3,q4,fun e=>h.d5 (dd _ e hmem.lth),fun g e e'=>?_,fun g e=>?_⟩,fr1.trans (Fr.set1 25 v') (.inl rfl),hnew⟩
     · have hi:ib=some ad.block:=by rw [←h3,ha];rfl
       have hl:=h.ilt _ hi;rw [k2 _ (by omega) (fun e=>h.d2 (by rw [hi,e]))];exact k1 _ hl (fun e=>h.d6 _ e hi)
     · show (w1.setCell _ _).ownsRow 0 56 1 v' (m.out++[x]).length _
       rw [List.length_append];exact own_blk how (fun g hg=>k2 g (how.lt g hg).2 (fun e=>q4 (by rw [hg,e])))
     · rw [k2 ga (by have:=hmem.lth;omega) (Ne.symm h.d1),k1 ga hmem.lth h.d5];exact hmem.h
     · have hl:=h.ilt g e'
       exact h.d6 g (dd g e hl) e'
     · have:=h.ilt g e
       have:=(grown_setM w1 gm 25 v').size;omega
   · rw [if_neg hp]
     by_cases hh:a=4294967240
     · subst hh
       rw [if_pos rfl];refine (st_halt (gm:=gm) (w:=w) op ho' x).mono ?_;rintro e w' ⟨rfl,rfl⟩;exact ⟨ob,rfl,h,Fr.refl,.inl rfl⟩
     · rw [if_neg hh]
       by_cases ht:atT m.n a 4=0
       · rw [if_pos ht]
         have hq:a%4=0∧a / 4<m.n:=by
          unfold atT at ht
          split at ht
          · split at ht
            · exact ⟨by assumption,by assumption⟩
            · cases ht
          · cases ht
         refine (st_word_ok h1 hmem op ho' a x ha hx ⟨hp,hh⟩ hq.1 hq.2).mono ?_;rintro e w' ⟨rfl,rfl⟩;exact ⟨ob,rfl,h.memy (grown_setM w ga _ _).size (setC_other w ga _ _) (hmem.put (by have:=hmem.le;omega) hx),Fr.set2 _ _,.inl rfl⟩
       · rw [if_neg ht]
         refine (st_word_no h1 hmem op ho' a x ha ⟨hp,hh⟩ ht).mono ?_;rintro e w' ⟨rfl,rfl⟩;exact ⟨ob,rfl,h,Fr.refl,.inl rfl⟩
end
theorem MBlk.st {w:World} {gm ga:Nat} {s:RS} {pc st:Nat} {inV outV:Value} (h:MBlk w gm ga s pc st inV outV) {s2:RS} (h2:s2.Ok) :
 ∃w',(Instr.storeAt 68 (.pointer (some ⟨gm,1,none⟩)) (.agg s2.arr)).run Tryz.prog w=.ok () w'∧MBlk w' gm ga s2 pc st inV outV∧w.grownBy w' (some gm):=by
 have hz:=h2.cell.1;have hl:=h.ok.clen
 have hi:(Tryz.prog.info? 68).map (·.size)=some s2.arr.size:=by rw [hz];exact i68
 obtain ⟨cur,hcur,hc⟩:∃cur:Array Value,w.heap[gm]? = some (.cells cur 70 (0,0))∧cur.size=26:=⟨_,h.h,by simp [hl]⟩;have hst:=run_storeCells_at Tryz.prog gm 1 70 s2.arr.toList 0 cur w hcur (by simp [hc,hz]) (fun v hv=>(Array.all_eq_true_iff_forall_mem.1 s2.one) v (by simpa using hv));simp only [Nat.add_zero,Array.length_toList] at hst;refine ⟨w.setRow gm (cur.toList.take 1++s2.arr.toList++cur.toList.drop (1+s2.arr.size)).toArray,?_,h.setS h2 hcur,grown_setRow w gm _⟩
 cases hq:Tryz.prog.info? 68 with
 | none=>simp [hq] at hi
 | some i =>
   have hs:s2.arr.size=i.size:=by simp [hq] at hi;omega
   have hrun:(storeVar 68 ⟨gm,1,none⟩ (.agg s2.arr)).run Tryz.prog w=.ok () (w.setRow gm (cur.toList.take 1++s2.arr.toList++cur.toList.drop (1+s2.arr.size)).toArray):=by
    simp [storeVar,sizeOf,typeInfo,hq,Value.cells,hs,hst]
    try simpa [hs] using hst
   simp only [Instr.storeAt,Instr.sureAddr,Sem.run_bind,Sem.run_pure,Result.andThen_ok,hrun]
theorem wrapN (x k:Nat):IntKind.u32.wrap ((x:Int)+(k:Int))=(((x+k)%4294967296:Nat):Int):=by simp [IntKind.wrap,IntKind.bits,IntKind.signed]
theorem wp_store_run {P:Program} {op:Oper} {a:Act} {w w':World} {K:Act→World→Prop} {Q:Exit→Act→World→Prop} (ty:TypeId) (x y:Operand) (ho:op.op=.store ty x y) (p v:Value)
 (hx:a.eval x=p) (hy:a.eval y=v) (hr:(Instr.storeAt ty p v).run P w=.ok () w') (h:K (a.put op.dst undef) w'):op.wp P a w K Q:=by
 unfold Oper.wp execOp;simp only [ho,hx,hy,Sem.run_bind,Sem.run_pure,Result.andThen_ok,hr];exact h
theorem mdo_alu {w:World} {gm ga:Nat} {s:RS} {pc st:Nat} {inV outV:Value} (h:MBlk w gm ga s pc st inV outV) {kd op a b c:Nat} {im:Int} {u:Bool} (hkd:kd≤4) {s2:RS} {t:Nat} (h2:s2.Ok)
 (HD:∀wx,Calls Tryz.prog 86 #[.agg s.arr,.agg (insV kd op a b c im u)] wx fun e w'=>e=.returned (.tuple #[.agg s2.arr,.int .i64 (t:Int)])∧Bl wx w') :
 Calls Tryz.prog 52 #[.pointer (some ⟨gm,0,none⟩),.agg (insV kd op a b c im u)] w fun e w'=>e=.returned (.tuple #[.int .u32 (((pc+4)%4294967296:Nat):Int),.int .i64 (t:Int)])∧MBlk w' gm ga s2 pc st inV outV∧w.grownBy w' (some gm):=by
 have k5:¬((kd:Int)=5):=by omega
 have k6:¬((kd:Int)=6):=by omega
 have k7:¬((kd:Int)=7):=by omega
 have H2:=Aside.mk h2;obtain ⟨w0,hw0⟩:∃w0,w.alloc (.cells (insV kd op a b c im u) 72)=w0:=⟨_,rfl⟩;have B0:=Aside.mk (show Bl w w0 by rw [←hw0];exact (Bl.refl w).alloc _);have M0:=Aside.mk (h.keep B0.out);have I0:=Aside.mk (show w0.heap[w.heap.size]? = some (.cells (insV kd op a b c im u) 72 (0,0)) by rw [←hw0];exact heap_alloc_new w _);obtain ⟨c0,c1,c2,c3,c4⟩:=M0.out.cells
 have i0:w0.cell? ⟨w.heap.size,0,none⟩=some (.int .i64 (kd:Int)):=by rw [cell_of_row w0 _ 0 _ _ (0,0) I0.out];rfl
 have MB:=Aside.mk (M0.out.keep (Bl.refl w0).drew);have hpc:IntKind.u32.wrap ((pc:Int)+4)=(((pc+4)%4294967296:Nat):Int):=wrapN pc 4;obtain ⟨p4,hp4⟩:∃p4,(pc+4)%4294967296=p4:=⟨_,rfl⟩;rw [hp4] at hpc ⊢;obtain ⟨RV2,hRV2⟩:∃RV2,s2.arr=RV2:=⟨_,rfl⟩;have E2:=Aside.mk hRV2
 have hv1:w0.drew.rangeAt gm 1 s.cells:=fun j v hj=>by rw [cell_of_row w0.drew gm (1+j) _ _ (0,0) MB.out.h];exact MB.out.sub j v hj
 have hi1:(Tryz.prog.info? 68).map (·.size)=some s.cells.length:=by rw [h.ok.clen];exact i68
 obtain ⟨IL,hIL⟩:∃IL,(insV kd op a b c im u).toList=IL:=⟨_,rfl⟩;have HDA:Aside (∀wx,Calls Tryz.prog 86 #[.agg s.cells.toArray,.agg IL.toArray] wx fun e w'=>e=.returned (.tuple #[.agg RV2,.int .i64 (t:Int)])∧Bl wx w'):=⟨fun wx=>by have:=HD wx;rw [hRV2] at this;rw [←hIL];exact this⟩
 have hi2:(Tryz.prog.info? 72).map (·.size)=some IL.length:=by rw [←hIL];exact i72
 have hv2:w0.drew.rangeAt w.heap.size 0 IL:=fun j v hj=>by rw [cell_of_row w0.drew _ (0+j) _ _ (0,0) I0.out];rw [←hIL] at hj;simpa using hj
 clear h h2 HD hRV2 hkd hp4;go_enter Tryz.func52,Tryz.ntmps52
 go_wp2_with fail
 refine wp_region_any (by kernel_rfl) ?_
 change wpAny _ _ _ _ _ _ _ (World.drew _)
 refine wpAny_take (i:=0) (oi:={dst:=some 118,op:=Op.move (Operand.tmp 0),type:=51,pos := "machine.go:95",after:=#[],guard:=none}) (v:=.pointer (some ⟨gm,0,none⟩)) rfl (by kernel_rfl) (by kernel_rfl) (by kernel_rfl) (fun _ _ _ h=>h) (Or.inl ⟨rfl,fun w=>rfl⟩) ?_;simp only [Act.put,List.setIfInBounds_toArray,List.set_cons_zero,List.set_cons_succ];refine wpAny_take (i:=1) (oi:={dst:=some 119,op:=Op.move (Operand.tmp 0),type:=51,pos := "machine.go:95",after:=#[],guard:=none}) (v:=.pointer (some ⟨gm,0,none⟩)) rfl (by kernel_rfl) (by kernel_rfl) (by kernel_rfl) (fun _ _ _ h=>h) (Or.inl ⟨rfl,fun w=>rfl⟩) ?_
 simp only [Act.put,List.setIfInBounds_toArray,List.set_cons_zero,List.set_cons_succ];refine wpAny_take (i:=2) (oi:={dst:=some 120,op:=Op.nilCheck (Operand.tmp 119),type:=0,pos := "machine.go:95",after:=#[{on:=1,ground:=Ground.data}],guard:=none}) (v:=.pointer (some ⟨gm,0,none⟩)) rfl (by kernel_rfl) (by kernel_rfl) (by kernel_rfl) (fun _ _ _ h=>h) (Or.inl ⟨rfl,fun w=>rfl⟩) ?_;simp only [Act.put,List.setIfInBounds_toArray,List.set_cons_zero,List.set_cons_succ]
 refine wpAny_take (i:=3) (oi:={dst:=some 121,op:=Op.fieldAddr 70 (Operand.tmp 120) 1,type:=0,pos := "machine.go:95",after:=#[{on:=2,ground:=Ground.data}],guard:=none}) (v:=.pointer (some ⟨gm,1,none⟩)) rfl (by kernel_rfl) (by kernel_rfl) (by kernel_rfl) (fun _ _ _ h=>h) (Or.inl ⟨rfl,fun w=>by go_simp⟩) ?_;simp only [Act.put,List.setIfInBounds_toArray,List.set_cons_zero,List.set_cons_succ];refine wpAny_ready (rs:=[4,5]) (by kernel_rfl) (by simp) (AllReady.cons (o:={dst:=some 122,op:=Op.load 68 (Operand.tmp 121),type:=68,pos := "machine.go:95",after:=#[{on:=3,ground:=Ground.data}],guard:=none}) rfl (fun K hK=>?_) (AllReady.cons (o:={dst:=some 123,op:=Op.load 72 (Operand.tmp 3),type:=72,pos := "machine.go:95",after:=#[],guard:=none}) rfl (fun K hK=>?_) AllReady.nil))
 · skip
   rw [if_pos (by rfl)];refine wp_load_mid 68 (.tmp 121) rfl gm 1 rfl s.cells _ hv1 Tryz.underlying68 rfl hi1 ?_;refine hK _ _ ?_;clear hK K;simp only [Act.put,List.setIfInBounds_toArray,List.set_cons_zero,List.set_cons_succ];refine wpAny_ready (rs:=[5]) (by kernel_rfl) (by simp) (AllReady.cons (o:={dst:=some 123,op:=Op.load 72 (Operand.tmp 3),type:=72,pos := "machine.go:95",after:=#[],guard:=none}) rfl (fun K hK=>?_) AllReady.nil)
   rw [if_pos (by rfl)];refine wp_load_mid 72 (.tmp 3) rfl w.heap.size 0 rfl IL _ hv2 Tryz.underlying72 rfl hi2 ?_;refine hK _ _ ?_;clear hK K;simp only [Act.put,List.setIfInBounds_toArray,List.set_cons_zero,List.set_cons_succ];refine wpAny_ready (rs:=[6]) (by kernel_rfl) (by simp) (AllReady.cons (o:={dst:=some 124,op:=Op.call {callee:=Callee.value (Operand.func 86),args:=#[Operand.tmp 122,Operand.tmp 123],argTypes:=#[68,72]},type:=164,pos := "machine.go:95",after:=#[{on:=4,ground:=Ground.data},{on:=5,ground:=Ground.data}],guard:=none}) rfl (fun K hK=>?_) AllReady.nil)
   rw [if_pos (by rfl)]
   go_wp2_with (first
    | (go_at_call 86;with_reducible refine (HDA.out _).mono ?_;rintro e w1 ⟨rfl,hb1⟩
       obtain ⟨w2,hs2,hm2,hg2⟩:=(MB.out.keep hb1).st H2.out;rw [E2.out] at hs2;have M2:=Aside.mk hm2;have G2:=Aside.mk (And.intro hb1 hg2)
       clear hm2 hg2))
   refine wpAny_take (i:=7) (oi:={dst:=some 117,op:=Op.move (Operand.tmp 124),type:=164,pos := "machine.go:95",after:=#[{on:=6,ground:=Ground.data}],guard:=none}) (v:=.tuple #[.agg RV2,.int .i64 (t:Int)]) rfl (by kernel_rfl) (by kernel_rfl) (by kernel_rfl) (fun _ _ _ h=>h) (Or.inl ⟨rfl,fun w=>rfl⟩) ?_;simp only [Act.put,List.setIfInBounds_toArray,List.set_cons_zero,List.set_cons_succ];refine wpAny_take (i:=8) (oi:={dst:=some 125,op:=Op.extract (Operand.tmp 117) 0,type:=68,pos := "machine.go:95",after:=#[{on:=7,ground:=Ground.data}],guard:=none}) (v:=.agg RV2) rfl (by kernel_rfl) (by kernel_rfl) (by kernel_rfl) (fun _ _ _ h=>h) (Or.inl ⟨rfl,fun w=>rfl⟩) ?_
   simp only [Act.put,List.setIfInBounds_toArray,List.set_cons_zero,List.set_cons_succ];refine wpAny_take (i:=9) (oi:={dst:=some 126,op:=Op.extract (Operand.tmp 117) 1,type:=3,pos := "machine.go:95",after:=#[{on:=7,ground:=Ground.data},{on:=12,ground:=Ground.gcOnly Departure.lateStores}],guard:=none}) (v:=.int .i64 (t:Int)) rfl (by kernel_rfl) (by kernel_rfl) (by kernel_rfl) (fun _ _ _ h=>h) (Or.inl ⟨rfl,fun w=>rfl⟩) ?_
   simp only [Act.put,List.setIfInBounds_toArray,List.set_cons_zero,List.set_cons_succ];refine wpAny_take (i:=10) (oi:={dst:=some 127,op:=Op.nilCheck (Operand.tmp 118),type:=0,pos := "machine.go:95",after:=#[{on:=0,ground:=Ground.data},{on:=0,ground:=Ground.phase},{on:=1,ground:=Ground.phase},{on:=2,ground:=Ground.phase},{on:=3,ground:=Ground.phase},{on:=4,ground:=Ground.phase},{on:=5,ground:=Ground.phase},{on:=6,ground:=Ground.phase},{on:=7,ground:=Ground.phase},{on:=8,ground:=Ground.phase},{on:=9,ground:=Ground.textOnly Departure.lateStores}],guard:=none}) (v:=.pointer (some ⟨gm,0,none⟩)) rfl (by kernel_rfl) (by kernel_rfl) (by kernel_rfl) (fun _ _ _ h=>h) (Or.inl ⟨rfl,fun w=>rfl⟩) ?_
   simp only [Act.put,List.setIfInBounds_toArray,List.set_cons_zero,List.set_cons_succ];refine wpAny_take (i:=11) (oi:={dst:=some 128,op:=Op.fieldAddr 70 (Operand.tmp 127) 1,type:=0,pos := "machine.go:95",after:=#[{on:=10,ground:=Ground.data},{on:=0,ground:=Ground.phase},{on:=1,ground:=Ground.phase},{on:=2,ground:=Ground.phase},{on:=3,ground:=Ground.phase},{on:=4,ground:=Ground.phase},{on:=5,ground:=Ground.phase},{on:=6,ground:=Ground.phase},{on:=7,ground:=Ground.phase},{on:=8,ground:=Ground.phase},{on:=9,ground:=Ground.textOnly Departure.lateStores}],guard:=none}) (v:=.pointer (some ⟨gm,1,none⟩)) rfl (by kernel_rfl) (by kernel_rfl) (by kernel_rfl) (fun _ _ _ h=>h) (Or.inl ⟨rfl,fun w=>by go_simp⟩) ?_
   simp only [Act.put,List.setIfInBounds_toArray,List.set_cons_zero,List.set_cons_succ];refine wpAny_ready (rs:=[12]) (by kernel_rfl) (by simp) (AllReady.cons (o:={dst:=none,op:=Op.store 68 (Operand.tmp 128) (Operand.tmp 125),type:=0,pos := "machine.go:95",after:=#[{on:=11,ground:=Ground.data},{on:=8,ground:=Ground.data},{on:=6,ground:=Ground.chain},{on:=0,ground:=Ground.phase},{on:=1,ground:=Ground.phase},{on:=2,ground:=Ground.phase},{on:=3,ground:=Ground.phase},{on:=4,ground:=Ground.phase},{on:=5,ground:=Ground.phase},{on:=6,ground:=Ground.phase},{on:=7,ground:=Ground.phase},{on:=8,ground:=Ground.phase},{on:=9,ground:=Ground.textOnly Departure.lateStores}],guard:=none}) rfl (fun K hK=>?_) AllReady.nil)
   rw [if_pos (by rfl)];refine wp_store_run 68 _ _ rfl (.pointer (some ⟨gm,1,none⟩)) (.agg RV2) rfl rfl hs2 ?_;refine hK _ _ ?_;clear hK K;simp only [Act.put,List.setIfInBounds_toArray,List.set_cons_zero,List.set_cons_succ];refine wpAny_take (i:=13) (oi:={dst:=some 11,op:=Op.assign (Operand.tmp 126),type:=3,pos := "machine.go:95",after:=#[{on:=9,ground:=Ground.data},{on:=12,ground:=Ground.chain},{on:=0,ground:=Ground.phase},{on:=1,ground:=Ground.phase},{on:=2,ground:=Ground.phase},{on:=3,ground:=Ground.phase},{on:=4,ground:=Ground.phase},{on:=5,ground:=Ground.phase},{on:=6,ground:=Ground.phase},{on:=7,ground:=Ground.phase},{on:=8,ground:=Ground.phase},{on:=9,ground:=Ground.phase},{on:=10,ground:=Ground.phase},{on:=11,ground:=Ground.phase},{on:=12,ground:=Ground.phase}],guard:=none}) (v:=.int .i64 (t:Int)) rfl (by kernel_rfl) (by kernel_rfl) (by kernel_rfl) (fun _ _ _ h=>h) (Or.inl ⟨rfl,fun w=>rfl⟩) ?_
   simp only [Act.put,List.setIfInBounds_toArray,List.set_cons_zero,List.set_cons_succ];refine wpAny_done (by kernel_rfl) ?_ _;go_wp2;go_ret2;exact ⟨rfl,M2.out,(bl_by ((B0.out.drew).trans G2.out.1) (some gm)).trans G2.out.2⟩
 · skip
   rw [if_pos (by rfl)];refine wp_load_mid 72 (.tmp 3) rfl w.heap.size 0 rfl IL _ hv2 Tryz.underlying72 rfl hi2 ?_;refine hK _ _ ?_;clear hK K;simp only [Act.put,List.setIfInBounds_toArray,List.set_cons_zero,List.set_cons_succ];refine wpAny_ready (rs:=[4]) (by kernel_rfl) (by simp) (AllReady.cons (o:={dst:=some 122,op:=Op.load 68 (Operand.tmp 121),type:=68,pos := "machine.go:95",after:=#[{on:=3,ground:=Ground.data}],guard:=none}) rfl (fun K hK=>?_) AllReady.nil)
   rw [if_pos (by rfl)];refine wp_load_mid 68 (.tmp 121) rfl gm 1 rfl s.cells _ hv1 Tryz.underlying68 rfl hi1 ?_;refine hK _ _ ?_;clear hK K;simp only [Act.put,List.setIfInBounds_toArray,List.set_cons_zero,List.set_cons_succ];refine wpAny_ready (rs:=[6]) (by kernel_rfl) (by simp) (AllReady.cons (o:={dst:=some 124,op:=Op.call {callee:=Callee.value (Operand.func 86),args:=#[Operand.tmp 122,Operand.tmp 123],argTypes:=#[68,72]},type:=164,pos := "machine.go:95",after:=#[{on:=4,ground:=Ground.data},{on:=5,ground:=Ground.data}],guard:=none}) rfl (fun K hK=>?_) AllReady.nil)
   rw [if_pos (by rfl)]
   go_wp2_with (first
    | (go_at_call 86;with_reducible refine (HDA.out _).mono ?_;rintro e w1 ⟨rfl,hb1⟩
       obtain ⟨w2,hs2,hm2,hg2⟩:=(MB.out.keep hb1).st H2.out;rw [E2.out] at hs2;have M2:=Aside.mk hm2;have G2:=Aside.mk (And.intro hb1 hg2)
       clear hm2 hg2))
   refine wpAny_take (i:=7) (oi:={dst:=some 117,op:=Op.move (Operand.tmp 124),type:=164,pos := "machine.go:95",after:=#[{on:=6,ground:=Ground.data}],guard:=none}) (v:=.tuple #[.agg RV2,.int .i64 (t:Int)]) rfl (by kernel_rfl) (by kernel_rfl) (by kernel_rfl) (fun _ _ _ h=>h) (Or.inl ⟨rfl,fun w=>rfl⟩) ?_;simp only [Act.put,List.setIfInBounds_toArray,List.set_cons_zero,List.set_cons_succ];refine wpAny_take (i:=8) (oi:={dst:=some 125,op:=Op.extract (Operand.tmp 117) 0,type:=68,pos := "machine.go:95",after:=#[{on:=7,ground:=Ground.data}],guard:=none}) (v:=.agg RV2) rfl (by kernel_rfl) (by kernel_rfl) (by kernel_rfl) (fun _ _ _ h=>h) (Or.inl ⟨rfl,fun w=>rfl⟩) ?_
   simp only [Act.put,List.setIfInBounds_toArray,List.set_cons_zero,List.set_cons_succ];refine wpAny_take (i:=9) (oi:={dst:=some 126,op:=Op.extract (Operand.tmp 117) 1,type:=3,pos := "machine.go:95",after:=#[{on:=7,ground:=Ground.data},{on:=12,ground:=Ground.gcOnly Departure.lateStores}],guard:=none}) (v:=.int .i64 (t:Int)) rfl (by kernel_rfl) (by kernel_rfl) (by kernel_rfl) (fun _ _ _ h=>h) (Or.inl ⟨rfl,fun w=>rfl⟩) ?_
   simp only [Act.put,List.setIfInBounds_toArray,List.set_cons_zero,List.set_cons_succ];refine wpAny_take (i:=10) (oi:={dst:=some 127,op:=Op.nilCheck (Operand.tmp 118),type:=0,pos := "machine.go:95",after:=#[{on:=0,ground:=Ground.data},{on:=0,ground:=Ground.phase},{on:=1,ground:=Ground.phase},{on:=2,ground:=Ground.phase},{on:=3,ground:=Ground.phase},{on:=4,ground:=Ground.phase},{on:=5,ground:=Ground.phase},{on:=6,ground:=Ground.phase},{on:=7,ground:=Ground.phase},{on:=8,ground:=Ground.phase},{on:=9,ground:=Ground.textOnly Departure.lateStores}],guard:=none}) (v:=.pointer (some ⟨gm,0,none⟩)) rfl (by kernel_rfl) (by kernel_rfl) (by kernel_rfl) (fun _ _ _ h=>h) (Or.inl ⟨rfl,fun w=>rfl⟩) ?_
   simp only [Act.put,List.setIfInBounds_toArray,List.set_cons_zero,List.set_cons_succ];refine wpAny_take (i:=11) (oi:={dst:=some 128,op:=Op.fieldAddr 70 (Operand.tmp 127) 1,type:=0,pos := "machine.go:95",after:=#[{on:=10,ground:=Ground.data},{on:=0,ground:=Ground.phase},{on:=1,ground:=Ground.phase},{on:=2,ground:=Ground.phase},{on:=3,ground:=Ground.phase},{on:=4,ground:=Ground.phase},{on:=5,ground:=Ground.phase},{on:=6,ground:=Ground.phase},{on:=7,ground:=Ground.phase},{on:=8,ground:=Ground.phase},{on:=9,ground:=Ground.textOnly Departure.lateStores}],guard:=none}) (v:=.pointer (some ⟨gm,1,none⟩)) rfl (by kernel_rfl) (by kernel_rfl) (by kernel_rfl) (fun _ _ _ h=>h) (Or.inl ⟨rfl,fun w=>by go_simp⟩) ?_
   simp only [Act.put,List.setIfInBounds_toArray,List.set_cons_zero,List.set_cons_succ];refine wpAny_ready (rs:=[12]) (by kernel_rfl) (by simp) (AllReady.cons (o:={dst:=none,op:=Op.store 68 (Operand.tmp 128) (Operand.tmp 125),type:=0,pos := "machine.go:95",after:=#[{on:=11,ground:=Ground.data},{on:=8,ground:=Ground.data},{on:=6,ground:=Ground.chain},{on:=0,ground:=Ground.phase},{on:=1,ground:=Ground.phase},{on:=2,ground:=Ground.phase},{on:=3,ground:=Ground.phase},{on:=4,ground:=Ground.phase},{on:=5,ground:=Ground.phase},{on:=6,ground:=Ground.phase},{on:=7,ground:=Ground.phase},{on:=8,ground:=Ground.phase},{on:=9,ground:=Ground.textOnly Departure.lateStores}],guard:=none}) rfl (fun K hK=>?_) AllReady.nil)
   rw [if_pos (by rfl)];refine wp_store_run 68 _ _ rfl (.pointer (some ⟨gm,1,none⟩)) (.agg RV2) rfl rfl hs2 ?_;refine hK _ _ ?_;clear hK K;simp only [Act.put,List.setIfInBounds_toArray,List.set_cons_zero,List.set_cons_succ];refine wpAny_take (i:=13) (oi:={dst:=some 11,op:=Op.assign (Operand.tmp 126),type:=3,pos := "machine.go:95",after:=#[{on:=9,ground:=Ground.data},{on:=12,ground:=Ground.chain},{on:=0,ground:=Ground.phase},{on:=1,ground:=Ground.phase},{on:=2,ground:=Ground.phase},{on:=3,ground:=Ground.phase},{on:=4,ground:=Ground.phase},{on:=5,ground:=Ground.phase},{on:=6,ground:=Ground.phase},{on:=7,ground:=Ground.phase},{on:=8,ground:=Ground.phase},{on:=9,ground:=Ground.phase},{on:=10,ground:=Ground.phase},{on:=11,ground:=Ground.phase},{on:=12,ground:=Ground.phase}],guard:=none}) (v:=.int .i64 (t:Int)) rfl (by kernel_rfl) (by kernel_rfl) (by kernel_rfl) (fun _ _ _ h=>h) (Or.inl ⟨rfl,fun w=>rfl⟩) ?_
   simp only [Act.put,List.setIfInBounds_toArray,List.set_cons_zero,List.set_cons_succ];refine wpAny_done (by kernel_rfl) ?_ _;go_wp2;go_ret2;exact ⟨rfl,M2.out,(bl_by ((B0.out.drew).trans G2.out.1) (some gm)).trans G2.out.2⟩
end Go.Proofs.YtjmiaemabhlnjaaGreatDoor.Chains.Shifts
end
