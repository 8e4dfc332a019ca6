/- A part of the proof of TopShifts. -/
import Derived.Test.YtjmiaemabhlnjaaGreatDoorQ2
import Derived.Deep.RegionHeld3
section
set_option linter.all false
set_option maxRecDepth 20000
namespace Go.Proofs.YtjmiaemabhlnjaaGreatDoor.Chains.Shifts
open Go Go.RowKit Go.Proofs.YtjmiaemabhlnjaaGreatDoor.Chains
set_option maxHeartbeats 4000000 in
theorem do_reg_p_ok {s:RS} (h:s.Ok) {op a b c:Nat} {im:Int} {u:Bool} (ha:a<16) (hb:b<16) (hc:c<16) (hop:op<12) (hk:ukOf op=195) (hok:(aluS UA s op u (reg s b) (reg s c)).ok=true) (hm:∀wx,Calls Tryz.prog 81 #[.agg (insV 1 op a b c im u)] wx fun e w'=>e=.returned (.bool true)∧Bl wx w') (w:World) :
 Calls Tryz.prog 86 #[.agg s.arr,.agg (insV 1 op a b c im u)] w fun e w'=>e=.returned (.tuple #[.agg (showS (putR (aluS UA s op u (reg s b) (reg s c)).s a (aluS UA s op u (reg s b) (reg s c)).x) (aluS UA s op u (reg s b) (reg s c)).x).arr,.int .i64 0])∧Bl w w':=by
 have HM:=Aside.mk hm;have hfd:=field_0
 have hb0:(0:Int)≤(b:Int):=by omega
 have hb1:(b:Int)<16:=by omega
 have hx:=(alu_s_ok h op u (reg_lt' h b) (reg_lt' h c)).1;have hs2:=(alu_s_ok h op u (reg_lt' h b) (reg_lt' h c)).2;have HU:=Aside.mk (fun wx=>units_p hop hk wx);obtain ⟨N,hN⟩:∃N,(reg s c)=N:=⟨_,rfl⟩
 have hNl:N<4294967296:=by rw [←hN];exact (reg_lt' h c)
 obtain ⟨BB,hB⟩:∃BB,reg s b=BB:=⟨_,rfl⟩
 have hBl:BB<4294967296:=by rw [←hB];exact reg_lt' h b
 rw [hB,hN] at hok hx hs2 ⊢;obtain ⟨X,hX⟩:∃X,(aluS UA s op u BB N).x=X:=⟨_,rfl⟩;obtain ⟨s2,hS2⟩:∃s2,(aluS UA s op u BB N).s=s2:=⟨_,rfl⟩;rw [hX] at hx ⊢;rw [hS2] at hs2 ⊢;have HUC:=Aside.mk (And.intro hok (And.intro hX hS2));have HUC2:=Aside.mk (And.intro hBl hNl);have HN:=Aside.mk hN;obtain ⟨RV,hRV⟩:∃RV,s.arr=RV:=⟨_,rfl⟩;obtain ⟨RV2,hRV2⟩:∃RV2,(putR s2 a X).arr=RV2:=⟨_,rfl⟩;obtain ⟨RV3,hRV3⟩:∃RV3,(showS (putR s2 a X) X).arr=RV3:=⟨_,rfl⟩
 have HSh:=Aside.mk (fun wx=>show_any (ok_put hs2 a hx) X hx wx);rw [hRV2,hRV3] at HSh;rw [hRV,hRV3];have E2:=Aside.mk hRV2;have Z3:=Aside.mk (sz3 (ok_show (ok_put hs2 a hx) X) hRV3);clear hRV2 hRV3;obtain ⟨w0,hw0⟩:∃w0,((w.alloc (.cells RV 68)).alloc (.cells (insV 1 op a b c im u) 72)).alloc (.cells zR 68)=w0:=⟨_,rfl⟩
 have hD:DoW w0 w.heap.size s 1 op a b c im u zR:=by
  rw [←hw0,←hRV]
  have k:((w.alloc (.cells s.arr 68)).alloc (.cells (insV 1 op a b c im u) 72)).heap.size=w.heap.size+2:=by simp
  have n2:=heap_alloc_new ((w.alloc (.cells s.arr 68)).alloc (.cells (insV 1 op a b c im u) 72)) (.cells zR 68);rw [k] at n2;exact ⟨⟨(heap_alloc_old _ _ (by simp;omega)).trans (heap_alloc2_old w _ _),h⟩,(heap_alloc_old _ _ (by simp)).trans (heap_alloc2_new w _ _),n2,rfl⟩
 have D0:=Aside.mk hD;have B0:=Aside.mk (show Bl w w0 by rw [←hw0];exact (((Bl.refl w).alloc _).alloc _).alloc _);have E1:=Aside.mk hRV;have HS:=Aside.mk h;clear hm h hD hRV hok hX hS2 hN hBl hNl;clear hk
 all_goals
  go_enter Tryz.func86,Tryz.ntmps86
  go_wp2_with (first
   | (refine wpList_load_row rfl 72 (.tmp 3) rfl (w.heap.size+1) rfl 72 _ (0,0) _ D0.out.i Tryz.underlying72 rfl i72 ?_)
   | (go_at_call 81;with_reducible refine (HM.out _).mono ?_;rintro e w1 ⟨rfl,hb1⟩;have D1:=Aside.mk (D0.out.keep hb1);have B1:=Aside.mk (B0.out.trans hb1);clear hb1
      have c0:=D1.out.ic (j:=0) rfl
      have R1:=Aside.mk (RN.mk D1.out.r E1.out))
   | (refine wpList_load_row rfl 68 (.tmp 2) rfl w.heap.size rfl 68 RV (0,0) _ R1.out.h Tryz.underlying68 rfl R1.out.sz ?_)
   | (refine wpList_store_row rfl 68 (.tmp 6) (.tmp 19) rfl w1.heap.size RV rfl rfl 68 _ (heap_alloc_new w1 _) R1.out.sz (by rw [R1.out.l21];rfl) R1.out.one ?_
      rw [World.setRow_alloc_new];obtain ⟨w2,hw2⟩:∃w2,w1.alloc (.cells RV 68)=w2:=⟨_,rfl⟩;rw [hw2];have B2:=Aside.mk (show Bl w1 w2 by rw [←hw2];exact (Bl.refl w1).alloc _);have R2:=Aside.mk (show RB w2 w1.heap.size s from ⟨by rw [←hw2,E1.out];exact heap_alloc_new w1 _,HS.out⟩);have D2:=Aside.mk (D1.out.keep B2.out);clear hw2 c0;have c0:=D2.out.ic (j:=0) rfl;have c1:=D2.out.ic (j:=1) rfl;have c3:=D2.out.ic (j:=3) rfl;have c4:=D2.out.ic (j:=4) rfl;have c5:=D2.out.ic (j:=5) rfl;have c6:=D2.out.ic (j:=6) rfl
      have cb:=D2.out.r.cell (reg_at D2.out.r.ok hb);rw [hB] at cb;have cc:=D2.out.r.cell (reg_at D2.out.r.ok hc);rw [HN.out] at cc))
  have N1:=Aside.mk (show w.heap.size+1≠w1.heap.size from by have:=(Array.getElem?_eq_some_iff.1 D1.out.z).1;omega);have N0:=Aside.mk (show w.heap.size≠w1.heap.size from by have:=(Array.getElem?_eq_some_iff.1 D1.out.z).1;omega);have C1:=Aside.mk (show w2.cell? ⟨w.heap.size+1,1,none⟩=some (.int .i64 (op:Int)) from c1);have C3:=Aside.mk (show w2.cell? ⟨w.heap.size+1,3,none⟩=some (.int .i64 (b:Int)) from c3)
  have C6:=Aside.mk (show w2.cell? ⟨w.heap.size+1,6,none⟩=some (.bool u) from c6);have CB:=Aside.mk (show w2.cell? ⟨w.heap.size,b,none⟩=some (.int .u32 (BB:Int)) from cb);clear c0 c1 c3 c4 c5 c6 cb cc
  go_region_held3 (fun w'=>w'.cell? ⟨w.heap.size+1,1,none⟩=some (.int .i64 (op:Int))∧w'.cell? ⟨w.heap.size+1,3,none⟩=some (.int .i64 (b:Int))∧w'.cell? ⟨w.heap.size+1,6,none⟩=some (.bool u)∧w'.cell? ⟨w.heap.size,b,none⟩=some (.int .u32 (BB:Int))) (((refine keep4 (g:=w1.heap.size) C1.out C3.out C6.out CB.out N1.out N1.out N1.out N0.out ?_);(first | (with_reducible assumption) | exact bl_by (Bl.drew (Bl.refl _)) _))) (first | (go_at_call 122;((with_reducible refine (HU.out _).mono ?_);rintro e wu ⟨L,p,rfl,hidx,hU,hbu⟩;have hGu:w2.grownBy wu (some w1.heap.size):=bl_by ((Bl.drew (Bl.refl _)).trans hbu) _;have hRu:=Aside.mk (R2.out.drew.keep hbu);have hUu:=Aside.mk hU;clear hU hbu)) | ((with_reducible refine (unitC_1 hUu.out hRu.out HUC2.out HUC.out).mono ?_);rintro e wv ⟨rfl,hRv,hgv⟩;have hGv:w2.grownBy wv (some w1.heap.size):=hGu.trans hgv))
  have D3:=Aside.mk (D2.out.grow hGv (Array.getElem?_eq_some_iff.1 D1.out.z).1);have R3:=Aside.mk hRv;have BV:=Aside.mk ((B1.out.trans B2.out).grow hGv (fun g e=>by obtain rfl:w1.heap.size=g:=Option.some.inj e;exact B1.out.out.size));clear hRv hgv hGv hGu hidx;have c2:=D3.out.ic (j:=2) rfl;have ca:=R3.out.cell (reg_at R3.out.ok ha);have fa:=R3.out.frz a
  go_wp2_with (first
   | (refine wpList_load_row rfl 68 (.tmp 6) rfl w1.heap.size rfl 68 RV2 (0,0) _ ((R3.out.setR ha hx).h.trans (by rw [E2.out])) Tryz.underlying68 rfl (by rw [←E2.out];exact i68l (ok_put hs2 a hx)) ?_)
   | (go_at_call 85;with_reducible refine (HSh.out _).mono ?_;rintro e w3 ⟨rfl,hb3⟩;have B3:=Aside.mk hb3;clear hb3)
   | (refine wpList_store_row rfl 68 (.tmp 4) (.tmp 68) rfl (w.heap.size+2) RV3 rfl rfl 68 _ (do_z D1.out D3.out B3.out) Z3.out.1 (by rw [Z3.out.2.1];rfl) Z3.out.2.2 ?_))
  refine bodyPost_ret (results_row_tmp rfl _ _ (w.heap.size+2) 68 RV3 (0,0) _ rfl (setRow_heap _ _ _ _ _ (0,0) (do_z D1.out D3.out B3.out)) Tryz.underlying68 rfl Z3.out.1) rfl ?_;exact ⟨rfl,do_bl B1.out BV.out B3.out⟩
set_option maxHeartbeats 4000000 in
theorem do_reg_n_ok {s:RS} (h:s.Ok) {op a b c:Nat} {im:Int} {u:Bool} (ha:a<16) (hb:b<16) (hc:c<16) (hop:op<12) {k:Nat} (hk:ukOf op=k) (hk5:k=154∨k=159∨k=161∨k=163∨k=165) (hok:(aluS UA s op u (reg s b) (reg s c)).ok=true) (hm:∀wx,Calls Tryz.prog 81 #[.agg (insV 1 op a b c im u)] wx fun e w'=>e=.returned (.bool true)∧Bl wx w') (w:World) :
 Calls Tryz.prog 86 #[.agg s.arr,.agg (insV 1 op a b c im u)] w fun e w'=>e=.returned (.tuple #[.agg (showS (putR (aluS UA s op u (reg s b) (reg s c)).s a (aluS UA s op u (reg s b) (reg s c)).x) (aluS UA s op u (reg s b) (reg s c)).x).arr,.int .i64 0])∧Bl w w':=by
 have HM:=Aside.mk hm;have hfd:=field_0
 have hb0:(0:Int)≤(b:Int):=by omega
 have hb1:(b:Int)<16:=by omega
 have hx:=(alu_s_ok h op u (reg_lt' h b) (reg_lt' h c)).1;have hs2:=(alu_s_ok h op u (reg_lt' h b) (reg_lt' h c)).2;have HU:=Aside.mk (fun wx=>units_no hop hk (by omega) wx);obtain ⟨N,hN⟩:∃N,(reg s c)=N:=⟨_,rfl⟩
 have hNl:N<4294967296:=by rw [←hN];exact (reg_lt' h c)
 obtain ⟨BB,hB⟩:∃BB,reg s b=BB:=⟨_,rfl⟩
 have hBl:BB<4294967296:=by rw [←hB];exact reg_lt' h b
 rw [hB,hN] at hok hx hs2 ⊢;obtain ⟨X,hX⟩:∃X,(aluS UA s op u BB N).x=X:=⟨_,rfl⟩;obtain ⟨s2,hS2⟩:∃s2,(aluS UA s op u BB N).s=s2:=⟨_,rfl⟩;rw [hX] at hx ⊢;rw [hS2] at hs2 ⊢;have HUC:=Aside.mk (And.intro hok (And.intro hX hS2));have HUC2:=Aside.mk (And.intro hBl hNl);have HN:=Aside.mk hN;obtain ⟨RV,hRV⟩:∃RV,s.arr=RV:=⟨_,rfl⟩;obtain ⟨RV2,hRV2⟩:∃RV2,(putR s2 a X).arr=RV2:=⟨_,rfl⟩;obtain ⟨RV3,hRV3⟩:∃RV3,(showS (putR s2 a X) X).arr=RV3:=⟨_,rfl⟩
 have HSh:=Aside.mk (fun wx=>show_any (ok_put hs2 a hx) X hx wx);rw [hRV2,hRV3] at HSh;rw [hRV,hRV3];have E2:=Aside.mk hRV2;have Z3:=Aside.mk (sz3 (ok_show (ok_put hs2 a hx) X) hRV3);clear hRV2 hRV3;obtain ⟨w0,hw0⟩:∃w0,((w.alloc (.cells RV 68)).alloc (.cells (insV 1 op a b c im u) 72)).alloc (.cells zR 68)=w0:=⟨_,rfl⟩
 have hD:DoW w0 w.heap.size s 1 op a b c im u zR:=by
  rw [←hw0,←hRV]
  have k:((w.alloc (.cells s.arr 68)).alloc (.cells (insV 1 op a b c im u) 72)).heap.size=w.heap.size+2:=by simp
  have n2:=heap_alloc_new ((w.alloc (.cells s.arr 68)).alloc (.cells (insV 1 op a b c im u) 72)) (.cells zR 68);rw [k] at n2;exact ⟨⟨(heap_alloc_old _ _ (by simp;omega)).trans (heap_alloc2_old w _ _),h⟩,(heap_alloc_old _ _ (by simp)).trans (heap_alloc2_new w _ _),n2,rfl⟩
 have D0:=Aside.mk hD;have B0:=Aside.mk (show Bl w w0 by rw [←hw0];exact (((Bl.refl w).alloc _).alloc _).alloc _);have E1:=Aside.mk hRV;have HS:=Aside.mk h;clear hm h hD hRV hok hX hS2 hN hBl hNl
 rcases hk5 with rfl | rfl | rfl | rfl | rfl<;>clear hk
 all_goals
  go_enter Tryz.func86,Tryz.ntmps86
  go_wp2_with (first
   | (refine wpList_load_row rfl 72 (.tmp 3) rfl (w.heap.size+1) rfl 72 _ (0,0) _ D0.out.i Tryz.underlying72 rfl i72 ?_)
   | (go_at_call 81;with_reducible refine (HM.out _).mono ?_;rintro e w1 ⟨rfl,hb1⟩;have D1:=Aside.mk (D0.out.keep hb1);have B1:=Aside.mk (B0.out.trans hb1);clear hb1
      have c0:=D1.out.ic (j:=0) rfl
      have R1:=Aside.mk (RN.mk D1.out.r E1.out))
   | (refine wpList_load_row rfl 68 (.tmp 2) rfl w.heap.size rfl 68 RV (0,0) _ R1.out.h Tryz.underlying68 rfl R1.out.sz ?_)
   | (refine wpList_store_row rfl 68 (.tmp 6) (.tmp 19) rfl w1.heap.size RV rfl rfl 68 _ (heap_alloc_new w1 _) R1.out.sz (by rw [R1.out.l21];rfl) R1.out.one ?_
      rw [World.setRow_alloc_new];obtain ⟨w2,hw2⟩:∃w2,w1.alloc (.cells RV 68)=w2:=⟨_,rfl⟩;rw [hw2];have B2:=Aside.mk (show Bl w1 w2 by rw [←hw2];exact (Bl.refl w1).alloc _);have R2:=Aside.mk (show RB w2 w1.heap.size s from ⟨by rw [←hw2,E1.out];exact heap_alloc_new w1 _,HS.out⟩);have D2:=Aside.mk (D1.out.keep B2.out);clear hw2 c0;have c0:=D2.out.ic (j:=0) rfl;have c1:=D2.out.ic (j:=1) rfl;have c3:=D2.out.ic (j:=3) rfl;have c4:=D2.out.ic (j:=4) rfl;have c5:=D2.out.ic (j:=5) rfl;have c6:=D2.out.ic (j:=6) rfl
      have cb:=D2.out.r.cell (reg_at D2.out.r.ok hb);rw [hB] at cb;have cc:=D2.out.r.cell (reg_at D2.out.r.ok hc);rw [HN.out] at cc))
  have N1:=Aside.mk (show w.heap.size+1≠w1.heap.size from by have:=(Array.getElem?_eq_some_iff.1 D1.out.z).1;omega);have N0:=Aside.mk (show w.heap.size≠w1.heap.size from by have:=(Array.getElem?_eq_some_iff.1 D1.out.z).1;omega);have C1:=Aside.mk (show w2.cell? ⟨w.heap.size+1,1,none⟩=some (.int .i64 (op:Int)) from c1);have C3:=Aside.mk (show w2.cell? ⟨w.heap.size+1,3,none⟩=some (.int .i64 (b:Int)) from c3)
  have C6:=Aside.mk (show w2.cell? ⟨w.heap.size+1,6,none⟩=some (.bool u) from c6);have CB:=Aside.mk (show w2.cell? ⟨w.heap.size,b,none⟩=some (.int .u32 (BB:Int)) from cb);clear c0 c1 c3 c4 c5 c6 cb cc
  go_region_held3 (fun w'=>w'.cell? ⟨w.heap.size+1,1,none⟩=some (.int .i64 (op:Int))∧w'.cell? ⟨w.heap.size+1,3,none⟩=some (.int .i64 (b:Int))∧w'.cell? ⟨w.heap.size+1,6,none⟩=some (.bool u)∧w'.cell? ⟨w.heap.size,b,none⟩=some (.int .u32 (BB:Int))) (((refine keep4 (g:=w1.heap.size) C1.out C3.out C6.out CB.out N1.out N1.out N1.out N0.out ?_);(first | (with_reducible assumption) | exact bl_by (Bl.drew (Bl.refl _)) _))) (first | (go_at_call 122;((with_reducible refine (HU.out _).mono ?_);rintro e wu ⟨L,rfl,hidx,hU,hbu⟩;have hGu:w2.grownBy wu (some w1.heap.size):=bl_by ((Bl.drew (Bl.refl _)).trans hbu) _;have hRu:=Aside.mk (R2.out.drew.keep hbu);have hUu:=Aside.mk hU;clear hU hbu)) | ((with_reducible refine (unitC_0 hUu.out hRu.out HUC2.out HUC.out).mono ?_);rintro e wv ⟨rfl,hRv,hgv⟩;have hGv:w2.grownBy wv (some w1.heap.size):=hGu.trans hgv))
  have D3:=Aside.mk (D2.out.grow hGv (Array.getElem?_eq_some_iff.1 D1.out.z).1);have R3:=Aside.mk hRv;have BV:=Aside.mk ((B1.out.trans B2.out).grow hGv (fun g e=>by obtain rfl:w1.heap.size=g:=Option.some.inj e;exact B1.out.out.size));clear hRv hgv hGv hGu hidx;have c2:=D3.out.ic (j:=2) rfl;have ca:=R3.out.cell (reg_at R3.out.ok ha);have fa:=R3.out.frz a
  go_wp2_with (first
   | (refine wpList_load_row rfl 68 (.tmp 6) rfl w1.heap.size rfl 68 RV2 (0,0) _ ((R3.out.setR ha hx).h.trans (by rw [E2.out])) Tryz.underlying68 rfl (by rw [←E2.out];exact i68l (ok_put hs2 a hx)) ?_)
   | (go_at_call 85;with_reducible refine (HSh.out _).mono ?_;rintro e w3 ⟨rfl,hb3⟩;have B3:=Aside.mk hb3;clear hb3)
   | (refine wpList_store_row rfl 68 (.tmp 4) (.tmp 68) rfl (w.heap.size+2) RV3 rfl rfl 68 _ (do_z D1.out D3.out B3.out) Z3.out.1 (by rw [Z3.out.2.1];rfl) Z3.out.2.2 ?_))
  refine bodyPost_ret (results_row_tmp rfl _ _ (w.heap.size+2) 68 RV3 (0,0) _ rfl (setRow_heap _ _ _ _ _ (0,0) (do_z D1.out D3.out B3.out)) Tryz.underlying68 rfl Z3.out.1) rfl ?_;exact ⟨rfl,do_bl B1.out BV.out B3.out⟩
set_option maxHeartbeats 4000000 in
theorem do_reg_n_no {s:RS} (h:s.Ok) {op a b c:Nat} {im:Int} {u:Bool} (ha:a<16) (hb:b<16) (hc:c<16) (hop:op<12) {k:Nat} (hk:ukOf op=k) (hk5:k=165) (hok:(aluS UA s op u (reg s b) (reg s c)).ok=false) (hm:∀wx,Calls Tryz.prog 81 #[.agg (insV 1 op a b c im u)] wx fun e w'=>e=.returned (.bool true)∧Bl wx w') (w:World) :
 Calls Tryz.prog 86 #[.agg s.arr,.agg (insV 1 op a b c im u)] w fun e w'=>e=.returned (.tuple #[.agg s.arr,.int .i64 5])∧Bl w w':=by
 have HM:=Aside.mk hm;have hfd:=field_0
 have hb0:(0:Int)≤(b:Int):=by omega
 have hb1:(b:Int)<16:=by omega
 have hx:=(alu_s_ok h op u (reg_lt' h b) (reg_lt' h c)).1;have hs2:=(alu_s_ok h op u (reg_lt' h b) (reg_lt' h c)).2;have HU:=Aside.mk (fun wx=>units_no hop hk (by omega) wx);obtain ⟨N,hN⟩:∃N,(reg s c)=N:=⟨_,rfl⟩
 have hNl:N<4294967296:=by rw [←hN];exact (reg_lt' h c)
 obtain ⟨BB,hB⟩:∃BB,reg s b=BB:=⟨_,rfl⟩
 have hBl:BB<4294967296:=by rw [←hB];exact reg_lt' h b
 rw [hB,hN] at hok hx hs2;obtain ⟨X,hX⟩:∃X,(aluS UA s op u BB N).x=X:=⟨_,rfl⟩;obtain ⟨s2,hS2⟩:∃s2,(aluS UA s op u BB N).s=s2:=⟨_,rfl⟩;rw [hX] at hx;rw [hS2] at hs2;have HUC:=Aside.mk (And.intro hok (And.intro hX hS2));have HUC2:=Aside.mk (And.intro hBl hNl);have HN:=Aside.mk hN;obtain ⟨RV,hRV⟩:∃RV,s.arr=RV:=⟨_,rfl⟩;rw [hRV];obtain ⟨w0,hw0⟩:∃w0,((w.alloc (.cells RV 68)).alloc (.cells (insV 1 op a b c im u) 72)).alloc (.cells zR 68)=w0:=⟨_,rfl⟩
 have hD:DoW w0 w.heap.size s 1 op a b c im u zR:=by
  rw [←hw0,←hRV]
  have k:((w.alloc (.cells s.arr 68)).alloc (.cells (insV 1 op a b c im u) 72)).heap.size=w.heap.size+2:=by simp
  have n2:=heap_alloc_new ((w.alloc (.cells s.arr 68)).alloc (.cells (insV 1 op a b c im u) 72)) (.cells zR 68);rw [k] at n2;exact ⟨⟨(heap_alloc_old _ _ (by simp;omega)).trans (heap_alloc2_old w _ _),h⟩,(heap_alloc_old _ _ (by simp)).trans (heap_alloc2_new w _ _),n2,rfl⟩
 have D0:=Aside.mk hD;have B0:=Aside.mk (show Bl w w0 by rw [←hw0];exact (((Bl.refl w).alloc _).alloc _).alloc _);have E1:=Aside.mk hRV;have HS:=Aside.mk h;clear hm h hD hRV hok hX hS2 hN hBl hNl;subst hk5;clear hk
 all_goals
  go_enter Tryz.func86,Tryz.ntmps86
  go_wp2_with (first
   | (refine wpList_load_row rfl 72 (.tmp 3) rfl (w.heap.size+1) rfl 72 _ (0,0) _ D0.out.i Tryz.underlying72 rfl i72 ?_)
   | (go_at_call 81;with_reducible refine (HM.out _).mono ?_;rintro e w1 ⟨rfl,hb1⟩;have D1:=Aside.mk (D0.out.keep hb1);have B1:=Aside.mk (B0.out.trans hb1);clear hb1
      have c0:=D1.out.ic (j:=0) rfl
      have R1:=Aside.mk (RN.mk D1.out.r E1.out))
   | (refine wpList_load_row rfl 68 (.tmp 2) rfl w.heap.size rfl 68 RV (0,0) _ R1.out.h Tryz.underlying68 rfl R1.out.sz ?_)
   | (refine wpList_store_row rfl 68 (.tmp 6) (.tmp 19) rfl w1.heap.size RV rfl rfl 68 _ (heap_alloc_new w1 _) R1.out.sz (by rw [R1.out.l21];rfl) R1.out.one ?_
      rw [World.setRow_alloc_new];obtain ⟨w2,hw2⟩:∃w2,w1.alloc (.cells RV 68)=w2:=⟨_,rfl⟩;rw [hw2];have B2:=Aside.mk (show Bl w1 w2 by rw [←hw2];exact (Bl.refl w1).alloc _);have R2:=Aside.mk (show RB w2 w1.heap.size s from ⟨by rw [←hw2,E1.out];exact heap_alloc_new w1 _,HS.out⟩);have D2:=Aside.mk (D1.out.keep B2.out);clear hw2 c0;have c0:=D2.out.ic (j:=0) rfl;have c1:=D2.out.ic (j:=1) rfl;have c3:=D2.out.ic (j:=3) rfl;have c4:=D2.out.ic (j:=4) rfl;have c5:=D2.out.ic (j:=5) rfl;have c6:=D2.out.ic (j:=6) rfl
      have cb:=D2.out.r.cell (reg_at D2.out.r.ok hb);rw [hB] at cb;have cc:=D2.out.r.cell (reg_at D2.out.r.ok hc);rw [HN.out] at cc))
  have N1:=Aside.mk (show w.heap.size+1≠w1.heap.size from by have:=(Array.getElem?_eq_some_iff.1 D1.out.z).1;omega);have N0:=Aside.mk (show w.heap.size≠w1.heap.size from by have:=(Array.getElem?_eq_some_iff.1 D1.out.z).1;omega);have C1:=Aside.mk (show w2.cell? ⟨w.heap.size+1,1,none⟩=some (.int .i64 (op:Int)) from c1);have C3:=Aside.mk (show w2.cell? ⟨w.heap.size+1,3,none⟩=some (.int .i64 (b:Int)) from c3)
  have C6:=Aside.mk (show w2.cell? ⟨w.heap.size+1,6,none⟩=some (.bool u) from c6);have CB:=Aside.mk (show w2.cell? ⟨w.heap.size,b,none⟩=some (.int .u32 (BB:Int)) from cb);clear c0 c1 c3 c4 c5 c6 cb cc
  go_region_held3 (fun w'=>w'.cell? ⟨w.heap.size+1,1,none⟩=some (.int .i64 (op:Int))∧w'.cell? ⟨w.heap.size+1,3,none⟩=some (.int .i64 (b:Int))∧w'.cell? ⟨w.heap.size+1,6,none⟩=some (.bool u)∧w'.cell? ⟨w.heap.size,b,none⟩=some (.int .u32 (BB:Int))) (((refine keep4 (g:=w1.heap.size) C1.out C3.out C6.out CB.out N1.out N1.out N1.out N0.out ?_);(first | (with_reducible assumption) | exact bl_by (Bl.drew (Bl.refl _)) _))) (first | (go_at_call 122;((with_reducible refine (HU.out _).mono ?_);rintro e wu ⟨L,rfl,hidx,hU,hbu⟩;have hGu:w2.grownBy wu (some w1.heap.size):=bl_by ((Bl.drew (Bl.refl _)).trans hbu) _;have hRu:=Aside.mk (R2.out.drew.keep hbu);have hUu:=Aside.mk hU;clear hU hbu)) | ((with_reducible refine (unitC_0 hUu.out hRu.out HUC2.out HUC.out).mono ?_);rintro e wv ⟨rfl,hRv,hgv⟩;have hGv:w2.grownBy wv (some w1.heap.size):=hGu.trans hgv))
  have D3:=Aside.mk (D2.out.grow hGv (Array.getElem?_eq_some_iff.1 D1.out.z).1);have R3:=Aside.mk hRv;have BV:=Aside.mk ((B1.out.trans B2.out).grow hGv (fun g e=>by obtain rfl:w1.heap.size=g:=Option.some.inj e;exact B1.out.out.size));clear hRv hgv hGv hGu hidx;have R4:=Aside.mk (RN.mk D3.out.r E1.out)
  go_wp2_with (first
   | (refine wpList_load_row rfl 68 (.tmp 2) rfl w.heap.size rfl 68 RV (0,0) _ R4.out.h Tryz.underlying68 rfl R4.out.sz ?_)
   | (refine wpList_store_row rfl 68 (.tmp 4) (.tmp 52) rfl (w.heap.size+2) RV rfl rfl 68 _ D3.out.z R4.out.sz (by rw [R4.out.l21];rfl) R4.out.one ?_))
  refine bodyPost_ret (results_row_tmp rfl _ _ (w.heap.size+2) 68 RV (0,0) _ rfl (setRow_heap _ _ _ _ _ (0,0) D3.out.z) Tryz.underlying68 rfl R4.out.sz) rfl ?_;exact ⟨rfl,⟨below_setRow BV.out.out (by omega) _⟩⟩
end Go.Proofs.YtjmiaemabhlnjaaGreatDoor.Chains.Shifts
end
