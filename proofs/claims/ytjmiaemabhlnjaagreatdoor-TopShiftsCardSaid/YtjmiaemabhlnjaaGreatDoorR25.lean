/- A part of the proof of TopShifts. -/
import Derived.Test.YtjmiaemabhlnjaaGreatDoorR24
import Derived.Test.YtjmiaemabhlnjaaGreatDoorQ1
import Derived.Deep.QuietTactic
import Derived.Deep.RegionHeld3
import Derived.Test.YtjmiaemabhlnjaaGreatDoorQ3
import Derived.Test.YtjmiaemabhlnjaaGreatDoorQ2
import Derived.Deep.MidRow
section
set_option linter.all false
set_option maxRecDepth 20000
namespace Go.Proofs.YtjmiaemabhlnjaaGreatDoor.Chains.Shifts
open Go Go.RowKit Go.Proofs.YtjmiaemabhlnjaaGreatDoor.Chains
theorem ins_c {w:World} {g:Nat} {kd op a b c:Nat} {im:Int} {u:Bool} (h:w.heap[g]? = some (.cells (insV kd op a b c im u) 72 (0,0))) :
 w.cell? ⟨g,0,none⟩=some (.int .i64 (kd:Int))∧w.cell? ⟨g,1,none⟩=some (.int .i64 (op:Int))∧w.cell? ⟨g,2,none⟩=some (.int .i64 (a:Int))∧w.cell? ⟨g,3,none⟩=some (.int .i64 (b:Int))∧w.cell? ⟨g,4,none⟩=some (.int .i64 (c:Int))∧w.cell? ⟨g,5,none⟩=some (.int .i64 im)∧w.cell? ⟨g,6,none⟩=some (.bool u):=by
 refine ⟨?_,?_,?_,?_,?_,?_,?_⟩<;>(rw [cell_of_row w g _ _ _ (0,0) h];rfl)
theorem to_is (p:Nat) (im:Int):((p:Int)+im%4294967296*4)%4294967296=((p:Int)+(word32 im:Int)*4)%4294967296:=by unfold word32;omega
set_option maxHeartbeats 4000000 in
theorem mdo_br {w:World} {gm ga:Nat} {s:RS} {pc st:Nat} {inV outV:Value} (h:MBlk w gm ga s pc st inV outV) (hpl:pc<4294967296) {kd op a b c:Nat} {im:Int} {u tk:Bool} (hkd:kd=6∨kd=7) (hop:op<16) (hc:c<16) (htk:takenS s op=tk) :
 Calls Tryz.prog 52 #[.pointer (some ⟨gm,0,none⟩),.agg (insV kd op a b c im u)] w fun e w'=>e=.returned (.tuple #[.int .u32 ((if tk then (if kd=7 then ((pc+4)%4294967296+word32 im*4)%4294967296 else reg s c) else (pc+4)%4294967296:Nat):Int),.int .i64 0])∧MBlk w' gm ga (if tk&&u then putR s 15 ((pc+4)%4294967296) else s) pc st inV outV∧w.grownBy w' (some gm):=by
 have HT:Aside (∀wx,Calls Tryz.prog 48 #[.agg s.cells.toArray,.int .i64 (op:Int)] wx fun e w'=>e=.returned (.bool tk)∧Bl wx w'):=⟨fun wx=>by have:=taken_any h.ok (op:Int) (by omega) (by omega) wx;rw [Int.toNat_natCast,htk] at this;exact this⟩
 have hc0:(0:Int)≤(c:Int):=by omega
 have hc1:(c:Int)<16:=by omega
 obtain ⟨w0,hw0⟩:∃w0,w.alloc (.cells (insV kd op a b c im u) 72)=w0:=⟨_,rfl⟩;have B0:=Aside.mk (show Bl w w0 by rw [←hw0];exact (Bl.refl w).alloc _);have M0:=Aside.mk (h.keep B0.out);have I0:=Aside.mk (show w0.heap[w.heap.size]? = some (.cells (insV kd op a b c im u) 72 (0,0)) by rw [←hw0];exact heap_alloc_new w _);obtain ⟨c0,c1,c2,c3,c4⟩:=M0.out.cells
 have i0:w0.cell? ⟨w.heap.size,0,none⟩=some (.int .i64 (kd:Int)):=by rw [cell_of_row w0 _ 0 _ _ (0,0) I0.out];rfl
 have i1:w0.cell? ⟨w.heap.size,1,none⟩=some (.int .i64 (op:Int)):=by rw [cell_of_row w0 _ 1 _ _ (0,0) I0.out];rfl
 have MB:=Aside.mk (M0.out.keep (Bl.refl w0).drew);have hpc:IntKind.u32.wrap ((pc:Int)+4)=(((pc+4)%4294967296:Nat):Int):=wrapN pc 4;have hp4l:(pc+4)%4294967296<4294967296:=Nat.mod_lt _ (by decide);obtain ⟨p4,hp4⟩:∃p4,(pc+4)%4294967296=p4:=⟨_,rfl⟩;rw [hp4] at hpc hp4l ⊢
 have hv1:w0.drew.rangeAt gm 1 s.cells:=fun j v hj=>by rw [cell_of_row w0.drew gm (1+j) _ _ (0,0) MB.out.h];exact MB.out.sub j v hj
 have hi1:(Tryz.prog.info? 68).map (·.size)=some s.cells.length:=by rw [h.ok.clen];exact i68
 clear h hp4 htk
 rcases hkd with rfl | rfl<;>cases tk<;>cases u
 all_goals
  go_enter Tryz.func52,Tryz.ntmps52
  go_wp2_with fail
  refine wp_region_any (by kernel_rfl) ?_
  change wpAny _ _ _ _ _ _ _ (World.drew _)
  refine wpAny_take (i:=0) (oi:={dst:=some 82,op:=Op.move (Operand.tmp 0),type:=51,pos := "machine.go:82",after:=#[],guard:=none}) (v:=.pointer (some ⟨gm,0,none⟩)) rfl (by kernel_rfl) (by kernel_rfl) (by kernel_rfl) (fun _ _ _ h=>h) (Or.inl ⟨rfl,fun w=>rfl⟩) ?_;simp only [Act.put,List.setIfInBounds_toArray,List.set_cons_zero,List.set_cons_succ];refine wpAny_take (i:=1) (oi:={dst:=some 83,op:=Op.nilCheck (Operand.tmp 82),type:=0,pos := "machine.go:82",after:=#[{on:=0,ground:=Ground.data}],guard:=none}) (v:=.pointer (some ⟨gm,0,none⟩)) rfl (by kernel_rfl) (by kernel_rfl) (by kernel_rfl) (fun _ _ _ h=>h) (Or.inl ⟨rfl,fun w=>rfl⟩) ?_
  simp only [Act.put,List.setIfInBounds_toArray,List.set_cons_zero,List.set_cons_succ];refine wpAny_take (i:=2) (oi:={dst:=some 84,op:=Op.fieldAddr 70 (Operand.tmp 83) 1,type:=0,pos := "machine.go:82",after:=#[{on:=1,ground:=Ground.data}],guard:=none}) (v:=.pointer (some ⟨gm,1,none⟩)) rfl (by kernel_rfl) (by kernel_rfl) (by kernel_rfl) (fun _ _ _ h=>h) (Or.inl ⟨rfl,fun w=>by go_simp⟩) ?_;simp only [Act.put,List.setIfInBounds_toArray,List.set_cons_zero,List.set_cons_succ]
  refine wpAny_take (i:=4) (oi:={dst:=some 86,op:=Op.fieldAddr 72 (Operand.tmp 3) 1,type:=0,pos := "machine.go:82",after:=#[],guard:=none}) (v:=.pointer (some ⟨w.heap.size,1,none⟩)) rfl (by kernel_rfl) (by kernel_rfl) (by kernel_rfl) (fun _ _ _ h=>h) (Or.inl ⟨rfl,fun w=>by go_simp⟩) ?_;simp only [Act.put,List.setIfInBounds_toArray,List.set_cons_zero,List.set_cons_succ];refine wpAny_ready (rs:=[3,5]) (by kernel_rfl) (by simp) (AllReady.cons (o:={dst:=some 85,op:=Op.load 68 (Operand.tmp 84),type:=68,pos := "machine.go:82",after:=#[{on:=2,ground:=Ground.data}],guard:=none}) rfl (fun K hK=>?_) (AllReady.cons (o:={dst:=some 87,op:=Op.load 3 (Operand.tmp 86),type:=3,pos := "machine.go:82",after:=#[{on:=4,ground:=Ground.data}],guard:=none}) rfl (fun K hK=>?_) AllReady.nil))
  · skip
    rw [if_pos (by rfl)];refine wp_load_mid 68 (.tmp 84) rfl gm 1 rfl s.cells _ hv1 Tryz.underlying68 rfl hi1 ?_;refine hK _ _ ?_;clear hK K
    try simp only [Act.put,List.setIfInBounds_toArray,List.set_cons_zero,List.set_cons_succ]
    refine wpAny_ready (rs:=[5]) (by kernel_rfl) (by simp) (AllReady.cons (o:={dst:=some 87,op:=Op.load 3 (Operand.tmp 86),type:=3,pos := "machine.go:82",after:=#[{on:=4,ground:=Ground.data}],guard:=none}) rfl (fun K hK=>?_) AllReady.nil)
    go_simp
    refine hK _ _ ?_;clear hK K
    try simp only [Act.put,List.setIfInBounds_toArray,List.set_cons_zero,List.set_cons_succ]
    refine wpAny_ready (rs:=[6]) (by kernel_rfl) (by simp) (AllReady.cons (o:={dst:=some 88,op:=Op.call {callee:=Callee.value (Operand.func 48),args:=#[Operand.tmp 85,Operand.tmp 87],argTypes:=#[68,3]},type:=4,pos := "machine.go:82",after:=#[{on:=3,ground:=Ground.data},{on:=5,ground:=Ground.data}],guard:=none}) rfl (fun K hK=>?_) AllReady.nil);rw [if_pos (by rfl)]
    go_wp2_with (first
     | (go_at_call 48;with_reducible refine (HT.out _).mono ?_;rintro e w1 ⟨rfl,hb1⟩
        have MB1:=Aside.mk (MB.out.keep hb1);obtain ⟨e0,e1,e2,e3,e4⟩:=MB1.out.cells;have f16:w1.frozen? ⟨gm,16,none⟩=false:=MB1.out.frz 16;have e16:w1.cell? ⟨gm,16,none⟩=some (.int .u32 ((reg s 15:Nat):Int)):=MB1.out.regc (j:=15) (by decide);have ec:=MB1.out.regc (j:=c) hc;have I1:=Aside.mk (show w1.heap[w.heap.size]? = some (.cells (insV _ op a b c im _) 72 (0,0)) from (hb1.blk (by have:=(Array.getElem?_eq_some_iff.1 I0.out).1;simpa using this)).trans I0.out)
        obtain ⟨j0,j1,j2,j3,j4,j5,j6⟩:=ins_c I1.out;have B1:=Aside.mk hb1
        clear hb1))
    refine wpAny_take (i:=7) (oi:={dst:=some 89,op:=Op.unOp UnOp.not 4 (Operand.tmp 88),type:=4,pos := "machine.go:82",after:=#[{on:=6,ground:=Ground.data}],guard:=none}) (v:=_) rfl (by kernel_rfl) (by kernel_rfl) (by kernel_rfl) (fun _ _ _ h=>h) (Or.inl ⟨rfl,fun w=>rfl⟩) ?_;simp only [Act.put,List.setIfInBounds_toArray,List.set_cons_zero,List.set_cons_succ];refine wpAny_done (by kernel_rfl) ?_ _
    go_wp2_with fail
    all_goals try (go_region;go_wp2_with fail)
    all_goals go_ret2
    all_goals first
     | exact ⟨rfl,MB1.out,bl_by ((B0.out.drew).trans B1.out) _⟩
     | exact ⟨rfl,MB1.out.keep (Bl.refl _).drew,bl_by (((B0.out.drew).trans B1.out).drew) _⟩
     | exact ⟨rfl,(MB1.out.keep (Bl.refl _).drew).setReg (j:=15) (by decide) hp4l,(bl_by (((B0.out.drew).trans B1.out).drew) _).trans (grown_setG _ gm 16 _)⟩
     | exact ⟨congrArg (fun z=>Ending.returned (.tuple #[.int .u32 z,.int .i64 0])) (to_is p4 im),MB1.out.keep (Bl.refl _).drew,bl_by (((B0.out.drew).trans B1.out).drew) _⟩
     | exact ⟨congrArg (fun z=>Ending.returned (.tuple #[.int .u32 z,.int .i64 0])) (to_is p4 im),(MB1.out.keep (Bl.refl _).drew).setReg (j:=15) (by decide) hp4l,(bl_by (((B0.out.drew).trans B1.out).drew) _).trans (grown_setG _ gm 16 _)⟩
  · skip
    go_simp
    refine hK _ _ ?_;clear hK K
    try simp only [Act.put,List.setIfInBounds_toArray,List.set_cons_zero,List.set_cons_succ]
    refine wpAny_ready (rs:=[3]) (by kernel_rfl) (by simp) (AllReady.cons (o:={dst:=some 85,op:=Op.load 68 (Operand.tmp 84),type:=68,pos := "machine.go:82",after:=#[{on:=2,ground:=Ground.data}],guard:=none}) rfl (fun K hK=>?_) AllReady.nil);rw [if_pos (by rfl)];refine wp_load_mid 68 (.tmp 84) rfl gm 1 rfl s.cells _ hv1 Tryz.underlying68 rfl hi1 ?_;refine hK _ _ ?_;clear hK K
    try simp only [Act.put,List.setIfInBounds_toArray,List.set_cons_zero,List.set_cons_succ]
    refine wpAny_ready (rs:=[6]) (by kernel_rfl) (by simp) (AllReady.cons (o:={dst:=some 88,op:=Op.call {callee:=Callee.value (Operand.func 48),args:=#[Operand.tmp 85,Operand.tmp 87],argTypes:=#[68,3]},type:=4,pos := "machine.go:82",after:=#[{on:=3,ground:=Ground.data},{on:=5,ground:=Ground.data}],guard:=none}) rfl (fun K hK=>?_) AllReady.nil);rw [if_pos (by rfl)]
    go_wp2_with (first
     | (go_at_call 48;with_reducible refine (HT.out _).mono ?_;rintro e w1 ⟨rfl,hb1⟩
        have MB1:=Aside.mk (MB.out.keep hb1);obtain ⟨e0,e1,e2,e3,e4⟩:=MB1.out.cells;have f16:w1.frozen? ⟨gm,16,none⟩=false:=MB1.out.frz 16;have e16:w1.cell? ⟨gm,16,none⟩=some (.int .u32 ((reg s 15:Nat):Int)):=MB1.out.regc (j:=15) (by decide);have ec:=MB1.out.regc (j:=c) hc;have I1:=Aside.mk (show w1.heap[w.heap.size]? = some (.cells (insV _ op a b c im _) 72 (0,0)) from (hb1.blk (by have:=(Array.getElem?_eq_some_iff.1 I0.out).1;simpa using this)).trans I0.out)
        obtain ⟨j0,j1,j2,j3,j4,j5,j6⟩:=ins_c I1.out;have B1:=Aside.mk hb1
        clear hb1))
    refine wpAny_take (i:=7) (oi:={dst:=some 89,op:=Op.unOp UnOp.not 4 (Operand.tmp 88),type:=4,pos := "machine.go:82",after:=#[{on:=6,ground:=Ground.data}],guard:=none}) (v:=_) rfl (by kernel_rfl) (by kernel_rfl) (by kernel_rfl) (fun _ _ _ h=>h) (Or.inl ⟨rfl,fun w=>rfl⟩) ?_;simp only [Act.put,List.setIfInBounds_toArray,List.set_cons_zero,List.set_cons_succ];refine wpAny_done (by kernel_rfl) ?_ _
    go_wp2_with fail
    all_goals try (go_region;go_wp2_with fail)
    all_goals go_ret2
    all_goals first
     | exact ⟨rfl,MB1.out,bl_by ((B0.out.drew).trans B1.out) _⟩
     | exact ⟨rfl,MB1.out.keep (Bl.refl _).drew,bl_by (((B0.out.drew).trans B1.out).drew) _⟩
     | exact ⟨rfl,(MB1.out.keep (Bl.refl _).drew).setReg (j:=15) (by decide) hp4l,(bl_by (((B0.out.drew).trans B1.out).drew) _).trans (grown_setG _ gm 16 _)⟩
     | exact ⟨congrArg (fun z=>Ending.returned (.tuple #[.int .u32 z,.int .i64 0])) (to_is p4 im),MB1.out.keep (Bl.refl _).drew,bl_by (((B0.out.drew).trans B1.out).drew) _⟩
     | exact ⟨congrArg (fun z=>Ending.returned (.tuple #[.int .u32 z,.int .i64 0])) (to_is p4 im),(MB1.out.keep (Bl.refl _).drew).setReg (j:=15) (by decide) hp4l,(bl_by (((B0.out.drew).trans B1.out).drew) _).trans (grown_setG _ gm 16 _)⟩
theorem keepC {P1 P2 P3:Prop} (h1:P1) (h2:P2) (h3:P3):P1∧P2∧P3:=⟨h1,h2,h3⟩
theorem store_s (B:Bytes) (m:MS) (op a x:Nat):(storeS B m op a x).2.s=m.s:=by
 unfold storeS
 split
 · split<;>rfl
 · split
   · rfl
   · split
     · rfl
     · split<;>rfl
theorem MW.regc {w:World} {gm ga:Nat} {ib ob:Option Nat} {m:MS} (h:MW w gm ga ib ob m) {j:Nat} (hj:j<16):w.cell? ⟨gm,1+j,none⟩=some (.int .u32 ((reg m.s j:Nat):Int)):=by
 obtain ⟨A,c,outV,h1,_⟩:=h.ex;exact h1.regc hj
theorem MW.pcc {w:World} {gm ga:Nat} {ib ob:Option Nat} {m:MS} (h:MW w gm ga ib ob m):w.cell? ⟨gm,22,none⟩=some (.int .u32 (m.pc:Int))∧w.cell? ⟨gm,23,none⟩=some (.int .i64 (m.st:Int))∧w.cell? ⟨gm,0,none⟩=some (.pointer (some ⟨ga,0,none⟩)):=by
 obtain ⟨A,c,outV,h1,_⟩:=h.ex;exact ⟨h1.cells.2.1,h1.cells.2.2.1,h1.cells.1⟩
set_option maxHeartbeats 4000000 in
theorem mdo_st {w:World} {gm ga:Nat} {ib ob:Option Nat} {m:MS} (h:MW w gm ga ib ob m) (hm:MOk m) (h9:m.out.length≤1000) {op a b c:Nat} {im:Int} {u:Bool} (hop:2≤op) (ha:a<16) (hb:b<16) :
 Calls Tryz.prog 52 #[.pointer (some ⟨gm,0,none⟩),.agg (insV 5 op a b c im u)] w fun e w'=>∃ob',e=.returned (.tuple #[.int .u32 (((m.pc+4)%4294967296:Nat):Int),.int .i64 ((storeS ⟨setBN⟩ m op ((reg m.s b+word32 im)%4294967296) (reg m.s a)).1:Int)]) ∧
  MW w' gm ga ib ob' (storeS ⟨setBN⟩ m op ((reg m.s b+word32 im)%4294967296) (reg m.s a)).2∧Fr w w' gm ga ob∧(ob'=ob∨∃g,ob'=some g∧w.heap.size≤g):=by
 obtain ⟨w0,hw0⟩:∃w0,w.alloc (.cells (insV 5 op a b c im u) 72)=w0:=⟨_,rfl⟩;have B0:=Aside.mk (show Bl w w0 by rw [←hw0];exact (Bl.refl w).alloc _);have M0:=Aside.mk (h.keep B0.out)
 have hz0:w0.heap.size=w.heap.size+1:=by rw [←hw0];simp
 have I0:=Aside.mk (show w0.heap[w.heap.size]? = some (.cells (insV 5 op a b c im u) 72 (0,0)) by rw [←hw0];exact heap_alloc_new w _);obtain ⟨c1,c2,c3⟩:=M0.out.pcc;obtain ⟨i0,i1,i2,i3,i4,i5,i6⟩:=ins_c I0.out;have ra:=M0.out.regc ha;have rb:=M0.out.regc hb;have hpc:IntKind.u32.wrap ((m.pc:Int)+4)=(((m.pc+4)%4294967296:Nat):Int):=wrapN m.pc 4;obtain ⟨p4,hp4⟩:∃p4,(m.pc+4)%4294967296=p4:=⟨_,rfl⟩;rw [hp4] at hpc ⊢
 have hat:((reg m.s b:Int)+im%4294967296)%4294967296=(((reg m.s b+word32 im)%4294967296:Nat):Int):=by unfold word32;omega
 have hal:(reg m.s b+word32 im)%4294967296<4294967296:=Nat.mod_lt _ (by decide);obtain ⟨AT,hAT⟩:∃AT,(reg m.s b+word32 im)%4294967296=AT:=⟨_,rfl⟩;rw [hAT] at hat hal ⊢;have hxl:=reg_ok hm a;have hsS:=store_s ⟨setBN⟩ m op AT (reg m.s a);have HC:=Aside.mk (fun wx (k:Bl w0 wx)=>mw_store (M0.out.keep k) h9 (op:=op) hal hxl);obtain ⟨XA,hXA⟩:∃XA,reg m.s a=XA:=⟨_,rfl⟩;obtain ⟨XB,hXB⟩:∃XB,reg m.s b=XB:=⟨_,rfl⟩
 obtain ⟨R,hR⟩:∃R,storeS ⟨setBN⟩ m op AT (reg m.s a)=R:=⟨_,rfl⟩;rw [hR] at HC hsS ⊢;have EA:=Aside.mk hXA;rw [hXA] at HC ra;rw [hXB] at hat rb;have HS:=Aside.mk hsS
 have ha0:(0:Int)≤(a:Int):=by omega
 have ha1:(a:Int)<16:=by omega
 have hb0:(0:Int)≤(b:Int):=by omega
 have hb1:(b:Int)<16:=by omega
 have ho2:(2:Int)≤(op:Int):=by omega
 have HZ:=Aside.mk (show w.heap.size≠gm∧w.heap.size≠ga∧ob≠some w.heap.size from ⟨by have:=h.mlt;omega,by have:=h.mem.lth;omega,fun e=>by have:=h.olt _ e;omega⟩);clear h hm h9 hp4 hAT hXA hXB hR hsS hz0;go_enter Tryz.func52,Tryz.ntmps52
 go_wp2_with fail
 go_quiet (fail)
 go_wp2_with fail
 have C1:=Aside.mk i1;have C2:=Aside.mk i2;have CA:=Aside.mk ra;clear i0 i1 i2 i3 i4 i5 i6 ra rb c1 c2 c3
 go_region_held3 (fun w'=>w'.cell? ⟨w.heap.size,1,none⟩=some (.int .i64 (op:Int))∧w'.cell? ⟨w.heap.size,2,none⟩=some (.int .i64 (a:Int))∧w'.cell? ⟨gm,1+a,none⟩=some (.int .u32 (XA:Int))) ((first | exact keepC ((Bl.dN (Bl.refl _)).cell C1.out) ((Bl.dN (Bl.refl _)).cell C2.out) ((Bl.dN (Bl.refl _)).cell CA.out) | exact keepC hk1 hk2 hk3)) (first | (go_at_call 83;((with_reducible refine (HC.out (w0.drewN _) (Bl.dN (Bl.refl _))).mono ?_);rintro e w1 ⟨ob',rfl,hM1,hF1,ho1⟩;have hk1:=hF1.cell (a:=⟨w.heap.size,1,none⟩) ((Bl.dN (Bl.refl _)).cell C1.out) HZ.out.1 HZ.out.2.1 HZ.out.2.2;have hk2:=hF1.cell (a:=⟨w.heap.size,2,none⟩) ((Bl.dN (Bl.refl _)).cell C2.out) HZ.out.1 HZ.out.2.1 HZ.out.2.2;have hk3:=hM1.regc ha;rw [HS.out,EA.out] at hk3)) | (fail "none"))
 go_wp2;go_ret2;refine ⟨ob',rfl,hM1,(Fr.bl (B0.out.trans (Bl.dN (Bl.refl _)))).trans hF1 (.inl rfl),?_⟩
 rcases ho1 with e | ⟨g,e,hg⟩
 · exact .inl e
 · exact .inr ⟨g,e,Nat.le_trans B0.out.out.size hg⟩
theorem MW.mb {w:World} {gm ga:Nat} {ib ob:Option Nat} {m:MS} (h:MW w gm ga ib ob m):∃inV outV,MBlk w gm ga m.s m.pc m.st inV outV:=by
 obtain ⟨A,c,outV,h1,_⟩:=h.ex;exact ⟨_,_,h1⟩
theorem MW.frz {w:World} {gm ga:Nat} {ib ob:Option Nat} {m:MS} (h:MW w gm ga ib ob m) (j:Nat):w.frozen? ⟨gm,j,none⟩=false:=by
 obtain ⟨_,_,h1⟩:=h.mb;exact h1.frz j
theorem MW.setReg {w:World} {gm ga:Nat} {ib ob:Option Nat} {m:MS} (h:MW w gm ga ib ob m) {j:Nat} (hj:j<16) {x:Nat} (hx:x<4294967296):MW (w.setCell ⟨gm,1+j,none⟩ (.int .u32 (x:Int))) gm ga ib ob {m with s:=putR m.s j x} :=
 h.blk (grown_setM w gm _ _).size (setC_other w gm _ _) (fun _ _ k=>k.setReg hj hx)
theorem MW.setPc {w:World} {gm ga:Nat} {ib ob:Option Nat} {m:MS} (h:MW w gm ga ib ob m) (x:Nat):MW (w.setCell ⟨gm,22,none⟩ (.int .u32 (x:Int))) gm ga ib ob {m with pc:=x} :=
 h.blk (grown_setM w gm _ _).size (setC_other w gm _ _) (fun _ _ k=>k.setPc x)
theorem MW.setSt {w:World} {gm ga:Nat} {ib ob:Option Nat} {m:MS} (h:MW w gm ga ib ob m) (x:Nat):MW (w.setCell ⟨gm,23,none⟩ (.int .i64 (x:Int))) gm ga ib ob {m with st:=x} :=
 h.blk (grown_setM w gm _ _).size (setC_other w gm _ _) (fun _ _ k=>k.setSt x)
theorem MW.of_blk {w w':World} {gm ga:Nat} {ib ob:Option Nat} {m:MS} (h:MW w gm ga ib ob m) {s:RS} {pc st:Nat} (k:w.grownBy w' (some gm)) (hb:∀inV outV,MBlk w gm ga m.s m.pc m.st inV outV→MBlk w' gm ga s pc st inV outV):MW w' gm ga ib ob {m with s:=s,pc:=pc,st:=st} :=
 h.blk k.size (fun g hg hn=>k.block g hg (fun e=>hn (Option.some.inj e))) hb
theorem MBlk.inj {w:World} {gm ga:Nat} {s s':RS} {pc pc' st st':Nat} {i1 o1 i2 o2:Value} (h:MBlk w gm ga s pc st i1 o1) (k:MBlk w gm ga s' pc' st' i2 o2):i1=i2∧o1=o2:=by
 obtain ⟨_,_,_,a1,a2⟩:=h.cells;obtain ⟨_,_,_,b1,b2⟩:=k.cells;exact ⟨Option.some.inj (a1.symm.trans b1),Option.some.inj (a2.symm.trans b2)⟩
theorem MW.of_mb {w w':World} {gm ga:Nat} {ib ob:Option Nat} {m:MS} (h:MW w gm ga ib ob m) {inV outV:Value} (h0:MBlk w gm ga m.s m.pc m.st inV outV) {s:RS} {pc st:Nat} (k:w.grownBy w' (some gm)) (hb:MBlk w' gm ga s pc st inV outV):MW w' gm ga ib ob {m with s:=s,pc:=pc,st:=st} :=
 h.of_blk k (fun i o q=>by obtain ⟨rfl,rfl⟩:=h0.inj q;exact hb)
set_option maxHeartbeats 4000000 in
theorem mdo_ld {w:World} {gm ga:Nat} {ib ob:Option Nat} {m:MS} (h:MW w gm ga ib ob m) (hm:MOk m) {op a b c:Nat} {im:Int} {u:Bool} (hop:op<2) (ha:a<16) (hb:b<16) :
 Calls Tryz.prog 52 #[.pointer (some ⟨gm,0,none⟩),.agg (insV 5 op a b c im u)] w fun e w'=>e=.returned (.tuple #[.int .u32 (((m.pc+4)%4294967296:Nat):Int),.int .i64 ((loadS m op ((reg m.s b+word32 im)%4294967296)).2.1:Int)]) ∧
  MW w' gm ga ib ob (if (loadS m op ((reg m.s b+word32 im)%4294967296)).2.1=0 then {(loadS m op ((reg m.s b+word32 im)%4294967296)).2.2 with s:=showS (putR (loadS m op ((reg m.s b+word32 im)%4294967296)).2.2.s a (loadS m op ((reg m.s b+word32 im)%4294967296)).1) (loadS m op ((reg m.s b+word32 im)%4294967296)).1} else (loadS m op ((reg m.s b+word32 im)%4294967296)).2.2)∧Fr w w' gm ga ob:=by
 obtain ⟨w0,hw0⟩:∃w0,w.alloc (.cells (insV 5 op a b c im u) 72)=w0:=⟨_,rfl⟩;have B0:=Aside.mk (show Bl w w0 by rw [←hw0];exact (Bl.refl w).alloc _);have M0:=Aside.mk (h.keep B0.out)
 have hz0:w0.heap.size=w.heap.size+1:=by rw [←hw0];simp
 have I0:=Aside.mk (show w0.heap[w.heap.size]? = some (.cells (insV 5 op a b c im u) 72 (0,0)) by rw [←hw0];exact heap_alloc_new w _);obtain ⟨c1,c2,c3⟩:=M0.out.pcc;obtain ⟨i0,i1,i2,i3,i4,i5,i6⟩:=ins_c I0.out;have rb:=M0.out.regc hb;have hpc:IntKind.u32.wrap ((m.pc:Int)+4)=(((m.pc+4)%4294967296:Nat):Int):=wrapN m.pc 4;obtain ⟨p4,hp4⟩:∃p4,(m.pc+4)%4294967296=p4:=⟨_,rfl⟩;rw [hp4] at hpc ⊢
 have hat:((reg m.s b:Int)+im%4294967296)%4294967296=(((reg m.s b+word32 im)%4294967296:Nat):Int):=by unfold word32;omega
 have hal:(reg m.s b+word32 im)%4294967296<4294967296:=Nat.mod_lt _ (by decide);obtain ⟨AT,hAT⟩:∃AT,(reg m.s b+word32 im)%4294967296=AT:=⟨_,rfl⟩;rw [hAT] at hat hal ⊢;have HC:=Aside.mk (fun wx (k:Bl w0 wx)=>mw_load (M0.out.keep k) (op:=op) hal);obtain ⟨XB,hXB⟩:∃XB,reg m.s b=XB:=⟨_,rfl⟩;have hok:=load_ok hm op AT;obtain ⟨X,hX⟩:∃X,(loadS m op AT).1=X:=⟨_,rfl⟩;obtain ⟨T,hT⟩:∃T,(loadS m op AT).2.1=T:=⟨_,rfl⟩
 obtain ⟨m1,hm1⟩:∃m1,(loadS m op AT).2.2=m1:=⟨_,rfl⟩;rw [hX,hm1] at hok;rw [hX,hT,hm1] at HC ⊢;rw [hXB] at hat rb;have HOK:=Aside.mk hok
 have hb0:(0:Int)≤(b:Int):=by omega
 have hb1:(b:Int)<16:=by omega
 have ha0:(0:Int)≤(a:Int):=by omega
 have ha1:(a:Int)<16:=by omega
 have ho2:¬(2:Int)≤(op:Int):=by omega
 have HZ:=Aside.mk (show w.heap.size≠gm∧w.heap.size≠ga∧ob≠some w.heap.size from ⟨by have:=h.mlt;omega,by have:=h.mem.lth;omega,fun e=>by have:=h.olt _ e;omega⟩);clear h hm hp4 hAT hXB hok hz0 hX hT hm1;go_enter Tryz.func52,Tryz.ntmps52
 go_wp2_with fail
 go_quiet (fail)
 have C2:=Aside.mk i2
 by_cases hT0:T=0
 · subst hT0
   go_wp2_with (first
    | (go_at_call 84;(with_reducible refine (HC.out (w0.drewN _) (Bl.dN (Bl.refl _))).mono ?_);rintro e w1 ⟨rfl,hM1,hF1⟩
       have hk2:=hF1.cell (a:=⟨w.heap.size,2,none⟩) ((Bl.dN (Bl.refl _)).cell C2.out) HZ.out.1 HZ.out.2.1 HZ.out.2.2;have M1:=Aside.mk hM1;have F1:=Aside.mk hF1;have ra:=hM1.regc ha;have fa:=hM1.frz (1+a)
       clear hM1 hF1 i0 i1 i2 i3 i4 i5 i6 rb c1 c2 c3))
   have C2':=Aside.mk hk2;clear hk2
   go_region_held3 (fun w'=>w'.cell? ⟨w.heap.size,2,none⟩=some (.int .i64 (a:Int))) ((first | exact (Bl.drew (Bl.refl _)).cell C2'.out | exact (Bl.dN (Bl.refl _)).cell C2'.out | exact cell_off ((Bl.drew (Bl.refl _)).cell C2'.out) HZ.out.1 _ _ | exact cell_off ((Bl.dN (Bl.refl _)).cell C2'.out) HZ.out.1 _ _)) (fail)
   have M2:=Aside.mk ((M1.out.setReg ha HOK.out.1).keep (Bl.refl _).drew);have F2:=Aside.mk ((F1.out.trans (Fr.set1 (1+a) (.int .u32 (X:Int))) (.inl rfl)).trans (Fr.bl (Bl.refl _).drew) (.inl rfl));generalize (w1.setCell ⟨gm,1+a,none⟩ (.int .u32 (X:Int))).drew=w2 at M2 F2 ⊢;obtain ⟨inV,outV,hmb⟩:=M2.out.mb;obtain ⟨s2,hs2⟩:∃s2,putR m1.s a X=s2:=⟨_,rfl⟩
   have hmb2:MBlk w2 gm ga s2 m1.pc m1.st inV outV:=by rw [←hs2];exact hmb
   have HMB:=Aside.mk hmb2;have ok3:=ok_show hmb2.ok X;obtain ⟨RV3,hRV3⟩:∃RV3,(showS s2 X).arr=RV3:=⟨_,rfl⟩;have HSh:Aside (∀wx,Calls Tryz.prog 85 #[.agg s2.cells.toArray,.int .u32 (X:Int)] wx fun e w'=>e=.returned (.agg (showS s2 X).arr)∧Bl wx w'):=⟨fun wx=>show_any hmb2.ok X HOK.out.1 wx⟩;have HS3:=Aside.mk (And.intro hRV3 ok3);have Z3:=Aside.mk (sz3 ok3 hRV3);rw [hRV3] at HSh;have E2:=Aside.mk hs2
   clear ra fa hmb hmb2 hs2 ok3 hRV3
   go_wp2_with (first
    | (refine wpList_load_sub rfl 68 (.tmp 71) rfl gm 1 rfl 70 s2.cells _ (0,0) _ HMB.out.h HMB.out.sub Tryz.underlying68 rfl (i68c HMB.out.ok) ?_)
    | (go_at_call 85;(with_reducible refine (HSh.out _).mono ?_);rintro e w3 ⟨rfl,hb3⟩;have B3:=Aside.mk hb3;clear hb3)
    | (refine wpList_store_sub rfl 68 (.tmp 76) (.tmp 74) rfl gm 1 RV3 rfl rfl 70 _ (HMB.out.keep B3.out).h Z3.out.1 (by rw [Z3.out.2.1];simp [HMB.out.ok.clen]) Z3.out.2.2 ?_))
   go_ret2;have q:=HS3.out.1;subst q;have hM3:=(HMB.out.keep B3.out).setS HS3.out.2 (HMB.out.keep B3.out).h;have q2:=E2.out;subst q2;refine ⟨rfl,?_,(((Fr.bl (B0.out.trans (Bl.dN (Bl.refl _)))).trans F2.out (.inl rfl)).trans (Fr.bl B3.out) (.inl rfl)).trans (Fr.row1 _) (.inl rfl)⟩;exact (M2.out.keep B3.out).of_mb (HMB.out.keep B3.out) (grown_setRow _ gm _) hM3
 · have hT1:¬(T:Int)=0:=by omega
   go_wp2_with (first
    | (go_at_call 84;(with_reducible refine (HC.out (w0.drewN _) (Bl.dN (Bl.refl _))).mono ?_);rintro e w1 ⟨rfl,hM1,hF1⟩))
   go_ret2;exact ⟨rfl,hM1,(Fr.bl (B0.out.trans (Bl.dN (Bl.refl _)))).trans hF1 (.inl rfl)⟩
abbrev iV (i:I):Array Value:=insV i.kd i.op i.a i.b i.c i.im i.u
theorem uk_cases (op:Nat):ukOf op=195∨(ukOf op=154∨ukOf op=159∨ukOf op=161∨ukOf op=163∨ukOf op=165):=by
 unfold ukOf
 repeat' split
 all_goals simp
theorem ok_of_ne {op:Nat} (h:op≠11) (s:RS) (u:Bool) (b n:Nat):(aluS UA s op u b n).ok=true:=by
 by_cases h0:op=0
 · subst h0;rfl
 by_cases h8:op=8
 · subst h8;rfl
 by_cases h9:op=9
 · subst h9;rfl
 rw [aluO h0 h8 h9]
 show uOk op u b n=true
 unfold uOk;rw [if_neg h]
theorem uk_11 {op:Nat} (h:op=11):ukOf op=165:=by subst h;rfl
theorem do_any {s:RS} (h:s.Ok) {i:I} (hk:1≤i.kd∧i.kd≤4) (ha:i.a<16) (hb:i.b<16) (hc:i.c<16) (hop:i.kd≤2→i.op<12) (hm:∀wx,Calls Tryz.prog 81 #[.agg (iV i)] wx fun e w'=>e=.returned (.bool true)∧Bl wx w') (w:World) :
 Calls Tryz.prog 86 #[.agg s.arr,.agg (iV i)] w fun e w'=>e=.returned (.tuple #[.agg (doS UA s i).1.arr,.int .i64 ((doS UA s i).2:Int)])∧Bl w w':=by
 obtain ⟨kd,op,a,b,c,im,u⟩:=i;simp only at hk ha hb hc hop
 rcases (show kd=1∨kd=2∨kd=3∨kd=4 by omega) with rfl | rfl | rfl | rfl
 · have hop:=hop (by decide)
   show Calls Tryz.prog 86 #[.agg s.arr,.agg (insV 1 op a b c im u)] w _
   show Calls _ _ _ _ fun e w'=>e=.returned (.tuple #[.agg (if (aluS UA s op u (reg s b) (reg s c)).ok then (showS (putR (aluS UA s op u (reg s b) (reg s c)).s a (aluS UA s op u (reg s b) (reg s c)).x) (aluS UA s op u (reg s b) (reg s c)).x,0) else (s,5):RS×Nat).1.arr,.int .i64 ((if (aluS UA s op u (reg s b) (reg s c)).ok then (showS (putR (aluS UA s op u (reg s b) (reg s c)).s a (aluS UA s op u (reg s b) (reg s c)).x) (aluS UA s op u (reg s b) (reg s c)).x,0) else (s,5):RS×Nat).2:Int)])∧Bl w w'
   cases hok:(aluS UA s op u (reg s b) (reg s c)).ok with
   | true =>
     rcases uk_cases op with h1 | h1
     · exact do_reg_p_ok h ha hb hc hop h1 hok hm w
     · exact do_reg_n_ok h ha hb hc hop rfl h1 hok hm w
   | false =>
     have e:op=11:=Classical.byContradiction fun e=>by rw [ok_of_ne e] at hok;cases hok
     exact do_reg_n_no h ha hb hc hop rfl (uk_11 e) hok hm w
 · have hop:=hop (by decide)
   show Calls Tryz.prog 86 #[.agg s.arr,.agg (insV 2 op a b c im u)] w _
   show Calls _ _ _ _ fun e w'=>e=.returned (.tuple #[.agg (if (aluS UA s op u (reg s b) (word32 im)).ok then (showS (putR (aluS UA s op u (reg s b) (word32 im)).s a (aluS UA s op u (reg s b) (word32 im)).x) (aluS UA s op u (reg s b) (word32 im)).x,0) else (s,5):RS×Nat).1.arr,.int .i64 ((if (aluS UA s op u (reg s b) (word32 im)).ok then (showS (putR (aluS UA s op u (reg s b) (word32 im)).s a (aluS UA s op u (reg s b) (word32 im)).x) (aluS UA s op u (reg s b) (word32 im)).x,0) else (s,5):RS×Nat).2:Int)])∧Bl w w'
   cases hok:(aluS UA s op u (reg s b) (word32 im)).ok with
   | true =>
     rcases uk_cases op with h1 | h1
     · exact do_imm_p_ok h ha hb hc hop h1 hok hm w
     · exact do_imm_n_ok h ha hb hc hop rfl h1 hok hm w
   | false =>
     have e:op=11:=Classical.byContradiction fun e=>by rw [ok_of_ne e] at hok;cases hok
     exact do_imm_n_no h ha hb hc hop rfl (uk_11 e) hok hm w
 · exact do_hi_any h ha hm w
 · exact do_fl_any h ha hm w
theorem do_ok {s:RS} (h:s.Ok) (i:I):(doS UA s i).1.Ok:=by
 unfold doS
 split
 · exact ok_show (ok_put h _ h.hlt) _
 · split
   · exact ok_show (ok_put h _ (fl_lt _ _ _ _)) _
   · have hn:(if i.kd=2 then word32 i.im else reg s i.c)<4294967296:=by
      split
      · exact word32_lt _
      · exact reg_lt' h _
     have key:∀nn,nn<4294967296→(if (aluS UA s i.op i.u (reg s i.b) nn).ok then (showS (putR (aluS UA s i.op i.u (reg s i.b) nn).s i.a (aluS UA s i.op i.u (reg s i.b) nn).x) (aluS UA s i.op i.u (reg s i.b) nn).x,0) else (s,5):RS×Nat).1.Ok:=fun nn hnn=>by
      have hx:=alu_s_ok h i.op i.u (reg_lt' h i.b) hnn
      split
      · exact ok_show (ok_put hx.2 _ hx.1) _
      · exact h
     exact key _ hn
theorem mdo_any {w:World} {gm ga:Nat} {ib ob:Option Nat} {m:MS} (h:MW w gm ga ib ob m) (hm:MOk m) (h9:m.out.length≤1000) {i:I} (ho:IOk i) (hop:i.kd≤2→i.op<12) (hmay:∀wx,Calls Tryz.prog 81 #[.agg (iV i)] wx fun e w'=>e=.returned (.bool true)∧Bl wx w') :
 Calls Tryz.prog 52 #[.pointer (some ⟨gm,0,none⟩),.agg (iV i)] w fun e w'=>∃ob',e=.returned (.tuple #[.int .u32 ((doI UA ⟨setBN⟩ m i).2.1:Int),.int .i64 ((doI UA ⟨setBN⟩ m i).2.2:Int)]) ∧
  MW w' gm ga ib ob' (doI UA ⟨setBN⟩ m i).1∧Fr w w' gm ga ob∧(ob'=ob∨∃g,ob'=some g∧w.heap.size≤g):=by
 have hkd:=ho.kd;have ha:=ho.a;have hb:=ho.b;have hc:=ho.c;have hop15:=ho.op;have hmem:=ho.mem;obtain ⟨inV,outV,hmb⟩:=h.mb;unfold doI
 by_cases h5:i.kd=5
 · have e:iV i=insV 5 i.op i.a i.b i.c i.im i.u:=by show insV i.kd _ _ _ _ _ _=_;rw [h5]
   simp only [h5,if_true];rw [e]
   by_cases h2:2≤i.op
   · simp only [h2,if_true]
     exact mdo_st h hm h9 h2 ha hb
   · simp only [h2,if_false]
     refine (mdo_ld h hm (by omega) ha hb).mono ?_;rintro e w' ⟨rfl,h1,h2⟩;exact ⟨ob,rfl,h1,h2,.inl rfl⟩
 · simp only [if_neg h5]
   by_cases h67:i.kd=6∨i.kd=7
   · simp only [h67,if_true]
     refine (mdo_br hmb hm.p (op:=i.op) (a:=i.a) (b:=i.b) (c:=i.c) (im:=i.im) (u:=i.u) h67 hop15 hc rfl).mono ?_;rintro e w' ⟨rfl,h1,h2⟩;refine ⟨ob,?_,?_,Fr.grown h2 (fun g e=>.inl (Option.some.inj e).symm),.inl rfl⟩
     · cases takenS m.s i.op<;>rfl
     · have q:=h.of_mb hmb h2 h1
       cases ht:takenS m.s i.op
       · rw [ht] at q;exact q
       · rw [ht] at q
         cases hu:i.u<;>(rw [hu] at q;exact q)
   · simp only [h67,if_false]
     have h4:i.kd≤4:=by omega
     refine (mdo_alu hmb h4 (do_ok hmb.ok i) (fun wx=>do_any hmb.ok ⟨hkd.1,h4⟩ ha hb hc hop hmay wx)).mono ?_;rintro e w' ⟨rfl,h1,h2⟩;exact ⟨ob,rfl,h.of_mb hmb h2 h1,Fr.grown h2 (fun g e=>.inl (Option.some.inj e).symm),.inl rfl⟩
structure DecOk (dec:Nat→Option I):Prop where
 some_:∀x i,x<4294967296→dec x=some i→IOk i∧(i.kd≤2→i.op<12)∧(∀wx,Calls Tryz.prog 81 #[.agg (iV i)] wx fun e w'=>e=.returned (.bool true)∧Bl wx w')∧(∀wx,Calls Tryz.prog 51 #[.int .u32 (x:Int)] wx fun e w'=>e=.returned (.tuple #[.agg (iV i),.bool true])∧Bl wx w')
 none_:∀x,x<4294967296→dec x=none→∀wx,Calls Tryz.prog 51 #[.int .u32 (x:Int)] wx fun e w'=>e=.returned (.tuple #[.agg #[.int .i64 0,.int .i64 0,.int .i64 0,.int .i64 0,.int .i64 0,.int .i64 0,.bool false],.bool false])∧Bl wx w'
theorem at_split {n a:Nat} (h:atT n a 4=0):a%4=0∧a / 4<n:=by
 unfold atT at h
 split at h
 · split at h
   · exact ⟨by assumption,by assumption⟩
   · cases h
 · cases h
theorem keep2 {P1 P2:Prop} (h1:P1) (h2:P2):P1∧P2:=⟨h1,h2⟩
theorem set_st {m:MS} {t:Nat} (h:m.st=t):{m with st:=t}=m:=by subst h;rfl
theorem iV_one (i:I):(iV i).all (·.oneCell')=true :=
 all_oneCell_toArray (cs:=[.int .i64 (i.kd:Int),.int .i64 (i.op:Int),.int .i64 (i.a:Int),.int .i64 (i.b:Int),.int .i64 (i.c:Int),.int .i64 i.im,.bool i.u]) (by intro v hv;simp at hv;rcases hv with rfl | rfl | rfl | rfl | rfl | rfl | rfl<;>rfl)
section
variable {w:World} {gm ga:Nat} {ib ob:Option Nat} {m:MS} {dec:Nat→Option I}
theorem step_off (h:MW w gm ga ib ob m) (hs:m.st≠0):Calls Tryz.prog 26 #[.pointer (some ⟨gm,0,none⟩)] w fun e w'=>e=.returned (.int .i64 (m.st:Int))∧w'=w:=by
 obtain ⟨c1,c2,c3⟩:=h.pcc
 have hs1:¬(m.st:Int)=0:=by omega
 clear h hs;go_enter Tryz.func26,Tryz.ntmps26;go_wp2;go_ret;exact ⟨rfl,rfl⟩
set_option maxHeartbeats 2000000 in
theorem step_at (h:MW w gm ga ib ob m) (hm:MOk m) (hs:m.st=0) (ha:atT m.n m.pc 4≠0):Calls Tryz.prog 26 #[.pointer (some ⟨gm,0,none⟩)] w fun e w'=>e=.returned (.int .i64 (atT m.n m.pc 4:Nat))∧MW w' gm ga ib ob {m with st:=atT m.n m.pc 4}∧Fr w w' gm ga ob:=by
 obtain ⟨c1,c2,c3⟩:=h.pcc;rw [hs] at c2;have f23:=h.frz 23;have HC:=Aside.mk (fun wx (k:Bl w wx)=>word_no (h.mem.keep k) m.pc hm.p ha);have C1:=Aside.mk c1;have C3:=Aside.mk c3
 have hs1:¬((atT m.n m.pc 4:Nat):Int)=0:=by omega
 have MH:=Aside.mk h;obtain ⟨T,hT⟩:∃T,atT m.n m.pc 4=T:=⟨_,rfl⟩;rw [hT] at HC hs1 ⊢;clear hs ha hT hm h;go_enter Tryz.func26,Tryz.ntmps26
 go_wp2_with fail
 go_region_held3 (fun w'=>w'.cell? ⟨gm,0,none⟩=some (.pointer (some ⟨ga,0,none⟩))∧w'.cell? ⟨gm,22,none⟩=some (.int .u32 (m.pc:Int))) ((exact keep2 ((Bl.drew (Bl.refl _)).cell C3.out) ((Bl.drew (Bl.refl _)).cell C1.out))) (first | (go_at_call 50;((with_reducible refine (HC.out _ (Bl.drew (Bl.refl _))).mono ?_);rintro e w' ⟨rfl,rfl⟩)) | (fail "none"))
 go_wp2;go_ret;exact ⟨rfl,(MH.out.keep (Bl.refl _).drew).setSt T,(Fr.bl (Bl.refl _).drew).trans (Fr.set1 _ _) (.inl rfl)⟩
set_option maxHeartbeats 4000000 in
theorem step_none (D:DecOk dec) (h:MW w gm ga ib ob m) (hm:MOk m) (hs:m.st=0) (ha:atT m.n m.pc 4=0) (hd:dec (m.M.getD (m.pc / 4) 0)=none):Calls Tryz.prog 26 #[.pointer (some ⟨gm,0,none⟩)] w fun e w'=>e=.returned (.int .i64 2)∧MW w' gm ga ib ob {m with st:=2}∧Fr w w' gm ga ob:=by
 obtain ⟨c1,c2,c3⟩:=h.pcc;rw [hs] at c2;have f23:=h.frz 23;obtain ⟨ha4,han⟩:=at_split ha;have HC:=Aside.mk (fun wx (k:Bl w wx)=>word_ok (h.mem.keep k) m.pc _ hm.p ha4 han (mem_at h.mem han));have HD:=Aside.mk (D.none_ _ (getD_lt hm.w _) hd);have C1:=Aside.mk c1;have C3:=Aside.mk c3;have MH:=Aside.mk h;obtain ⟨X,hX⟩:∃X,m.M.getD (m.pc / 4) 0=X:=⟨_,rfl⟩;rw [hX] at HC HD;have M2:Aside (MW ((w.drew).setCell ⟨gm,23,none⟩ (.int .i64 0)) gm ga ib ob {m with st:=0}):=⟨(MH.out.keep (Bl.refl _).drew).setSt 0⟩
 clear hs ha hd hm h hX D;go_enter Tryz.func26,Tryz.ntmps26
 go_wp2_with fail
 go_region_held3 (fun w'=>w'.cell? ⟨gm,0,none⟩=some (.pointer (some ⟨ga,0,none⟩))∧w'.cell? ⟨gm,22,none⟩=some (.int .u32 (m.pc:Int))) ((exact keep2 ((Bl.drew (Bl.refl _)).cell C3.out) ((Bl.drew (Bl.refl _)).cell C1.out))) (first | (go_at_call 50;((with_reducible refine (HC.out _ (Bl.drew (Bl.refl _))).mono ?_);rintro e w' ⟨rfl,rfl⟩)) | (fail "none"))
 go_wp2_with (first
  | (go_at_call 51;(with_reducible refine (HD.out _).mono ?_);rintro e w3 ⟨rfl,hb3⟩
     have M3:=Aside.mk (M2.out.keep hb3);have B3:=Aside.mk hb3;obtain ⟨d1,d2,d3⟩:=M3.out.pcc;have g23:=M3.out.frz 23;have hl3:=M3.out.mlt
     clear hb3))
 go_ret;exact ⟨rfl,(M3.out.setSt 2).keep ((Bl.refl _).alloc _),(((Fr.bl (Bl.refl _).drew).trans (Fr.set1 _ _) (.inl rfl)).trans (Fr.bl B3.out) (.inl rfl)).trans ((Fr.set1 _ _).trans (Fr.bl ((Bl.refl _).alloc _)) (.inl rfl)) (.inl rfl)⟩
set_option maxHeartbeats 4000000 in
theorem step_some (D:DecOk dec) (h:MW w gm ga ib ob m) (hm:MOk m) (h9:m.out.length≤1000) (hs:m.st=0) (ha:atT m.n m.pc 4=0) {i:I} (hd:dec (m.M.getD (m.pc / 4) 0)=some i) {t to:Nat} {m2:MS} (hr:doI UA ⟨setBN⟩ m i=(m2,to,t)):Calls Tryz.prog 26 #[.pointer (some ⟨gm,0,none⟩)] w fun e w'=>∃ob',e=.returned (.int .i64 (t:Int))∧MW w' gm ga ib ob' (if t≤1 then {m2 with st:=t,pc:=to} else {m2 with st:=t})∧Fr w w' gm ga ob∧(ob'=ob∨∃g,ob'=some g∧w.heap.size≤g):=by
 obtain ⟨c1,c2,c3⟩:=h.pcc;rw [hs] at c2;have f23:=h.frz 23;obtain ⟨ha4,han⟩:=at_split ha;have HC:=Aside.mk (fun wx (k:Bl w wx)=>word_ok (h.mem.keep k) m.pc _ hm.p ha4 han (mem_at h.mem han));obtain ⟨hi,h12,hmay,hdec⟩:=D.some_ _ i (getD_lt hm.w _) hd;have HD:=Aside.mk hdec;have C1:=Aside.mk c1;have C3:=Aside.mk c3;have MH:=Aside.mk h;obtain ⟨X,hX⟩:∃X,m.M.getD (m.pc / 4) 0=X:=⟨_,rfl⟩;rw [hX] at HC HD
 have M2:Aside (MW ((w.drew).setCell ⟨gm,23,none⟩ (.int .i64 0)) gm ga ib ob m):=⟨by have:=(MH.out.keep (Bl.refl _).drew).setSt 0;rw [set_st hs] at this;exact this⟩;have HDO:=Aside.mk (fun wx (k:MW wx gm ga ib ob m)=>mdo_any k hm h9 hi h12 hmay);simp only [hr] at HDO;have H1:=Aside.mk (iV_one i);obtain ⟨IV,hIV⟩:∃IV,iV i=IV:=⟨_,rfl⟩
 have hIVs:IV.size=7:=by rw [←hIV];rfl
 rw [hIV] at HD HDO H1;have i7:Aside ((Tryz.prog.info? 72).map (·.size)=some IV.size∧IV.size=7):=⟨by rw [hIVs];exact i72,hIVs⟩;clear hs ha hd hm h hX D hmay hdec hi h12 h9 hr hIVs hIV
 by_cases ht:t≤1
 · have ht1:(t:Int)≤1:=by omega
   rw [if_pos ht];go_enter Tryz.func26,Tryz.ntmps26
   go_wp2_with fail
   go_region_held3 (fun w'=>w'.cell? ⟨gm,0,none⟩=some (.pointer (some ⟨ga,0,none⟩))∧w'.cell? ⟨gm,22,none⟩=some (.int .u32 (m.pc:Int))) ((exact keep2 ((Bl.drew (Bl.refl _)).cell C3.out) ((Bl.drew (Bl.refl _)).cell C1.out))) (first | (go_at_call 50;((with_reducible refine (HC.out _ (Bl.drew (Bl.refl _))).mono ?_);rintro e w' ⟨rfl,rfl⟩)) | (fail "none"))
   go_wp2_with (first
    | (go_at_call 51;(with_reducible refine (HD.out _).mono ?_);rintro e w3 ⟨rfl,hb3⟩
       have M3:=Aside.mk (M2.out.keep hb3);have B3:=Aside.mk hb3
       clear hb3)
    | (refine wpList_store_row rfl 72 (.tmp 5) (.tmp 39) rfl w3.heap.size IV rfl rfl 72 _ (heap_alloc_new w3 _) i7.out.1 (by rw [i7.out.2];rfl) H1.out ?_
       rw [World.setRow_alloc_new];obtain ⟨w4,hw4⟩:∃w4,w3.alloc (.cells IV 72)=w4:=⟨_,rfl⟩;rw [hw4];have B4:=Aside.mk (show Bl w3 w4 by rw [←hw4];exact (Bl.refl w3).alloc _);have I4:=Aside.mk (show w4.heap[w3.heap.size]? = some (.cells IV 72 (0,0)) by rw [←hw4];exact heap_alloc_new w3 _);have M4:=Aside.mk (M3.out.keep B4.out)
       clear hw4)
    | (refine wpList_load_row rfl 72 (.tmp 5) rfl w3.heap.size rfl 72 IV (0,0) _ I4.out Tryz.underlying72 rfl i7.out.1 ?_)
    | (go_at_call 52;(with_reducible refine (HDO.out _ M4.out).mono ?_);rintro e w5 ⟨ob',rfl,hM5,hF5,ho5⟩
       have M5:=Aside.mk hM5;have F5:=Aside.mk hF5;have O5:=Aside.mk ho5;obtain ⟨d1,d2,d3⟩:=hM5.pcc;have g22:=hM5.frz 22;have g23:=hM5.frz 23
       clear hM5 hF5 ho5))
   go_ret;refine ⟨ob',rfl,(M5.out.setSt t).setPc to,((((Fr.bl (Bl.refl _).drew).trans (Fr.set1 _ _) (.inl rfl)).trans (Fr.bl (B3.out.trans B4.out)) (.inl rfl)).trans F5.out (.inl rfl)).trans ((Fr.set1 23 (.int .i64 (t:Int))).trans (Fr.set1 22 (.int .u32 (to:Int))) (.inl rfl)) (.inl rfl),?_⟩
   rcases O5.out with e | ⟨g,e,hg⟩
   · exact .inl e
   · refine .inr ⟨g,e,?_⟩
     have z1:=(grown_setM w.drew gm 23 (.int .i64 0)).size;exact Nat.le_trans z1 (Nat.le_trans B3.out.out.size (Nat.le_trans B4.out.out.size hg))
 · have ht1:¬(t:Int)≤1:=by omega
   rw [if_neg ht];go_enter Tryz.func26,Tryz.ntmps26
   go_wp2_with fail
   go_region_held3 (fun w'=>w'.cell? ⟨gm,0,none⟩=some (.pointer (some ⟨ga,0,none⟩))∧w'.cell? ⟨gm,22,none⟩=some (.int .u32 (m.pc:Int))) ((exact keep2 ((Bl.drew (Bl.refl _)).cell C3.out) ((Bl.drew (Bl.refl _)).cell C1.out))) (first | (go_at_call 50;((with_reducible refine (HC.out _ (Bl.drew (Bl.refl _))).mono ?_);rintro e w' ⟨rfl,rfl⟩)) | (fail "none"))
   go_wp2_with (first
    | (go_at_call 51;(with_reducible refine (HD.out _).mono ?_);rintro e w3 ⟨rfl,hb3⟩
       have M3:=Aside.mk (M2.out.keep hb3);have B3:=Aside.mk hb3
       clear hb3)
    | (refine wpList_store_row rfl 72 (.tmp 5) (.tmp 39) rfl w3.heap.size IV rfl rfl 72 _ (heap_alloc_new w3 _) i7.out.1 (by rw [i7.out.2];rfl) H1.out ?_
       rw [World.setRow_alloc_new];obtain ⟨w4,hw4⟩:∃w4,w3.alloc (.cells IV 72)=w4:=⟨_,rfl⟩;rw [hw4];have B4:=Aside.mk (show Bl w3 w4 by rw [←hw4];exact (Bl.refl w3).alloc _);have I4:=Aside.mk (show w4.heap[w3.heap.size]? = some (.cells IV 72 (0,0)) by rw [←hw4];exact heap_alloc_new w3 _);have M4:=Aside.mk (M3.out.keep B4.out)
       clear hw4)
    | (refine wpList_load_row rfl 72 (.tmp 5) rfl w3.heap.size rfl 72 IV (0,0) _ I4.out Tryz.underlying72 rfl i7.out.1 ?_)
    | (go_at_call 52;(with_reducible refine (HDO.out _ M4.out).mono ?_);rintro e w5 ⟨ob',rfl,hM5,hF5,ho5⟩
       have M5:=Aside.mk hM5;have F5:=Aside.mk hF5;have O5:=Aside.mk ho5;obtain ⟨d1,d2,d3⟩:=hM5.pcc;have g22:=hM5.frz 22;have g23:=hM5.frz 23
       clear hM5 hF5 ho5))
   go_ret;refine ⟨ob',rfl,M5.out.setSt t,((((Fr.bl (Bl.refl _).drew).trans (Fr.set1 _ _) (.inl rfl)).trans (Fr.bl (B3.out.trans B4.out)) (.inl rfl)).trans F5.out (.inl rfl)).trans (Fr.set1 23 (.int .i64 (t:Int))) (.inl rfl),?_⟩
   rcases O5.out with e | ⟨g,e,hg⟩
   · exact .inl e
   · refine .inr ⟨g,e,?_⟩
     have z1:=(grown_setM w.drew gm 23 (.int .i64 0)).size;exact Nat.le_trans z1 (Nat.le_trans B3.out.out.size (Nat.le_trans B4.out.out.size hg))
theorem step_any (D:DecOk dec) (h:MW w gm ga ib ob m) (hm:MOk m) (h9:m.out.length≤1000):Calls Tryz.prog 26 #[.pointer (some ⟨gm,0,none⟩)] w fun e w'=>∃ob',e=.returned (.int .i64 ((stepS UA ⟨setBN⟩ dec m).2:Int))∧MW w' gm ga ib ob' (stepS UA ⟨setBN⟩ dec m).1∧Fr w w' gm ga ob∧(ob'=ob∨∃g,ob'=some g∧w.heap.size≤g):=by
 unfold stepS
 by_cases hs:m.st≠0
 · rw [if_pos hs]
   refine (step_off h hs).mono ?_;rintro e w' ⟨rfl,rfl⟩;exact ⟨ob,rfl,h,Fr.refl,.inl rfl⟩
 · rw [if_neg hs]
   have hs:m.st=0:=by omega
   by_cases ha:atT m.n m.pc 4≠0
   · rw [if_pos ha]
     refine (step_at h hm hs ha).mono ?_;rintro e w' ⟨rfl,h1,h2⟩;exact ⟨ob,rfl,h1,h2,.inl rfl⟩
   · rw [if_neg ha]
     have ha:atT m.n m.pc 4=0:=by omega
     cases hd:dec (m.M.getD (m.pc / 4) 0) with
     | none =>
       refine (step_none D h hm hs ha hd).mono ?_;rintro e w' ⟨rfl,h1,h2⟩;exact ⟨ob,rfl,h1,h2,.inl rfl⟩
     | some i =>
       exact step_some D h hm h9 hs ha hd rfl
end
abbrev zT:Array Value:=#[.bool false,.bool false,.bool false,.bool false,.bool false,.bool false,.bool false,.bool false,.bool false,.bool false,.bool false,.bool false,.bool false,.bool false,.bool false,.bool false,.slice none 0 0,.bool false,.bool false]
structure FW (w:World) (g:Nat) (t:TG) (sl:Value) (i:I) (s:RS):Prop where
 tb:TB w g t sl
 ib:w.heap[g+1]? = some (.cells (iV i) 72 (0,0))
 rb:w.heap[g+2]? = some (.cells s.arr 68 (0,0))
 zb:w.heap[g+3]? = some (.cells zT 62 (0,0))
theorem FW.keep {w w':World} {g:Nat} {t:TG} {sl:Value} {i:I} {s:RS} (h:FW w g t sl i s) (k:Bl w w'):FW w' g t sl i s :=
 ⟨h.tb.keep k,by rw [k.blk (Array.getElem?_eq_some_iff.1 h.ib).1];exact h.ib,by rw [k.blk (Array.getElem?_eq_some_iff.1 h.rb).1];exact h.rb,by rw [k.blk (Array.getElem?_eq_some_iff.1 h.zb).1];exact h.zb⟩
theorem FW.off {w:World} {g:Nat} {t:TG} {sl:Value} {i:I} {s:RS} (h:FW w g t sl i s) {g':Nat} (hg:g+3<g') (j:Nat) (v:Value):FW (w.setCell ⟨g',j,none⟩ v) g t sl i s:=by
 have k:∀b,b≤g+3→(w.setCell ⟨g',j,none⟩ v).heap[b]? = w.heap[b]? := fun b hb=>heap_setCell_other w ⟨g',j,none⟩ b v (fun e=>absurd (show b=g' by simpa using e) (by omega));exact ⟨h.tb.off (by omega) j v,by rw [k _ (by omega)];exact h.ib,by rw [k _ (by omega)];exact h.rb,by rw [k _ (by omega)];exact h.zb⟩
theorem FW.start (w:World) {t:TG} {sl:Value} (ht:t.R.length=16) (i:I) (s:RS):FW ((((w.alloc (.cells (tgV t sl) 62)).alloc (.cells (iV i) 72)).alloc (.cells s.arr 68)).alloc (.cells zT 62)) w.heap.size t sl i s:=by
 have k1:(w.alloc (.cells (tgV t sl) 62)).heap.size=w.heap.size+1:=by simp
 have k2:((w.alloc (.cells (tgV t sl) 62)).alloc (.cells (iV i) 72)).heap.size=w.heap.size+2:=by simp
 have k3:(((w.alloc (.cells (tgV t sl) 62)).alloc (.cells (iV i) 72)).alloc (.cells s.arr 68)).heap.size=w.heap.size+3:=by simp
 have n0:=heap_alloc_new w (.cells (tgV t sl) 62);have n1:=heap_alloc_new (w.alloc (.cells (tgV t sl) 62)) (.cells (iV i) 72);have n2:=heap_alloc_new ((w.alloc (.cells (tgV t sl) 62)).alloc (.cells (iV i) 72)) (.cells s.arr 68);have n3:=heap_alloc_new (((w.alloc (.cells (tgV t sl) 62)).alloc (.cells (iV i) 72)).alloc (.cells s.arr 68)) (.cells zT 62);rw [k1] at n1;rw [k2] at n2;rw [k3] at n3;have o10:=heap_alloc_old (w.alloc (.cells (tgV t sl) 62)) (.cells (iV i) 72) (r:=w.heap.size) (by omega)
 have o20:=heap_alloc_old ((w.alloc (.cells (tgV t sl) 62)).alloc (.cells (iV i) 72)) (.cells s.arr 68) (r:=w.heap.size) (by omega);have o30:=heap_alloc_old (((w.alloc (.cells (tgV t sl) 62)).alloc (.cells (iV i) 72)).alloc (.cells s.arr 68)) (.cells zT 62) (r:=w.heap.size) (by omega);have o21:=heap_alloc_old ((w.alloc (.cells (tgV t sl) 62)).alloc (.cells (iV i) 72)) (.cells s.arr 68) (r:=w.heap.size+1) (by omega)
 have o31:=heap_alloc_old (((w.alloc (.cells (tgV t sl) 62)).alloc (.cells (iV i) 72)).alloc (.cells s.arr 68)) (.cells zT 62) (r:=w.heap.size+1) (by omega);have o32:=heap_alloc_old (((w.alloc (.cells (tgV t sl) 62)).alloc (.cells (iV i) 72)).alloc (.cells s.arr 68)) (.cells zT 62) (r:=w.heap.size+2) (by omega);exact ⟨⟨((o30.trans o20).trans o10).trans n0,ht⟩,(o31.trans o21).trans n1,o32.trans n2,n3⟩
structure FO (w:World) (g o r n c:Nat) (t:TG) (ad:Addr) (c0:Nat) (i:I) (s:RS) (t':TG):Prop where
 fw:FW w g t (.slice (some ad) n c0) i s
 go:g+3<o
 tb:TB w o t' (.slice (some ⟨r,0,none⟩) n c)
 ow:OwB w g r n c t'.W
 ro:r≠o
 gr:g+3<r
section
variable {w w':World} {g o r n c:Nat} {t:TG} {ad:Addr} {c0:Nat} {i:I} {s:RS} {t':TG}
theorem FO.keep (h:FO w g o r n c t ad c0 i s t') (k:Bl w w'):FO w' g o r n c t ad c0 i s t':=⟨h.fw.keep k,h.go,h.tb.keep k,h.ow.keep k,h.ro,h.gr⟩
theorem FO.setR (h:FO w g o r n c t ad c0 i s t') {j:Nat} (hj:j<16) (b:Bool):FO (w.setCell ⟨o,j,none⟩ (.bool b)) g o r n c t ad c0 i s {t' with R:=t'.R.set j b} :=
 ⟨h.fw.off h.go j _,h.go,h.tb.setR hj b,h.ow.off h.ro j _,h.ro,h.gr⟩
theorem FO.setNZ (h:FO w g o r n c t ad c0 i s t') (b:Bool):FO (w.setCell ⟨o,17,none⟩ (.bool b)) g o r n c t ad c0 i s {t' with NZ:=b} :=
 ⟨h.fw.off h.go 17 _,h.go,h.tb.setNZ b,h.ow.off h.ro 17 _,h.ro,h.gr⟩
theorem FO.setCV (h:FO w g o r n c t ad c0 i s t') (b:Bool):FO (w.setCell ⟨o,18,none⟩ (.bool b)) g o r n c t ad c0 i s {t' with CV:=b} :=
 ⟨h.fw.off h.go 18 _,h.go,h.tb.setCV b,h.ow.off h.ro 18 _,h.ro,h.gr⟩
theorem FO.putW (h:FO w g o r n c t ad c0 i s t') (k:Nat) (b:Bool):FO (w.setCell ⟨r,k,none⟩ (.bool b)) g o r n c t ad c0 i s {t' with W:=t'.W.set k b} :=
 ⟨h.fw.off h.gr k _,h.go,⟨(h.tb.off h.ro k (.bool b)).h,h.tb.len⟩,h.ow.put k b,h.ro,h.gr⟩
theorem FO.fin (h:FO w g o r n c t ad c0 i s t') (X:Array Value):OwB (w.setRow (g+3) X) g r n c t'.W :=
 ⟨h.ow.len,h.ow.le,h.ow.mx,h.ow.hb,own_blk h.ow.own (fun q hq=>by
   have e:r=q:=Option.some.inj hq
   exact setRow_other w (g+3) q X (by have:=h.gr;omega))⟩
theorem FO.rw (h:FO w g o r n c t ad c0 i s t'):(Tryz.prog.info? 62).map (·.size)=some (tgV t' (.slice (some ⟨r,0,none⟩) n c)).size∧(tgV t' (.slice (some ⟨r,0,none⟩) n c)).size=19∧(tgV t' (.slice (some ⟨r,0,none⟩) n c)).all (·.oneCell')=true :=
 ⟨i62s h.tb.len _,tg_size h.tb.len _,tg_one rfl⟩
end
theorem own_to {w:World} {base b2:Nat} {e:TypeId} {size n:Nat} {v:Value} {xs:List Value} (h:w.ownsRow base e size v n xs) (hb:b2≤base):w.ownsRow b2 e size v n xs:=by
 obtain ⟨h1,h2⟩:=h;refine ⟨h1,?_⟩
 rcases h2 with h2 | ⟨g,cap,cur,rfl,hg,hr⟩
 · exact .inl h2
 · exact .inr ⟨g,cap,cur,rfl,Nat.le_trans hb hg,hr⟩
theorem owb_to {w:World} {base b2 g n cap:Nat} {l:List Bool} (h:OwB w base g n cap l) (hb:b2≤base):OwB w b2 g n cap l:=⟨h.len,h.le,h.mx,Nat.le_trans hb h.hb,own_to h.own hb⟩
def FdPost (W:World) (n:Nat) (u:TG×Bool) (e:Ending) (w':World):Prop :=
 ∃r c,e=.returned (.tuple #[.agg (tgV u.1 (.slice (some ⟨r,0,none⟩) n c)),.bool u.2])∧OwB w' W.heap.size r n c u.1.W∧Bl W w'
theorem own_madeB (w:World) (base:Nat) (hb:base≤w.heap.size):(w.alloc (.cells #[] 4)).ownsRow base 4 1 (.slice (some ⟨w.heap.size,0,none⟩) 0 0) 0 (bv []):=own_made w 4 1 base hb
structure FS (w:World) (g o:Nat) (t:TG) (sl:Value) (i:I) (s:RS) (t':TG) (sl':Value):Prop where
 tb:TB w g t sl
 ob:TB w o t' sl'
 ib:w.heap[g+1]? = some (.cells (iV i) 72 (0,0))
 rb:w.heap[g+2]? = some (.cells s.arr 68 (0,0))
 go:g+3<o
theorem FS.row {w:World} {g o:Nat} {t:TG} {sl:Value} {i:I} {s:RS} {t':TG} {sl':Value} (h:FS w g o t sl i s t' sl') (X:Array Value):FS (w.setRow (g+3) X) g o t sl i s t' sl':=by
 have k:∀b,b≠g+3→(w.setRow (g+3) X).heap[b]? = w.heap[b]? := fun b hb=>setRow_other w (g+3) b X hb;have hg:=h.go;exact ⟨⟨by rw [k _ (by omega)];exact h.tb.h,h.tb.len⟩,⟨by rw [k _ (by omega)];exact h.ob.h,h.ob.len⟩,by rw [k _ (by omega)];exact h.ib,by rw [k _ (by omega)];exact h.rb,hg⟩
theorem FS.keep {w w':World} {g o:Nat} {t:TG} {sl:Value} {i:I} {s:RS} {t':TG} {sl':Value} (h:FS w g o t sl i s t' sl') (k:Bl w w'):FS w' g o t sl i s t' sl' :=
 ⟨h.tb.keep k,h.ob.keep k,by rw [k.blk (Array.getElem?_eq_some_iff.1 h.ib).1];exact h.ib,by rw [k.blk (Array.getElem?_eq_some_iff.1 h.rb).1];exact h.rb,h.go⟩
theorem FS.ld {w:World} {g o:Nat} {t:TG} {sl:Value} {i:I} {s:RS} {t':TG} {sl':Value} (h:FS w g o t sl i s t' sl'):w.rangeAt o 0 (tgL t' sl'):=fun j v hj=>by
 rw [cell_of_row w o (0+j) _ _ (0,0) h.ob.h]
 show (tgL t' sl').toArray[0+j]? = some v
 simpa using hj
theorem FS.ldr {w:World} {g o:Nat} {t:TG} {sl:Value} {i:I} {s:RS} {t':TG} {sl':Value} (h:FS w g o t sl i s t' sl'):w.rangeAt (g+2) 0 s.cells:=fun j v hj=>by
 rw [cell_of_row w (g+2) (0+j) _ _ (0,0) h.rb]
 show s.cells.toArray[0+j]? = some v
 simpa using hj
theorem tgL_hi {t:TG} (h:t.R.length=16) (sl:Value):(Tryz.prog.info? 62).map (·.size)=some (tgL t sl).length:=by
 have:=TB.bl h
 have e:(tgL t sl).length=19:=by simp [tgL,this]
 rw [e];exact i62
section
variable {w w':World} {g o r n c:Nat} {t:TG} {ad:Addr} {c0:Nat} {i:I} {s:RS} {t':TG}
theorem FO.fs (h:FO w g o r n c t ad c0 i s t'):FS w g o t (.slice (some ad) n c0) i s t' (.slice (some ⟨r,0,none⟩) n c):=⟨h.fw.tb,h.tb,h.fw.ib,h.fw.rb,h.go⟩
theorem store_row {w:World} {g:Nat} {X:Array Value} (hz:w.heap[g]? = some (.cells zT 62 (0,0))) (hx:X.size=19) (h1:X.all (·.oneCell')=true):(Instr.storeAt 62 (.pointer (some ⟨g,0,none⟩)) (.agg X)).run Tryz.prog w=.ok () (w.setRow g X):=by
 have hi:(Tryz.prog.info? 62).map (·.size)=some X.size:=by rw [hx];exact i62
 have hst:=run_storeCells_at Tryz.prog g 0 62 X.toList 0 zT w hz (by simp [hx]) (fun v hv=>(Array.all_eq_true_iff_forall_mem.1 h1) v (by simpa using hv));have hz':zT.size=19:=rfl;simp only [Nat.add_zero,Array.length_toList,List.take_zero,List.nil_append] at hst
 have e:(X.toList++zT.toList.drop (0+X.size)).toArray=X:=by
  have:zT.toList.drop (0+X.size)=[]:=List.drop_eq_nil_of_le (by rw [hx];show zT.toList.length≤19;decide);rw [this];simp
 rw [e] at hst
 cases hq:Tryz.prog.info? 62 with
 | none=>simp [hq] at hi
 | some i =>
   have hs:X.size=i.size:=by simp [hq] at hi;omega
   have hrun:(storeVar 62 ⟨g,0,none⟩ (.agg X)).run Tryz.prog w=.ok () (w.setRow g X):=by
    simp [storeVar,sizeOf,typeInfo,hq,Value.cells,hs,hst]
   simp only [Instr.storeAt,Instr.sureAddr,Sem.run_bind,Sem.run_pure,Result.andThen_ok,hrun]
theorem FO.st (h:FO w g o r n c t ad c0 i s t'):(Instr.storeAt 62 (.pointer (some ⟨g+3,0,none⟩)) (.agg (tgV t' (.slice (some ⟨r,0,none⟩) n c)))).run Tryz.prog w=.ok () (w.setRow (g+3) (tgV t' (.slice (some ⟨r,0,none⟩) n c))) :=
 store_row h.fw.zb h.rw.2.1 h.rw.2.2
end
theorem fdp {W w':World} {n:Nat} {u:TG×Bool} {e:Ending} (r c:Nat) (b:Bool) (he:e=.returned (.tuple #[.agg (tgV u.1 (.slice (some ⟨r,0,none⟩) n c)),.bool b])) (hb:u.2=b) (ho:OwB w' W.heap.size r n c u.1.W) (hl:Bl W w'):FdPost W n u e w' :=
 ⟨r,c,by rw [he,hb],ho,hl⟩
theorem fdp2 {W w':World} {n:Nat} {u:TG×Bool} {e:Ending} (r c:Nat) (b:Bool) (TX:TG) (he:e=.returned (.tuple #[.agg (tgV TX (.slice (some ⟨r,0,none⟩) n c)),.bool b])) (hu:u.1=TX) (hb:u.2=b) (ho:OwB w' W.heap.size r n c TX.W) (hl:Bl W w'):FdPost W n u e w' :=
 ⟨r,c,by rw [he,hb,hu],by rw [hu];exact ho,hl⟩
theorem stop_at {P:Program} {ops:Array Oper} {rest:List Oper} {o:Oper} {a:Act} {w:World} {Q:Exit→Act→World→Prop} (d:Tmp) (hd:o.dst=some d) (h:Hold (wpList P ops Q (o::rest) a w)):wpList P ops Q (o::rest) a w:=holdp h
theorem reg_cell2 {w:World} {g:Nat} {s:RS} (h:w.heap[g]? = some (.cells s.arr 68 (0,0))) (hs:s.Ok) {j:Nat} (hj:j<16):w.cell? ⟨g,j,none⟩=some (.int .u32 ((reg s j:Nat):Int)):=by
 rw [cell_of_row w g j _ _ (0,0) h];exact reg_at hs hj
section
variable {P:Program} {ops:Array Oper} {Q:Exit→Act→World→Prop} {a:Act} {w:World} {rest:List Oper} {o:Oper}
theorem wpList_skip (hw:Region.wanted o (yielded ops a.tmps)=false) (h:wpList P ops Q rest (a.put o.dst undef) w):wpList P ops Q (o::rest) a w:=by
 unfold wpList;rw [if_neg (by rw [hw];decide)];exact h
theorem wpList_val {v:Value} (hw:Region.wanted o (yielded ops a.tmps)=true) (hv:(execOp a.eval o).run P w=.ok (.value v) w) (h:wpList P ops Q rest (a.put o.dst v) w):wpList P ops Q (o::rest) a w:=by
 unfold wpList;rw [if_pos hw];refine .inl ?_;unfold Oper.wp;rw [hv];exact h
theorem wpList_end (h:Q .normal a w):wpList P ops Q [] a w:=h
end
section
variable {P:Program} {ops:Array Oper} {Q:Exit→Act→World→Prop} {a:Act} {w:World} {rest:List Oper} {o:Oper}
structure WL (P:Program) (ops:Array Oper) (Q:Exit→Act→World→Prop) (l:List Oper) (a:Act) (w:World):Prop where
 out:wpList P ops Q l a w
theorem wl_in {l:List Oper} (h:WL P ops Q l a w):wpList P ops Q l a w:=h.out
theorem wl_skip (hw:Region.wanted o (yielded ops a.tmps)=false) (h:WL P ops Q rest (a.put o.dst undef) w):WL P ops Q (o::rest) a w:=⟨wpList_skip hw h.out⟩
theorem wl_val {v:Value} (hw:Region.wanted o (yielded ops a.tmps)=true) (hv:(execOp a.eval o).run P w=.ok (.value v) w) (h:WL P ops Q rest (a.put o.dst v) w):WL P ops Q (o::rest) a w:=⟨wpList_val hw hv h.out⟩
theorem wl_end (h:Q .normal a w):WL P ops Q [] a w:=⟨wpList_end h⟩
end
abbrev yo0:Oper:=⟨some 60,.load 62 (.tmp 12),62, "top24.go:199",#[],none⟩
abbrev yo1:Oper:=⟨some 61,.fieldAddr 62 (.tmp 5) 2,0, "top24.go:199",#[],none⟩
abbrev yo2:Oper:=⟨some 62,.load 4 (.tmp 61),4, "top24.go:199",#[⟨1,.data⟩],none⟩
abbrev yo3:Oper:=⟨some 63,.unOp .not 4 (.tmp 62),4, "top24.go:199",#[⟨2,.data⟩],none⟩
abbrev yo4:Oper:=⟨some 64,.move (.tmp 63),4, "top24.go:199",#[⟨3,.data⟩],none⟩
abbrev yo5:Oper:=⟨some 65,.fieldAddr 62 (.tmp 5) 3,0, "top24.go:199",#[⟨4,.guard⟩,⟨9,.gcOnly .lateStores⟩],some (4,true)⟩
abbrev yo6:Oper:=⟨some 66,.load 4 (.tmp 65),4, "top24.go:199",#[⟨5,.data⟩,⟨4,.guard⟩,⟨9,.gcOnly .lateStores⟩],some (4,true)⟩
abbrev yo7:Oper:=⟨some 67,.unOp .not 4 (.tmp 66),4, "top24.go:199",#[⟨6,.data⟩,⟨4,.guard⟩,⟨9,.gcOnly .lateStores⟩],some (4,true)⟩
abbrev yo8:Oper:=⟨some 68,.pick (.tmp 64) (.tmp 67) (.const (.bool false)),4, "top24.go:199",#[⟨4,.data⟩,⟨7,.data⟩,⟨9,.gcOnly .lateStores⟩],none⟩
abbrev yo9:Oper:=⟨some 11,.assign (.tmp 68),4, "top24.go:199",#[⟨8,.data⟩,⟨9,.chain⟩,⟨0,.phase⟩,⟨1,.phase⟩,⟨2,.phase⟩,⟨3,.phase⟩,⟨4,.phase⟩,⟨5,.phase⟩,⟨6,.phase⟩,⟨7,.phase⟩,⟨8,.phase⟩,⟨9,.phase⟩],none⟩
abbrev yo10:Oper:=⟨none,.store 62 (.tmp 10) (.tmp 60),0, "top24.go:199",#[⟨0,.data⟩,⟨4,.chain⟩,⟨0,.phase⟩,⟨1,.textOnly .lateStores⟩,⟨2,.textOnly .lateStores⟩,⟨3,.textOnly .lateStores⟩,⟨4,.textOnly .lateStores⟩,⟨5,.textOnly .lateStores⟩,⟨6,.textOnly .lateStores⟩,⟨7,.textOnly .lateStores⟩,⟨8,.textOnly .lateStores⟩],none⟩
abbrev yo11:Oper:=⟨some 165,.load 62 (.tmp 12),62, "top24.go:214",#[],none⟩
abbrev yo12:Oper:=⟨some 166,.fieldAddr 72 (.tmp 6) 1,0, "top24.go:214",#[],none⟩
abbrev yo13:Oper:=⟨some 167,.load 3 (.tmp 166),3, "top24.go:214",#[⟨1,.data⟩],none⟩
abbrev yo14:Oper:=⟨some 169,.unOp .not 4 (.tmp 168),4, "top24.go:214",#[⟨3,.data⟩],none⟩
abbrev yo15:Oper:=⟨some 170,.move (.tmp 169),4, "top24.go:214",#[⟨4,.data⟩,⟨3,.chain⟩],none⟩
abbrev yo16:Oper:=⟨some 171,.fieldAddr 62 (.tmp 5) 2,0, "top24.go:214",#[⟨5,.guard⟩],some (5,false)⟩
abbrev yo17:Oper:=⟨some 172,.load 4 (.tmp 171),4, "top24.go:214",#[⟨6,.data⟩,⟨5,.guard⟩],some (5,false)⟩
abbrev yo18:Oper:=⟨some 173,.unOp .not 4 (.tmp 172),4, "top24.go:214",#[⟨7,.data⟩,⟨5,.guard⟩],some (5,false)⟩
abbrev yo19:Oper:=⟨some 174,.move (.tmp 173),4, "top24.go:214",#[⟨8,.data⟩,⟨5,.chain⟩,⟨5,.guard⟩],some (5,false)⟩
abbrev yo20:Oper:=⟨some 175,.fieldAddr 62 (.tmp 5) 3,0, "top24.go:214",#[⟨9,.guard⟩,⟨15,.gcOnly .lateStores⟩],some (9,true)⟩
abbrev yo21:Oper:=⟨some 176,.load 4 (.tmp 175),4, "top24.go:214",#[⟨10,.data⟩,⟨9,.guard⟩,⟨15,.gcOnly .lateStores⟩],some (9,true)⟩
abbrev yo22:Oper:=⟨some 177,.unOp .not 4 (.tmp 176),4, "top24.go:214",#[⟨11,.data⟩,⟨9,.guard⟩,⟨15,.gcOnly .lateStores⟩],some (9,true)⟩
abbrev yo23:Oper:=⟨some 178,.pick (.tmp 174) (.tmp 177) (.const (.bool false)),4, "top24.go:214",#[⟨9,.data⟩,⟨12,.data⟩,⟨5,.guard⟩,⟨15,.gcOnly .lateStores⟩],some (5,false)⟩
abbrev yo24:Oper:=⟨some 179,.pick (.tmp 170) (.const (.bool true)) (.tmp 178),4, "top24.go:214",#[⟨5,.data⟩,⟨13,.data⟩,⟨15,.gcOnly .lateStores⟩],none⟩
abbrev yo25:Oper:=⟨some 11,.assign (.tmp 179),4, "top24.go:214",#[⟨14,.data⟩,⟨15,.chain⟩,⟨0,.phase⟩,⟨1,.phase⟩,⟨2,.phase⟩,⟨3,.phase⟩,⟨4,.phase⟩,⟨5,.phase⟩,⟨6,.phase⟩,⟨7,.phase⟩,⟨8,.phase⟩,⟨9,.phase⟩,⟨10,.phase⟩,⟨11,.phase⟩,⟨12,.phase⟩,⟨13,.phase⟩,⟨14,.phase⟩,⟨15,.phase⟩],none⟩
abbrev yo26:Oper:=⟨some 168,.call ⟨.value (.func 49),#[.tmp 167],#[3]⟩,4, "top24.go:214",#[⟨2,.data⟩],none⟩
abbrev yo27:Oper:=⟨none,.store 62 (.tmp 10) (.tmp 165),0, "top24.go:214",#[⟨0,.data⟩,⟨9,.chain⟩,⟨0,.phase⟩,⟨1,.textOnly .lateStores⟩,⟨2,.textOnly .lateStores⟩,⟨3,.textOnly .lateStoresUnsure⟩,⟨4,.textOnly .lateStores⟩,⟨5,.textOnly .lateStores⟩,⟨6,.textOnly .lateStores⟩,⟨7,.textOnly .lateStores⟩,⟨8,.textOnly .lateStores⟩,⟨9,.textOnly .lateStores⟩,⟨10,.textOnly .lateStores⟩,⟨11,.textOnly .lateStores⟩,⟨12,.textOnly .lateStores⟩,⟨13,.textOnly .lateStores⟩,⟨14,.textOnly .lateStores⟩],none⟩
abbrev yo28:Oper:=⟨some 195,.load 62 (.tmp 12),62, "top24.go:219",#[],none⟩
abbrev yo29:Oper:=⟨some 196,.fieldAddr 72 (.tmp 6) 1,0, "top24.go:219",#[],none⟩
abbrev yo30:Oper:=⟨some 197,.load 3 (.tmp 196),3, "top24.go:219",#[⟨1,.data⟩],none⟩
abbrev yo31:Oper:=⟨some 199,.unOp .not 4 (.tmp 198),4, "top24.go:219",#[⟨3,.data⟩],none⟩
abbrev yo32:Oper:=⟨some 200,.move (.tmp 199),4, "top24.go:219",#[⟨4,.data⟩,⟨3,.chain⟩],none⟩
abbrev yo33:Oper:=⟨some 201,.fieldAddr 62 (.tmp 5) 2,0, "top24.go:219",#[⟨5,.guard⟩],some (5,false)⟩
abbrev yo34:Oper:=⟨some 202,.load 4 (.tmp 201),4, "top24.go:219",#[⟨6,.data⟩,⟨5,.guard⟩],some (5,false)⟩
abbrev yo35:Oper:=⟨some 203,.unOp .not 4 (.tmp 202),4, "top24.go:219",#[⟨7,.data⟩,⟨5,.guard⟩],some (5,false)⟩
abbrev yo36:Oper:=⟨some 204,.move (.tmp 203),4, "top24.go:219",#[⟨8,.data⟩,⟨5,.chain⟩,⟨5,.guard⟩],some (5,false)⟩
abbrev yo37:Oper:=⟨some 205,.fieldAddr 62 (.tmp 5) 3,0, "top24.go:219",#[⟨9,.guard⟩],some (9,true)⟩
abbrev yo38:Oper:=⟨some 206,.load 4 (.tmp 205),4, "top24.go:219",#[⟨10,.data⟩,⟨9,.guard⟩],some (9,true)⟩
abbrev yo39:Oper:=⟨some 207,.unOp .not 4 (.tmp 206),4, "top24.go:219",#[⟨11,.data⟩,⟨9,.guard⟩],some (9,true)⟩
abbrev yo40:Oper:=⟨some 208,.pick (.tmp 204) (.tmp 207) (.const (.bool false)),4, "top24.go:219",#[⟨9,.data⟩,⟨12,.data⟩,⟨5,.guard⟩],some (5,false)⟩
abbrev yo41:Oper:=⟨some 209,.pick (.tmp 200) (.const (.bool true)) (.tmp 208),4, "top24.go:219",#[⟨5,.data⟩,⟨13,.data⟩],none⟩
abbrev yo42:Oper:=⟨some 210,.move (.tmp 209),4, "top24.go:219",#[⟨14,.data⟩,⟨9,.chain⟩],none⟩
abbrev yo43:Oper:=⟨some 211,.fieldAddr 72 (.tmp 6) 4,0, "top24.go:219",#[⟨15,.guard⟩],some (15,true)⟩
abbrev yo44:Oper:=⟨some 212,.load 3 (.tmp 211),3, "top24.go:219",#[⟨16,.data⟩,⟨15,.guard⟩],some (15,true)⟩
abbrev yo45:Oper:=⟨some 213,.fieldAddr 62 (.tmp 5) 0,0, "top24.go:219",#[⟨15,.guard⟩],some (15,true)⟩
abbrev yo46:Oper:=⟨some 214,.indexAddr 60 (.tmp 213) (.tmp 212),0, "top24.go:219",#[⟨18,.data⟩,⟨17,.data⟩,⟨15,.guard⟩],some (15,true)⟩
abbrev yo47:Oper:=⟨some 215,.load 4 (.tmp 214),4, "top24.go:219",#[⟨19,.data⟩,⟨15,.guard⟩],some (15,true)⟩
abbrev yo48:Oper:=⟨some 216,.move (.tmp 215),4, "top24.go:219",#[⟨20,.data⟩,⟨15,.chain⟩,⟨15,.guard⟩],some (15,true)⟩
abbrev yo49:Oper:=⟨some 217,.load 68 (.tmp 7),68, "top24.go:219",#[⟨21,.guard⟩],some (21,false)⟩
abbrev yo50:Oper:=⟨some 218,.fieldAddr 72 (.tmp 6) 1,0, "top24.go:219",#[⟨21,.guard⟩],some (21,false)⟩
abbrev yo51:Oper:=⟨some 219,.load 3 (.tmp 218),3, "top24.go:219",#[⟨23,.data⟩,⟨21,.guard⟩],some (21,false)⟩
abbrev yo52:Oper:=⟨some 221,.unOp .not 4 (.tmp 220),4, "top24.go:219",#[⟨25,.data⟩,⟨21,.guard⟩,⟨29,.gcOnly .lateStores⟩],some (21,false)⟩
abbrev yo53:Oper:=⟨some 222,.pick (.tmp 216) (.const (.bool true)) (.tmp 221),4, "top24.go:219",#[⟨21,.data⟩,⟨26,.data⟩,⟨15,.guard⟩,⟨29,.gcOnly .lateStores⟩],some (15,true)⟩
abbrev yo54:Oper:=⟨some 223,.pick (.tmp 210) (.tmp 222) (.const (.bool false)),4, "top24.go:219",#[⟨15,.data⟩,⟨27,.data⟩,⟨29,.gcOnly .lateStores⟩],none⟩
abbrev yo55:Oper:=⟨some 11,.assign (.tmp 223),4, "top24.go:219",#[⟨28,.data⟩,⟨29,.chain⟩,⟨0,.phase⟩,⟨1,.phase⟩,⟨2,.phase⟩,⟨3,.phase⟩,⟨4,.phase⟩,⟨5,.phase⟩,⟨6,.phase⟩,⟨7,.phase⟩,⟨8,.phase⟩,⟨9,.phase⟩,⟨10,.phase⟩,⟨11,.phase⟩,⟨12,.phase⟩,⟨13,.phase⟩,⟨14,.phase⟩,⟨15,.phase⟩,⟨16,.phase⟩,⟨17,.phase⟩,⟨18,.phase⟩,⟨19,.phase⟩,⟨20,.phase⟩,⟨21,.phase⟩,⟨22,.phase⟩,⟨23,.phase⟩,⟨24,.phase⟩,⟨25,.phase⟩,⟨26,.phase⟩,⟨27,.phase⟩,⟨28,.phase⟩,⟨29,.phase⟩],none⟩
abbrev yo56:Oper:=⟨some 220,.call ⟨.value (.func 48),#[.tmp 217,.tmp 219],#[68,3]⟩,4, "top24.go:219",#[⟨22,.data⟩,⟨24,.data⟩,⟨21,.chain⟩,⟨21,.guard⟩],some (21,false)⟩
abbrev yo57:Oper:=⟨some 198,.call ⟨.value (.func 49),#[.tmp 197],#[3]⟩,4, "top24.go:219",#[⟨2,.data⟩],none⟩
abbrev yo58:Oper:=⟨none,.store 62 (.tmp 10) (.tmp 195),0, "top24.go:219",#[⟨0,.data⟩,⟨25,.chain⟩,⟨0,.phase⟩,⟨1,.textOnly .lateStores⟩,⟨2,.textOnly .lateStores⟩,⟨3,.textOnly .lateStoresUnsure⟩,⟨4,.textOnly .lateStores⟩,⟨5,.textOnly .lateStores⟩,⟨6,.textOnly .lateStores⟩,⟨7,.textOnly .lateStores⟩,⟨8,.textOnly .lateStores⟩,⟨9,.textOnly .lateStores⟩,⟨10,.textOnly .lateStores⟩,⟨11,.textOnly .lateStores⟩,⟨12,.textOnly .lateStores⟩,⟨13,.textOnly .lateStores⟩,⟨14,.textOnly .lateStores⟩,⟨15,.textOnly .lateStores⟩,⟨16,.textOnly .lateStores⟩,⟨17,.textOnly .lateStores⟩,⟨18,.textOnly .lateStores⟩,⟨19,.textOnly .lateStores⟩,⟨20,.textOnly .lateStores⟩,⟨21,.textOnly .lateStores⟩,⟨22,.textOnly .lateStores⟩,⟨23,.textOnly .lateStores⟩,⟨24,.textOnly .lateStores⟩,⟨25,.textOnly .lateStoresUnsure⟩,⟨26,.textOnly .lateStores⟩,⟨27,.textOnly .lateStores⟩,⟨28,.textOnly .lateStores⟩],none⟩
abbrev yo59:Oper:=⟨some 255,.load 62 (.tmp 12),62, "top24.go:229",#[],none⟩
abbrev yo60:Oper:=⟨some 256,.move (.tmp 20),4, "top24.go:229",#[],none⟩
abbrev yo61:Oper:=⟨some 257,.move (.tmp 256),4, "top24.go:229",#[⟨1,.data⟩],none⟩
abbrev yo62:Oper:=⟨some 258,.fieldAddr 72 (.tmp 6) 1,0, "top24.go:229",#[⟨2,.guard⟩],some (2,true)⟩
abbrev yo63:Oper:=⟨some 259,.load 3 (.tmp 258),3, "top24.go:229",#[⟨3,.data⟩,⟨2,.guard⟩],some (2,true)⟩
abbrev yo64:Oper:=⟨some 260,.binOp .eql 3 (.tmp 259) (.const (.int .i64 0)) 3,4, "top24.go:229",#[⟨4,.data⟩,⟨2,.guard⟩],some (2,true)⟩
abbrev yo65:Oper:=⟨some 261,.move (.tmp 260),4, "top24.go:229",#[⟨5,.data⟩,⟨2,.chain⟩,⟨2,.guard⟩],some (2,true)⟩
abbrev yo66:Oper:=⟨some 262,.fieldAddr 72 (.tmp 6) 1,0, "top24.go:229",#[⟨6,.guard⟩],some (6,false)⟩
abbrev yo67:Oper:=⟨some 263,.load 3 (.tmp 262),3, "top24.go:229",#[⟨7,.data⟩,⟨6,.guard⟩],some (6,false)⟩
abbrev yo68:Oper:=⟨some 264,.binOp .eql 3 (.tmp 263) (.const (.int .i64 2)) 3,4, "top24.go:229",#[⟨8,.data⟩,⟨6,.guard⟩],some (6,false)⟩
abbrev yo69:Oper:=⟨some 265,.pick (.tmp 261) (.const (.bool true)) (.tmp 264),4, "top24.go:229",#[⟨6,.data⟩,⟨9,.data⟩,⟨2,.guard⟩],some (2,true)⟩
abbrev yo70:Oper:=⟨some 266,.pick (.tmp 257) (.tmp 265) (.const (.bool false)),4, "top24.go:229",#[⟨2,.data⟩,⟨10,.data⟩],none⟩
abbrev yo71:Oper:=⟨some 267,.move (.tmp 266),4, "top24.go:229",#[⟨11,.data⟩,⟨6,.chain⟩],none⟩
abbrev yo72:Oper:=⟨some 268,.move (.tmp 19),4, "top24.go:229",#[⟨12,.guard⟩],some (12,true)⟩
abbrev yo73:Oper:=⟨some 269,.move (.tmp 268),4, "top24.go:229",#[⟨13,.data⟩,⟨12,.chain⟩,⟨12,.guard⟩],some (12,true)⟩
abbrev yo74:Oper:=⟨some 270,.fieldAddr 72 (.tmp 6) 2,0, "top24.go:229",#[⟨14,.guard⟩,⟨23,.gcOnly .lateStores⟩],some (14,true)⟩
abbrev yo75:Oper:=⟨some 271,.load 3 (.tmp 270),3, "top24.go:229",#[⟨15,.data⟩,⟨14,.guard⟩,⟨23,.gcOnly .lateStores⟩],some (14,true)⟩
abbrev yo76:Oper:=⟨some 272,.fieldAddr 62 (.tmp 5) 0,0, "top24.go:229",#[⟨14,.guard⟩,⟨23,.gcOnly .lateStores⟩],some (14,true)⟩
abbrev yo77:Oper:=⟨some 273,.indexAddr 60 (.tmp 272) (.tmp 271),0, "top24.go:229",#[⟨17,.data⟩,⟨16,.data⟩,⟨14,.guard⟩,⟨23,.gcOnly .lateStores⟩],some (14,true)⟩
abbrev yo78:Oper:=⟨some 274,.load 4 (.tmp 273),4, "top24.go:229",#[⟨18,.data⟩,⟨14,.guard⟩,⟨23,.gcOnly .lateStores⟩],some (14,true)⟩
abbrev yo79:Oper:=⟨some 275,.pick (.tmp 269) (.tmp 274) (.const (.bool false)),4, "top24.go:229",#[⟨14,.data⟩,⟨19,.data⟩,⟨12,.guard⟩,⟨23,.gcOnly .lateStores⟩],some (12,true)⟩
abbrev yo80:Oper:=⟨some 276,.unOp .not 4 (.tmp 275),4, "top24.go:229",#[⟨20,.data⟩,⟨12,.guard⟩,⟨23,.gcOnly .lateStores⟩],some (12,true)⟩
abbrev yo81:Oper:=⟨some 277,.pick (.tmp 267) (.tmp 276) (.const (.bool false)),4, "top24.go:229",#[⟨12,.data⟩,⟨21,.data⟩,⟨23,.gcOnly .lateStores⟩],none⟩
abbrev yo82:Oper:=⟨some 11,.assign (.tmp 277),4, "top24.go:229",#[⟨22,.data⟩,⟨23,.chain⟩,⟨0,.phase⟩,⟨1,.phase⟩,⟨2,.phase⟩,⟨3,.phase⟩,⟨4,.phase⟩,⟨5,.phase⟩,⟨6,.phase⟩,⟨7,.phase⟩,⟨8,.phase⟩,⟨9,.phase⟩,⟨10,.phase⟩,⟨11,.phase⟩,⟨12,.phase⟩,⟨13,.phase⟩,⟨14,.phase⟩,⟨15,.phase⟩,⟨16,.phase⟩,⟨17,.phase⟩,⟨18,.phase⟩,⟨19,.phase⟩,⟨20,.phase⟩,⟨21,.phase⟩,⟨22,.phase⟩,⟨23,.phase⟩],none⟩
abbrev yo83:Oper:=⟨none,.store 62 (.tmp 10) (.tmp 255),0, "top24.go:229",#[⟨0,.data⟩,⟨14,.chain⟩,⟨0,.phase⟩,⟨1,.textOnly .lateStores⟩,⟨2,.textOnly .lateStores⟩,⟨3,.textOnly .lateStores⟩,⟨4,.textOnly .lateStores⟩,⟨5,.textOnly .lateStores⟩,⟨6,.textOnly .lateStores⟩,⟨7,.textOnly .lateStores⟩,⟨8,.textOnly .lateStores⟩,⟨9,.textOnly .lateStores⟩,⟨10,.textOnly .lateStores⟩,⟨11,.textOnly .lateStores⟩,⟨12,.textOnly .lateStores⟩,⟨13,.textOnly .lateStores⟩,⟨14,.textOnly .lateStores⟩,⟨15,.textOnly .lateStores⟩,⟨16,.textOnly .lateStores⟩,⟨17,.textOnly .lateStores⟩,⟨18,.textOnly .lateStores⟩,⟨19,.textOnly .lateStores⟩,⟨20,.textOnly .lateStores⟩,⟨21,.textOnly .lateStores⟩,⟨22,.textOnly .lateStores⟩],none⟩
abbrev yo84:Oper:=⟨some 334,.load 62 (.tmp 12),62, "top24.go:243",#[],none⟩
abbrev yo85:Oper:=⟨some 335,.fieldAddr 62 (.tmp 5) 1,0, "top24.go:243",#[⟨7,.gcOnly .lateStores⟩],none⟩
abbrev yo86:Oper:=⟨some 336,.load 59 (.tmp 335),59, "top24.go:243",#[⟨1,.data⟩,⟨7,.gcOnly .lateStores⟩],none⟩
abbrev yo87:Oper:=⟨some 337,.move (.tmp 21),3, "top24.go:243",#[⟨7,.gcOnly .lateStores⟩],none⟩
abbrev yo88:Oper:=⟨some 338,.indexAddr 59 (.tmp 336) (.tmp 337),0, "top24.go:243",#[⟨2,.data⟩,⟨3,.data⟩,⟨7,.gcOnly .lateStores⟩],none⟩
abbrev yo89:Oper:=⟨some 339,.load 4 (.tmp 338),4, "top24.go:243",#[⟨4,.data⟩,⟨7,.gcOnly .lateStores⟩],none⟩
abbrev yo90:Oper:=⟨some 340,.unOp .not 4 (.tmp 339),4, "top24.go:243",#[⟨5,.data⟩,⟨7,.gcOnly .lateStores⟩],none⟩
abbrev yo91:Oper:=⟨some 11,.assign (.tmp 340),4, "top24.go:243",#[⟨6,.data⟩,⟨7,.chain⟩,⟨0,.phase⟩,⟨1,.phase⟩,⟨2,.phase⟩,⟨3,.phase⟩,⟨4,.phase⟩,⟨5,.phase⟩,⟨6,.phase⟩,⟨7,.phase⟩],none⟩
abbrev yo92:Oper:=⟨none,.store 62 (.tmp 10) (.tmp 334),0, "top24.go:243",#[⟨0,.data⟩,⟨0,.phase⟩,⟨1,.textOnly .lateStores⟩,⟨2,.textOnly .lateStores⟩,⟨3,.textOnly .lateStores⟩,⟨4,.textOnly .lateStores⟩,⟨5,.textOnly .lateStores⟩,⟨6,.textOnly .lateStores⟩],none⟩
abbrev yo93:Oper:=⟨some 295,.load 62 (.tmp 12),62, "top24.go:247",#[],none⟩
abbrev yo94:Oper:=⟨some 296,.fieldAddr 62 (.tmp 5) 1,0, "top24.go:247",#[],none⟩
abbrev yo95:Oper:=⟨some 297,.load 59 (.tmp 296),59, "top24.go:247",#[⟨1,.data⟩],none⟩
abbrev yo96:Oper:=⟨some 298,.move (.tmp 21),3, "top24.go:247",#[],none⟩
abbrev yo97:Oper:=⟨some 299,.indexAddr 59 (.tmp 297) (.tmp 298),0, "top24.go:247",#[⟨2,.data⟩,⟨3,.data⟩],none⟩
abbrev yo98:Oper:=⟨some 300,.load 4 (.tmp 299),4, "top24.go:247",#[⟨4,.data⟩],none⟩
abbrev yo99:Oper:=⟨some 301,.unOp .not 4 (.tmp 300),4, "top24.go:247",#[⟨5,.data⟩],none⟩
abbrev yo100:Oper:=⟨some 302,.move (.tmp 301),4, "top24.go:247",#[⟨6,.data⟩],none⟩
abbrev yo101:Oper:=⟨some 303,.fieldAddr 72 (.tmp 6) 2,0, "top24.go:247",#[⟨7,.guard⟩,⟨15,.gcOnly .lateStores⟩],some (7,true)⟩
abbrev yo102:Oper:=⟨some 304,.load 3 (.tmp 303),3, "top24.go:247",#[⟨8,.data⟩,⟨7,.guard⟩,⟨15,.gcOnly .lateStores⟩],some (7,true)⟩
abbrev yo103:Oper:=⟨some 305,.fieldAddr 62 (.tmp 5) 0,0, "top24.go:247",#[⟨7,.guard⟩,⟨15,.gcOnly .lateStores⟩],some (7,true)⟩
abbrev yo104:Oper:=⟨some 306,.indexAddr 60 (.tmp 305) (.tmp 304),0, "top24.go:247",#[⟨10,.data⟩,⟨9,.data⟩,⟨7,.guard⟩,⟨15,.gcOnly .lateStores⟩],some (7,true)⟩
abbrev yo105:Oper:=⟨some 307,.load 4 (.tmp 306),4, "top24.go:247",#[⟨11,.data⟩,⟨7,.guard⟩,⟨15,.gcOnly .lateStores⟩],some (7,true)⟩
abbrev yo106:Oper:=⟨some 308,.unOp .not 4 (.tmp 307),4, "top24.go:247",#[⟨12,.data⟩,⟨7,.guard⟩,⟨15,.gcOnly .lateStores⟩],some (7,true)⟩
abbrev yo107:Oper:=⟨some 309,.pick (.tmp 302) (.tmp 308) (.const (.bool false)),4, "top24.go:247",#[⟨7,.data⟩,⟨13,.data⟩,⟨15,.gcOnly .lateStores⟩],none⟩
abbrev yo108:Oper:=⟨some 11,.assign (.tmp 309),4, "top24.go:247",#[⟨14,.data⟩,⟨15,.chain⟩,⟨0,.phase⟩,⟨1,.phase⟩,⟨2,.phase⟩,⟨3,.phase⟩,⟨4,.phase⟩,⟨5,.phase⟩,⟨6,.phase⟩,⟨7,.phase⟩,⟨8,.phase⟩,⟨9,.phase⟩,⟨10,.phase⟩,⟨11,.phase⟩,⟨12,.phase⟩,⟨13,.phase⟩,⟨14,.phase⟩,⟨15,.phase⟩],none⟩
abbrev yo109:Oper:=⟨none,.store 62 (.tmp 10) (.tmp 295),0, "top24.go:247",#[⟨0,.data⟩,⟨7,.chain⟩,⟨0,.phase⟩,⟨1,.textOnly .lateStores⟩,⟨2,.textOnly .lateStores⟩,⟨3,.textOnly .lateStores⟩,⟨4,.textOnly .lateStores⟩,⟨5,.textOnly .lateStores⟩,⟨6,.textOnly .lateStores⟩,⟨7,.textOnly .lateStores⟩,⟨8,.textOnly .lateStores⟩,⟨9,.textOnly .lateStores⟩,⟨10,.textOnly .lateStores⟩,⟨11,.textOnly .lateStores⟩,⟨12,.textOnly .lateStores⟩,⟨13,.textOnly .lateStores⟩,⟨14,.textOnly .lateStores⟩],none⟩
abbrev yo110:Oper:=⟨some 170,.load 62 (.tmp 19),62, "top24.go:290",#[],none⟩
abbrev yo111:Oper:=⟨some 171,.load 72 (.tmp 25),72, "top24.go:290",#[],none⟩
abbrev yo112:Oper:=⟨some 172,.move (.tmp 15),51, "top24.go:290",#[],none⟩
abbrev yo113:Oper:=⟨some 174,.move (.tmp 8),3, "top24.go:290",#[],none⟩
abbrev yo114:Oper:=⟨some 175,.move (.tmp 7),3, "top24.go:290",#[],none⟩
abbrev yo115:Oper:=⟨some 169,.move (.tmp 176),75, "top24.go:290",#[⟨6,.data⟩],none⟩
abbrev yo116:Oper:=⟨some 177,.extract (.tmp 169) 0,62, "top24.go:290",#[⟨7,.data⟩],none⟩
abbrev yo117:Oper:=⟨some 178,.extract (.tmp 169) 1,4, "top24.go:290",#[⟨7,.data⟩,⟨11,.gcOnly .lateStores⟩],none⟩
abbrev yo118:Oper:=⟨some 28,.assign (.tmp 178),4, "top24.go:290",#[⟨9,.data⟩,⟨11,.chain⟩,⟨0,.phase⟩,⟨1,.phase⟩,⟨2,.phase⟩,⟨3,.phase⟩,⟨4,.phase⟩,⟨5,.phase⟩,⟨6,.phase⟩,⟨7,.phase⟩,⟨8,.phase⟩,⟨9,.phase⟩,⟨10,.phase⟩,⟨11,.phase⟩],none⟩
abbrev yo119:Oper:=⟨some 173,.call ⟨.value (.func 25),#[.tmp 172],#[51]⟩,68, "top24.go:290",#[⟨2,.data⟩],none⟩
abbrev yo120:Oper:=⟨some 27,.alloc 62,0, "top24.go:290",#[],none⟩
abbrev yo121:Oper:=⟨some 176,.call ⟨.value (.func 24),#[.tmp 170,.tmp 171,.tmp 173,.tmp 174,.tmp 175],#[62,72,68,3,3]⟩,75, "top24.go:290",#[⟨0,.data⟩,⟨1,.data⟩,⟨3,.data⟩,⟨4,.data⟩,⟨5,.data⟩,⟨3,.chain⟩],none⟩
abbrev yo122:Oper:=⟨none,.store 62 (.tmp 27) (.tmp 177),0, "top24.go:290",#[⟨10,.data⟩,⟨8,.data⟩,⟨6,.chain⟩,⟨0,.phase⟩,⟨1,.phase⟩,⟨2,.phase⟩,⟨3,.phase⟩,⟨4,.phase⟩,⟨5,.phase⟩,⟨6,.phase⟩,⟨7,.phase⟩,⟨8,.phase⟩,⟨9,.textOnly .lateStores⟩,⟨10,.phase⟩],none⟩
section
variable {P:Program} {ops:Array Oper} {Q:Exit→Act→World→Prop} {S:World→Prop} {a a':Act} {w:World} {md:Region.Mode} {fuel:Nat} {listed:Array Bool} {rest:List Oper} {o:Oper}
theorem yK (i:Nat) (oi:Oper) (v:Value) (hy:YieldsIf P ops S oi v a) (hS:S w) (h:wpAnyH P md ops Q S fuel (listed.setIfInBounds i true) a' w)
 (ha:a.put oi.dst v=a':=by (simp only [Act.put,List.setIfInBounds_toArray,List.set_cons_zero,List.set_cons_succ];rfl))
 (hi:ops[i]? = some oi:=by exact rfl) (hs:Region.noSelect ops=true:=by kernel_rfl) (hf:Region.free md ops listed i=true:=by kernel_rfl) (hr:(Region.ready md ops listed).contains i=true:=by kernel_rfl)
 (hQ:∀c a w,Q (.panic c) (a.put oi.dst v) w→Q (.panic c) a w:=by exact fun _ _ _ h=>h):wpAnyH P md ops Q S (fuel+1) listed a w:=by
 subst ha;exact wpAnyH_take hi hs hf hr hQ hy hS h
theorem yR (i:Nat) (oi:Oper) (v:Value) (hS:S w) (h:wpAnyH P md ops Q S fuel (listed.setIfInBounds i true) a' w) (hy:YieldsIf P ops S oi v a:=by exact .inl ⟨rfl,fun _ _=>rfl⟩)
 (ha:a.put oi.dst v=a':=by (simp only [Act.put,List.setIfInBounds_toArray,List.set_cons_zero,List.set_cons_succ];rfl))
 (hi:ops[i]? = some oi:=by exact rfl) (hs:Region.noSelect ops=true:=by kernel_rfl) (hf:Region.free md ops listed i=true:=by kernel_rfl) (hr:(Region.ready md ops listed).contains i=true:=by kernel_rfl)
 (hQ:∀c a w,Q (.panic c) (a.put oi.dst v) w→Q (.panic c) a w:=by exact fun _ _ _ h=>h):wpAnyH P md ops Q S (fuel+1) listed a w:=yK i oi v hy hS h ha hi hs hf hr hQ
theorem yG (i:Nat) (oi:Oper) (v:Value) (hS:S w) (h:wpAnyH P md ops Q S fuel (listed.setIfInBounds i true) a' w) (hy:YieldsIf P ops S oi v a:=by exact .inl ⟨rfl,fun wx hx=>by (go_simp<;>fail)⟩)
 (ha:a.put oi.dst v=a':=by (simp only [Act.put,List.setIfInBounds_toArray,List.set_cons_zero,List.set_cons_succ];rfl))
 (hi:ops[i]? = some oi:=by exact rfl) (hs:Region.noSelect ops=true:=by kernel_rfl) (hf:Region.free md ops listed i=true:=by kernel_rfl) (hr:(Region.ready md ops listed).contains i=true:=by kernel_rfl)
 (hQ:∀c a w,Q (.panic c) (a.put oi.dst v) w→Q (.panic c) a w:=by exact fun _ _ _ h=>h):wpAnyH P md ops Q S (fuel+1) listed a w:=yK i oi v hy hS h ha hi hs hf hr hQ
theorem yS (i:Nat) (oi:Oper) (hS:S w) (h:wpAnyH P md ops Q S fuel (listed.setIfInBounds i true) a' w) (hy:YieldsIf P ops S oi undef a:=by exact .inr ⟨rfl,rfl⟩)
 (ha:a.put oi.dst undef=a':=by (simp only [Act.put,List.setIfInBounds_toArray,List.set_cons_zero,List.set_cons_succ];rfl))
 (hi:ops[i]? = some oi:=by exact rfl) (hs:Region.noSelect ops=true:=by kernel_rfl) (hf:Region.free md ops listed i=true:=by kernel_rfl) (hr:(Region.ready md ops listed).contains i=true:=by kernel_rfl)
 (hQ:∀c a w,Q (.panic c) (a.put oi.dst undef) w→Q (.panic c) a w:=by exact fun _ _ _ h=>h):wpAnyH P md ops Q S (fuel+1) listed a w:=yK i oi undef hy hS h ha hi hs hf hr hQ
theorem yV (v:Value) (h:WL P ops Q rest a' w) (hv:(execOp a.eval o).run P w=.ok (.value v) w:=by exact rfl) (hw:Region.wanted o (yielded ops a.tmps)=true:=by exact rfl)
 (ha:a.put o.dst v=a':=by (simp only [Act.put,List.setIfInBounds_toArray,List.set_cons_zero,List.set_cons_succ];rfl)):WL P ops Q (o::rest) a w:=by
 subst ha;exact wl_val hw hv h
theorem yW (v:Value) (h:WL P ops Q rest a' w) (hv:(execOp a.eval o).run P w=.ok (.value v) w:=by (go_simp<;>fail)) (hw:Region.wanted o (yielded ops a.tmps)=true:=by exact rfl)
 (ha:a.put o.dst v=a':=by (simp only [Act.put,List.setIfInBounds_toArray,List.set_cons_zero,List.set_cons_succ];rfl)):WL P ops Q (o::rest) a w:=yV v h hv hw ha
theorem yN (h:WL P ops Q rest a' w) (hw:Region.wanted o (yielded ops a.tmps)=false:=by exact rfl)
 (ha:a.put o.dst undef=a':=by (simp only [Act.put,List.setIfInBounds_toArray,List.set_cons_zero,List.set_cons_succ];rfl)):WL P ops Q (o::rest) a w:=by
 subst ha;exact wl_skip hw h
end
theorem feed_pre {w:World} {t:TG} {ad:Addr} {n c:Nat} {i:I} {s:RS} (hR:t.R.length=16) (hW:RdB w ad c t.W) (hn:t.W.length=n) (ho:IOk i) :
 ∃w0,(((w.alloc (.cells (tgV t (.slice (some ad) n c)) 62)).alloc (.cells (iV i) 72)).alloc (.cells s.arr 68)).alloc (.cells zT 62)=w0∧Aside (FW w0 w.heap.size t (.slice (some ad) n c) i s)∧Aside (Bl w w0)∧Aside (w0.heap.size=w.heap.size+4) ∧
  Aside ((Tryz.prog.info? 62).map (·.size)=some (tgV t (.slice (some ad) n c)).size∧(tgV t (.slice (some ad) n c)).size=19∧(tgV t (.slice (some ad) n c)).all (·.oneCell')=true)∧Aside (RdB w ad c t.W)∧Aside (t.W.length=n)∧Aside (IOk i) ∧
  n≤c∧(0:Int)≤(i.b:Int)∧(i.b:Int)<16∧(0:Int)≤(i.c:Int)∧(i.c:Int)<16∧(0:Int)≤(i.a:Int)∧(i.a:Int)<16∧¬(17=i.a)∧¬(18=i.a)∧¬(16=i.a):=by
 have h1:=ho.a;have h2:=ho.b;have h3:=ho.c;have h4:=hW.le;exact ⟨_,rfl,⟨FW.start w hR i s⟩,⟨((((Bl.refl w).alloc _).alloc _).alloc _).alloc _⟩,⟨by simp⟩,⟨i62s hR _,tg_size hR _,tg_one rfl⟩,⟨hW⟩,⟨hn⟩,⟨ho⟩,by omega,by omega,by omega,by omega,by omega,by omega,by omega,by omega,by omega,by omega⟩
theorem feed_w1 {w0:World} {g:Nat} {t:TG} {sl:Value} {i:I} {s:RS} (hR:t.R.length=16) (F0:Aside (FW w0 g t sl i s)) :
 ∃w1,w0.alloc (.cells (tgV t sl) 62)=w1∧Aside (Bl w0 w1)∧Aside (TB w1 w0.heap.size t sl)∧Aside (FW w1 g t sl i s)∧w1.cell? ⟨g,16,none⟩=some sl∧w1.cell? ⟨g,17,none⟩=some (.bool t.NZ)∧w1.cell? ⟨g,18,none⟩=some (.bool t.CV)∧w1.frozen? ⟨w0.heap.size,16,none⟩=false∧g<w1.heap.size∧w0.heap.size<w1.heap.size:=by
 have B1:Bl w0 (w0.alloc (.cells (tgV t sl) 62)):=(Bl.refl w0).alloc _;have O1:TB (w0.alloc (.cells (tgV t sl) 62)) w0.heap.size t sl:=⟨heap_alloc_new w0 _,hR⟩;have F1:=F0.out.keep B1;obtain ⟨c16,c17,c18⟩:=F1.tb.cs;exact ⟨_,rfl,⟨B1⟩,⟨O1⟩,⟨F1⟩,c16,c17,c18,O1.frz 16,F1.tb.lt,O1.lt⟩
theorem feed_w3 {w w0 w1 w2:World} {t:TG} {ad:Addr} {n c:Nat} {i:I} {s:RS} {v2:Value} (B0:Aside (Bl w w0)) (HZ0:Aside (w0.heap.size=w.heap.size+4)) (HO:Aside (IOk i)) (B1:Aside (Bl w0 w1)) (O1:Aside (TB w1 w0.heap.size t (.slice (some ad) n c))) (F1:Aside (FW w1 w.heap.size t (.slice (some ad) n c) i s))
 (B2:Bl w1 w2) (hown:w2.ownsRow w1.heap.size 4 1 v2 n (bv t.W)) (hv:v2≠.slice none 0 0) :
 ∃r c2,v2=.slice (some ⟨r,0,none⟩) n c2∧w2.frozen? ⟨w0.heap.size,16,none⟩=false∧w2.cell? ⟨w0.heap.size,16,none⟩=some (.slice (some ad) n c)∧w2.cell? ⟨w0.heap.size,17,none⟩=some (.bool t.NZ)∧w2.cell? ⟨w0.heap.size,18,none⟩=some (.bool t.CV) ∧
  ∃w3,w2.setCell ⟨w0.heap.size,16,none⟩ (.slice (some ⟨r,0,none⟩) n c2)=w3∧Aside (FO w3 w.heap.size w0.heap.size r n c2 t ad c i s t)∧Aside (Bl w w3) ∧
   (w3.cell? ⟨w.heap.size+1,0,none⟩=some (.int .i64 (i.kd:Int))∧w3.cell? ⟨w.heap.size+1,1,none⟩=some (.int .i64 (i.op:Int))∧w3.cell? ⟨w.heap.size+1,2,none⟩=some (.int .i64 (i.a:Int))∧w3.cell? ⟨w.heap.size+1,3,none⟩=some (.int .i64 (i.b:Int))∧w3.cell? ⟨w.heap.size+1,4,none⟩=some (.int .i64 (i.c:Int))∧w3.cell? ⟨w.heap.size+1,5,none⟩=some (.int .i64 i.im)∧w3.cell? ⟨w.heap.size+1,6,none⟩=some (.bool i.u)) ∧
   w3.cell? ⟨w.heap.size,i.b,none⟩=some (.bool (tagR t i.b))∧w3.cell? ⟨w.heap.size,i.c,none⟩=some (.bool (tagR t i.c))∧w3.cell? ⟨w.heap.size,i.a,none⟩=some (.bool (tagR t i.a)) ∧
   (w3.cell? ⟨w.heap.size,16,none⟩=some (.slice (some ad) n c)∧w3.cell? ⟨w.heap.size,17,none⟩=some (.bool t.NZ)∧w3.cell? ⟨w.heap.size,18,none⟩=some (.bool t.CV)) ∧
   w3.cell? ⟨w0.heap.size,i.a,none⟩=some (.bool (tagR t i.a))∧(w3.cell? ⟨w0.heap.size,16,none⟩=some (.slice (some ⟨r,0,none⟩) n c2)∧w3.cell? ⟨w0.heap.size,17,none⟩=some (.bool t.NZ)∧w3.cell? ⟨w0.heap.size,18,none⟩=some (.bool t.CV))∧∀j,w3.frozen? ⟨w0.heap.size,j,none⟩=false:=by
 obtain ⟨r,c2,rfl,how⟩:=own_owb (l:=t.W) hown hv;have hrg:w1.heap.size≤r:=how.hb;have l3:=O1.out.lt;have HF3:FO (w2.setCell ⟨w0.heap.size,16,none⟩ (.slice (some ⟨r,0,none⟩) n c2)) w.heap.size w0.heap.size r n c2 t ad c i s t:=⟨((F1.out.keep B2).off (by have:=HZ0.out;omega) 16 _),by have:=HZ0.out;omega,(O1.out.keep B2).setW _,(owb_to how (by have:=HZ0.out;omega)).off (by omega) 16 _,by omega,by have:=HZ0.out;omega⟩
 have B3:Bl w (w2.setCell ⟨w0.heap.size,16,none⟩ (.slice (some ⟨r,0,none⟩) n c2)):=((B0.out.trans B1.out).trans B2).puts (p:=⟨w0.heap.size,16,none⟩) B0.out.out.size _;have d:=(O1.out.keep B2).cs;exact ⟨r,c2,rfl,(O1.out.keep B2).frz 16,d.1,d.2.1,d.2.2,_,rfl,⟨HF3⟩,⟨B3⟩,ins_c HF3.fw.ib,HF3.fw.tb.rc HO.out.b,HF3.fw.tb.rc HO.out.c,HF3.fw.tb.rc HO.out.a,HF3.fw.tb.cs,HF3.tb.rc HO.out.a,HF3.tb.cs,HF3.tb.frz⟩
end Go.Proofs.YtjmiaemabhlnjaaGreatDoor.Chains.Shifts
end
