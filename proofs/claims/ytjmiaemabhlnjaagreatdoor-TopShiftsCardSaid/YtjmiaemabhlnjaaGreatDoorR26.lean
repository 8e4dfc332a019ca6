/- A part of the proof of TopShifts. -/
import Derived.Test.YtjmiaemabhlnjaaGreatDoorQ2
import Derived.Test.YtjmiaemabhlnjaaGreatDoorR25
import Derived.Deep.QuietTactic
import Derived.Test.YtjmiaemabhlnjaaGreatDoorQ0
import Derived.Laws.BytesArg
import GoSem.Op.String
import Derived.Deep.RegionHeld3
section
set_option linter.all false
set_option maxRecDepth 20000
namespace Go.Proofs.YtjmiaemabhlnjaaGreatDoor.Chains.Shifts
open Go Go.RowKit Go.Proofs.YtjmiaemabhlnjaaGreatDoor.Chains
theorem reg_cell {w:World} {g:Nat} {s:RS} (h:w.heap[g]? = some (.cells s.arr 68 (0,0))) (hs:s.Ok) {j:Nat} (hj:j<16):w.cell? ⟨g,j,none⟩=some (.int .u32 ((reg s j:Nat):Int)):=by
 rw [cell_of_row w g j _ _ (0,0) h];exact reg_at hs hj
theorem fl_cells {w:World} {g:Nat} {s:RS} (h:w.heap[g]? = some (.cells s.arr 68 (0,0))) (hs:s.Ok):w.cell? ⟨g,16,none⟩=some (.int .u32 (s.H:Int))∧w.cell? ⟨g,17,none⟩=some (.bool s.N)∧w.cell? ⟨g,18,none⟩=some (.bool s.Z)∧w.cell? ⟨g,19,none⟩=some (.bool s.C)∧w.cell? ⟨g,20,none⟩=some (.bool s.V):=by
 have:=arr_at hs
 refine ⟨?_,?_,?_,?_,?_⟩<;>rw [cell_of_row w g _ _ _ (0,0) h]
 · exact this.1
 · exact this.2.1
 · exact this.2.2.1
 · exact this.2.2.2.1
 · exact this.2.2.2.2
theorem i68z {s:RS} (h:s.Ok):(Tryz.prog.info? 68).map (·.size)=some s.arr.size∧s.arr.size=21:=⟨i68l h,h.cell.1⟩
theorem mw_out {w:World} {gm ga:Nat} {ib ob:Option Nat} {m:MS} (h:MW w gm ga ib ob m) (h9:m.out.length≤1000):Calls Tryz.prog 18 #[.pointer (some ⟨gm,0,none⟩)] w fun e w'=>∃A c,e=.returned (.slice A m.out.length c)∧RdW w' A c m.out∧Bl w w':=by
 obtain ⟨A,c,outV,h1,h2,h3,h4,h5⟩:=h.ex;obtain ⟨A1,c1,rfl,hr,hl,_⟩:=RdW.own h4;refine (out_any h1 hr rfl h9).mono ?_;rintro e w' ⟨v,rfl,ho,hb⟩;obtain ⟨A2,c2,rfl,hr2,_,_⟩:=RdW.own ho;exact ⟨A2,c2,rfl,hr2,hb⟩
theorem mw_pc {w:World} {gm ga:Nat} {ib ob:Option Nat} {m:MS} (h:MW w gm ga ib ob m):Calls Tryz.prog 21 #[.pointer (some ⟨gm,0,none⟩)] w fun e w'=>e=.returned (.int .u32 (m.pc:Int))∧w'=w:=by
 obtain ⟨_,_,h1⟩:=h.mb;exact pc_any h1
theorem mw_st {w:World} {gm ga:Nat} {ib ob:Option Nat} {m:MS} (h:MW w gm ga ib ob m):Calls Tryz.prog 20 #[.pointer (some ⟨gm,0,none⟩)] w fun e w'=>e=.returned (.int .i64 (m.st:Int))∧w'=w:=by
 obtain ⟨_,_,h1⟩:=h.mb;exact status_any h1
theorem take_at {M:List Nat} {q na:Nat} (hM:M.length=4096) (hn:na≤4096) (hq:q<na):(M.take na)[q]? = some (M.getD q 0):=by
 rw [List.getElem?_take_of_lt hq,List.getD_eq_getElem?_getD,List.getElem?_eq_getElem (by omega)];rfl
theorem rdw_some {w:World} {A:Option Addr} {c q:Nat} {l:List Nat} {x:Nat} (h:RdW w A c l) (hx:l[q]? = some x):∃ad,A=some ad:=by
 cases A with
 | some ad=>exact ⟨ad,rfl⟩
 | none=>rw [(h.nil rfl).1] at hx;simp at hx
set_option maxHeartbeats 4000000 in
theorem moved_any {w:World} {ga gma gb gmb:Nat} {iba oba ibb obb:Option Nat} {a b:MS} {d i k n c:Nat} {t:TG} {ad:Addr} (HA:MW w gma ga iba oba a) (HB:MW w gmb gb ibb obb b) (ha:MOk a) (hb:MOk b) (F:Fix d i k n a b t) (S:Sim d i k n a b t) (hW:RdB w ad c t.W) (ho:a.out.length≤1000) :
 Calls Tryz.prog 27 #[.pointer (some ⟨gma,0,none⟩),.pointer (some ⟨gmb,0,none⟩),.agg (tgV t (.slice (some ad) n c)),.int .i64 (i:Int),.int .i64 (k:Int),.int .u32 (d:Int)] w fun e w'=>e=.returned (.bool true)∧Bl w w':=by
 obtain ⟨w0,hw0⟩:∃w0,w.alloc (.cells (tgV t (.slice (some ad) n c)) 62)=w0:=⟨_,rfl⟩;have B0:=Aside.mk (show Bl w w0 by rw [←hw0];exact (Bl.refl w).alloc _);have T0:=Aside.mk (show TB w0 w.heap.size t (.slice (some ad) n c) from ⟨by rw [←hw0];exact heap_alloc_new w _,F.tR⟩);obtain ⟨ina,outa,hma⟩:=HA.mb;obtain ⟨inb,outb,hmb⟩:=HB.mb;have OKA:=Aside.mk (And.intro (i68z hma.ok) (And.intro a.s.one hma.ok))
 have OKB:=Aside.mk (And.intro (i68z hmb.ok) (And.intro b.s.one hmb.ok));have HRA:=Aside.mk (fun wx (q:Bl w0 wx)=>regs_any ((hma.keep B0.out).keep q));have HRB:=Aside.mk (fun wx (q:Bl w0 wx)=>regs_any ((hmb.keep B0.out).keep q));go_enter Tryz.func27,Tryz.ntmps27
 go_wp2_with (first
  | (go_at_call_of 25 gma;(with_reducible refine (HRA.out _ (Bl.refl _)).mono ?_);rintro e w1 ⟨rfl,hb1⟩;have B1:=Aside.mk hb1;clear hb1)
  | (refine wpList_store_row rfl 68 (.tmp 13) (.tmp 24) rfl w1.heap.size a.s.arr rfl rfl 68 _ (heap_alloc_new w1 _) OKA.out.1.1 (by rw [OKA.out.1.2];rfl) OKA.out.2.1 ?_
     rw [World.setRow_alloc_new];obtain ⟨w2,hw2⟩:∃w2,w1.alloc (.cells a.s.arr 68)=w2:=⟨_,rfl⟩;rw [hw2];have B2:=Aside.mk (show Bl w1 w2 by rw [←hw2];exact (Bl.refl w1).alloc _);have P2:=Aside.mk (show w2.heap[w1.heap.size]? = some (.cells a.s.arr 68 (0,0)) by rw [←hw2];exact heap_alloc_new w1 _)
     clear hw2)
  | (go_at_call_of 25 gmb;(with_reducible refine (HRB.out _ (B1.out.trans B2.out)).mono ?_);rintro e w3 ⟨rfl,hb3⟩;have B3:=Aside.mk hb3;clear hb3)
  | (refine wpList_store_row rfl 68 (.tmp 14) (.tmp 26) rfl w3.heap.size b.s.arr rfl rfl 68 _ (heap_alloc_new w3 _) OKB.out.1.1 (by rw [OKB.out.1.2];rfl) OKB.out.2.1 ?_
     rw [World.setRow_alloc_new];obtain ⟨w4,hw4⟩:∃w4,w3.alloc (.cells b.s.arr 68)=w4:=⟨_,rfl⟩;rw [hw4];have B4:=Aside.mk (show Bl w3 w4 by rw [←hw4];exact (Bl.refl w3).alloc _);have Q4:=Aside.mk (show w4.heap[w3.heap.size]? = some (.cells b.s.arr 68 (0,0)) by rw [←hw4];exact heap_alloc_new w3 _)
     clear hw4))
 have BW:=Aside.mk (((B1.out.trans B2.out).trans B3.out).trans B4.out);have T4:=Aside.mk (T0.out.keep BW.out);have P4:Aside (w4.heap[w1.heap.size]? = some (.cells a.s.arr 68 (0,0))):=⟨by rw [(B3.out.trans B4.out).blk (Array.getElem?_eq_some_iff.1 P2.out).1];exact P2.out⟩;have W4:=Aside.mk ((hW.keep B0.out).keep BW.out);have A4:=Aside.mk ((HA.keep B0.out).keep BW.out);have C4:=Aside.mk ((HB.keep B0.out).keep BW.out)
 have B04:=Aside.mk (B0.out.trans BW.out);generalize w1.heap.size=gp at P4 ⊢;generalize w3.heap.size=gq at Q4 ⊢;generalize w.heap.size=gt at T4 ⊢;have FF:=Aside.mk F;have SS:=Aside.mk S;have MA:=Aside.mk ha;have MB:=Aside.mk hb;have HO:=Aside.mk ho;clear HRA HRB B1 P2 T0 HA HB hma hmb F S hW ha hb ho
 go_loopw [15] (fun q wr=>∃j:Nat,q=.int .i64 j∧j≤16∧Aside (Bl w4 wr)) (fun q _=>16 - (intOf q).toNat)
 case atStart=>exact ⟨0,rfl,Nat.zero_le _,⟨Bl.refl _⟩⟩
 case round =>
  obtain ⟨j,rfl,hj,HBJ⟩:=hrel
  by_cases hlt:j<16
  · have ht:=HBJ.out.cell (T4.out.rc hlt)
    have hp:=HBJ.out.cell (reg_cell P4.out OKA.out.2.2 hlt);have hq:=HBJ.out.cell (reg_cell Q4.out OKB.out.2.2 hlt);have hm:=moved_r FF.out SS.out.core hlt
    have hj0:(0:Int)≤(j:Int):=by omega
    have hj1:(j:Int)<16:=by omega
    have HL:=Aside.mk hlt;obtain ⟨x,hx⟩:∃x,reg a.s j=x:=⟨_,rfl⟩;obtain ⟨y,hy⟩:∃y,reg b.s j=y:=⟨_,rfl⟩;rw [hx] at hp hm;rw [hy] at hq hm;obtain ⟨tt,htt⟩:∃tt,tagR t j=tt:=⟨_,rfl⟩;rw [htt] at ht hm;clear hx hy htt;cases tt
    all_goals
     simp only [if_true,if_false,Bool.false_eq_true] at hm
     go_wp2_with fail
     go_quiet (fail)
     generalize hK:World.drewN _ _=Wc;have HC:Aside (Bl w4 Wc):=⟨by rw [←hK];exact HBJ.out.dN⟩;clear hK;go_wp2
     go_roundw
     case rel=>exact ⟨j+1,by go_num,HL.out,HC⟩
     case measure=>have:=HL.out;simp [intOf];omega
  · have WA:=Aside.mk (fun wx (q:Bl w4 wx)=>words_ok (A4.out.keep q).mem)
    have WB:=Aside.mk (fun wx (q:Bl w4 wx)=>words_ok (C4.out.keep q).mem);have ca:=HBJ.out.cell A4.out.pcc.2.2;obtain ⟨na,hna⟩:∃na,a.n=na:=⟨_,rfl⟩
    have hnb:b.n=na:=by rw [←FF.out.an];exact hna
    rw [hna] at WA;rw [hnb] at WB;obtain ⟨i4,hi4⟩:∃i4,i / 4=i4:=⟨_,rfl⟩;obtain ⟨k4,hk4⟩:∃k4,k / 4=k4:=⟨_,rfl⟩;have NN:=Aside.mk (And.intro hna (And.intro hi4 hk4))
    have e1:i4+n≤na:=by have:=FF.out.ai;omega
    have e2:k4+n≤na:=by have:=FF.out.bk;omega
    have e3:na≤4096:=by have:=FF.out.a4;omega
    have t1:(i:Int).tdiv 4=(i4:Int):=by rw [Int.tdiv_eq_ediv_of_nonneg (by omega)];omega
    have t2:(k:Int).tdiv 4=(k4:Int):=by rw [Int.tdiv_eq_ediv_of_nonneg (by omega)];omega
    have t1':(i:Int) / 4=(i4:Int):=by omega
    have t2':(k:Int) / 4=(k4:Int):=by omega
    have s1:IntKind.i64.wrap ((i4:Int)+(n:Int))=(i4:Int)+(n:Int):=by simp [IntKind.wrap,IntKind.bits,IntKind.signed];omega
    have s2:IntKind.i64.wrap ((k4:Int)+(n:Int))=(k4:Int)+(n:Int):=by simp [IntKind.wrap,IntKind.bits,IntKind.signed];omega
    have g1:¬((na:Int)<(i4:Int)+(n:Int)):=by omega
    have g2:¬((na:Int)<(k4:Int)+(n:Int)):=by omega
    have g1':¬(na<i4+n):=by omega
    have g2':¬(na<k4+n):=by omega
    clear hna hnb hi4 hk4
    go_wp2_with (first
     | (go_at_call_of 22 ga;(with_reducible refine (WA.out _ HBJ.out).mono ?_);rintro e w5 ⟨A1,c1,rfl,hr,hb⟩
        have R5:=Aside.mk hr;have B5:=Aside.mk (HBJ.out.trans hb);have cb:=B5.out.cell C4.out.pcc.2.2
        clear hr hb ca)
     | (go_at_call_of 22 gb;(with_reducible refine (WB.out _ B5.out).mono ?_);rintro e w6 ⟨A2,c2,rfl,hr,hb⟩
        have R6:=Aside.mk hr;have R5b:=Aside.mk (R5.out.keep hb);have B6:=Aside.mk (B5.out.trans hb);obtain ⟨q16,q17,q18⟩:=(T4.out.keep B6.out).cs
        clear hr hb cb))
    clear q16 q17 q18
    go_loopw [19] (fun q wr=>∃j:Nat,q=.int .i64 j∧j≤n∧Aside (Bl w6 wr)) (fun q _=>n - (intOf q).toNat)
    case atStart=>exact ⟨0,rfl,Nat.zero_le _,⟨Bl.refl _⟩⟩
    case round =>
     obtain ⟨j,rfl,hj2,HB6⟩:=hrel;have HBL:=Aside.mk (B6.out.trans HB6.out);obtain ⟨q16,q17,q18⟩:=(T4.out.keep HBL.out).cs
     by_cases hl2:j<n
     · have htw:t.W[j]? = some (t.W.getD j false):=by rw [List.getD_eq_getElem?_getD,List.getElem?_eq_getElem (by rw [FF.out.tW];exact hl2)];rfl
       have ht:=HBL.out.cell (W4.out.cells j _ htw);have hm:=moved_w FF.out SS.out.core hl2;rw [NN.out.2.1,NN.out.2.2] at hm;have hva:=take_at (q:=i4+j) MA.out.M e3 (by omega);have hvb:=take_at (q:=k4+j) MB.out.M e3 (by omega);obtain ⟨ad1,rfl⟩:=rdw_some R5.out hva;obtain ⟨ad2,rfl⟩:=rdw_some R6.out hvb;obtain ⟨pa,hpa⟩:∃pa,i4+j=pa:=⟨_,rfl⟩;obtain ⟨pb,hpb⟩:∃pb,k4+j=pb:=⟨_,rfl⟩;rw [hpa] at hva hm;rw [hpb] at hvb hm
       have ca1:=HB6.out.cell (R5b.out.cells ad1 rfl pa _ hva);have ca2:=HB6.out.cell (R6.out.cells ad2 rfl pb _ hvb)
       have hs1:IntKind.i64.wrap ((i4:Int)+(j:Int))=(pa:Int):=by simp [IntKind.wrap,IntKind.bits,IntKind.signed];omega
       have hs2:IntKind.i64.wrap ((k4:Int)+(j:Int))=(pb:Int):=by simp [IntKind.wrap,IntKind.bits,IntKind.signed];omega
       have b1:(pa:Int)<(na:Int):=by omega
       have b2:(pb:Int)<(na:Int):=by omega
       have b1':pa<na:=by omega
       have b2':pb<na:=by omega
       have hL1:(a.M.take na).length=na:=by rw [List.length_take];have:=MA.out.M;omega
       have hL2:(b.M.take na).length=na:=by rw [List.length_take];have:=MB.out.M;omega
       have nc1:na≤c1:=by have:=R5b.out.le;omega
       have nc2:na≤c2:=by have:=R6.out.le;omega
       have nc:n≤c:=by have:=W4.out.le;have:=FF.out.tW;omega
       have HL:=Aside.mk hl2;obtain ⟨x,hx⟩:∃x,a.M.getD pa 0=x:=⟨_,rfl⟩;obtain ⟨y,hy⟩:∃y,b.M.getD pb 0=y:=⟨_,rfl⟩;rw [hx] at ca1 hm;rw [hy] at ca2 hm;obtain ⟨tt,htt⟩:∃tt,t.W.getD j false=tt:=⟨_,rfl⟩;rw [htt] at ht hm;clear hx hy htt htw hva hvb hpa hpb hL1 hL2;cases tt
       all_goals
        simp only [if_true,if_false,Bool.false_eq_true] at hm
        go_wp2_with fail
        go_quiet (fail)
        generalize hK:World.drewN _ _=Wc;have HC:Aside (Bl w6 Wc):=⟨by rw [←hK];exact HB6.out.dN⟩;clear hK;go_wp2
        go_roundw
        case rel=>exact ⟨j+1,by go_num,HL.out,HC⟩
        case measure=>have:=HL.out;simp [intOf];omega
     · have HPA:=Aside.mk (fun wx (q:Bl w4 wx)=>mw_pc (A4.out.keep q))
       have HPB:=Aside.mk (fun wx (q:Bl w4 wx)=>mw_pc (C4.out.keep q));have HOA:=Aside.mk (fun wx (q:Bl w4 wx)=>mw_out (A4.out.keep q) HO.out);have hob:b.out=a.out:=SS.out.core.out;have HOB:=Aside.mk (fun wx (q:Bl w4 wx)=>mw_out (C4.out.keep q) (by rw [hob];exact HO.out));rw [hob] at HOB;have hpc:=moved_pc (d_lt FF.out.dd) MA.out.p SS.out.pc;obtain ⟨lo,hlo⟩:∃lo,a.out.length=lo:=⟨_,rfl⟩;have HLO:=Aside.mk (And.intro hlo HO.out)
       rw [hlo] at HOA HOB;obtain ⟨p16,p17,p18,p19,p20⟩:=fl_cells P4.out OKA.out.2.2;obtain ⟨z16,z17,z18,z19,z20⟩:=fl_cells Q4.out OKB.out.2.2;have p16:=HBL.out.cell p16;have p17:=HBL.out.cell p17;have p18:=HBL.out.cell p18;have p19:=HBL.out.cell p19;have p20:=HBL.out.cell p20;have z16:=HBL.out.cell z16;have z17:=HBL.out.cell z17;have z18:=HBL.out.cell z18;have z19:=HBL.out.cell z19;have z20:=HBL.out.cell z20
       rw [SS.out.core.h] at z16;obtain ⟨nz,hnz⟩:∃nz,t.NZ=nz:=⟨_,rfl⟩;obtain ⟨cv,hcv⟩:∃cv,t.CV=cv:=⟨_,rfl⟩;have hN:nz=false→b.s.N=a.s.N∧b.s.Z=a.s.Z:=fun h=>SS.out.core.nz (hnz.trans h);have hV:cv=false→b.s.C=a.s.C∧b.s.V=a.s.V:=fun h=>SS.out.core.cv (hcv.trans h);rw [hnz] at q17;rw [hcv] at q18;have HN:=Aside.mk hN;have HV:=Aside.mk hV;clear hnz hcv hN hV hob hlo
       cases nz<;>cases cv
       all_goals
        (try rw [(HN.out rfl).1] at z17)
        (try rw [(HN.out rfl).2] at z18)
        (try rw [(HV.out rfl).1] at z19)
        (try rw [(HV.out rfl).2] at z20)
        go_wp2_with (first
         | (go_at_call_of 21 gmb;(with_reducible refine (HPB.out _ HBL.out).mono ?_);rintro e w7 ⟨rfl,rfl⟩)
         | (go_at_call_of 21 gma;(with_reducible refine (HPA.out _ HBL.out).mono ?_);rintro e w7 ⟨rfl,rfl⟩)
         | (go_at_call_of 18 gma;(with_reducible refine (HOA.out _ HBL.out).mono ?_);rintro e w7 ⟨X1,y1,rfl,hr,hb⟩
            have R7:=Aside.mk hr;have B7:=Aside.mk (HBL.out.trans hb)
            clear hr hb)
         | (go_at_call_of 18 gmb;(with_reducible refine (HOB.out _ B7.out).mono ?_);rintro e w8 ⟨X2,y2,rfl,hr,hb⟩
            have HSW:=Aside.mk (same_w (R7.out.keep hb) hr HLO.out.1 (by have:=HLO.out;omega));have B8:=Aside.mk (B7.out.trans hb)
            clear hr hb)
         | (go_at_call 53;(with_reducible refine HSW.out.mono ?_);rintro e w9 ⟨rfl,hb⟩
            have B9:=Aside.mk (B8.out.trans hb)
            clear hb))
        go_ret;exact ⟨rfl,B04.out.trans B9.out⟩
def nmB (b:UInt8):Bool:=b==97 || b==98 || b==99 || b==88 || b==89 || b==90 || b==95 || b==48 || b==49 || b==57 || b==82 || b==109
structure Nm (t:ByteArray) (k:Nat):Prop where
 ex:∃c r,t.data.toList=c::r∧97≤c.toNat∧c.toNat≤122∧r.length≤k∧∀b∈r,nmB b=true
theorem Nm.size {t:ByteArray} {k:Nat} (h:Nm t k):t.size≤k+1:=by
 obtain ⟨c,r,h1,_,_,h2,_⟩:=h.ex
 have:t.data.toList.length=r.length+1:=by rw [h1];rfl
 show t.data.size≤_
 rw [←Array.length_toList];omega
theorem Nm.mono {t:ByteArray} {k k':Nat} (h:Nm t k) (hk:k≤k'):Nm t k':=by
 obtain ⟨c,r,h1,h2,h3,h4,h5⟩:=h.ex;exact ⟨c,r,h1,h2,h3,by omega,h5⟩
theorem Nm.app {t x:ByteArray} {k:Nat} (h:Nm t k) (hx:∃b,x.data.toList=[b]∧nmB b=true):Nm (t++x) (k+1):=by
 obtain ⟨c,r,h1,h2,h3,h4,h5⟩:=h.ex;obtain ⟨b,hb,hnb⟩:=hx;refine ⟨c,r++[b],by rw [ByteArray.data_append,Array.toList_append,h1,hb];rfl,h2,h3,by simp;omega,fun y hy=>?_⟩
 rcases List.mem_append.1 hy with h6 | h6
 · exact h5 y h6
 · have:y=b:=by simpa using h6
   rw [this];exact hnb
theorem nm_one (n:Nat):Nm (strOfNums [97+(n:Int)%26]) 0:=by
 have hl:n%26<26:=Nat.mod_lt _ (by decide);rw [show (97+(n:Int)%26)=((97+n%26:Nat):Int) by omega];generalize n%26=m at hl;refine ⟨⟨_,[],rfl,?_,?_,Nat.le_refl _,fun _ h=>by cases h⟩⟩
 all_goals (show _≤_;simp only [Int.toNat_natCast,UInt8.toNat_ofNat'];omega)
theorem slice_nm (q:Nat) (h:q<12):∃x:ByteArray,(x.size=1∧∃b,x.data.toList=[b]∧nmB b=true)∧∀w:World,(Instr.slice 9 (.string {data:=#[97,98,99,88,89,90,95,48,49,57,82,109]}) (some (.int .i64 (q:Int))) (some (.int .i64 ((q:Int)+1))) none).run Tryz.prog w=.ok (.string x) w:=by
 have:q=0∨q=1∨q=2∨q=3∨q=4∨q=5∨q=6∨q=7∨q=8∨q=9∨q=10∨q=11:=by omega
 rcases this with rfl | rfl | rfl | rfl | rfl | rfl | rfl | rfl | rfl | rfl | rfl | rfl
 · exact ⟨⟨#[97]⟩,⟨rfl,_,rfl,rfl⟩,fun w=>by kernel_rfl⟩
 · exact ⟨⟨#[98]⟩,⟨rfl,_,rfl,rfl⟩,fun w=>by kernel_rfl⟩
 · exact ⟨⟨#[99]⟩,⟨rfl,_,rfl,rfl⟩,fun w=>by kernel_rfl⟩
 · exact ⟨⟨#[88]⟩,⟨rfl,_,rfl,rfl⟩,fun w=>by kernel_rfl⟩
 · exact ⟨⟨#[89]⟩,⟨rfl,_,rfl,rfl⟩,fun w=>by kernel_rfl⟩
 · exact ⟨⟨#[90]⟩,⟨rfl,_,rfl,rfl⟩,fun w=>by kernel_rfl⟩
 · exact ⟨⟨#[95]⟩,⟨rfl,_,rfl,rfl⟩,fun w=>by kernel_rfl⟩
 · exact ⟨⟨#[48]⟩,⟨rfl,_,rfl,rfl⟩,fun w=>by kernel_rfl⟩
 · exact ⟨⟨#[49]⟩,⟨rfl,_,rfl,rfl⟩,fun w=>by kernel_rfl⟩
 · exact ⟨⟨#[57]⟩,⟨rfl,_,rfl,rfl⟩,fun w=>by kernel_rfl⟩
 · exact ⟨⟨#[82]⟩,⟨rfl,_,rfl,rfl⟩,fun w=>by kernel_rfl⟩
 · exact ⟨⟨#[109]⟩,⟨rfl,_,rfl,rfl⟩,fun w=>by kernel_rfl⟩
theorem name_nm (w:World) (s:ByteArray) (hs:s.size≤maxLen) :
 Calls Tryz.prog 29 #[.string s] w fun e w'=>∃t:ByteArray,e=.returned (.string t)∧Nm t 6∧Below w.heap.size w w':=by
 have hconv:∀c:Int,(convert 23 9 (.slice (some ⟨w.heap.size,0,none⟩) 1 1)).run Tryz.prog (w.alloc (.cells #[.int .u8 c] 5))=.ok (.string (strOfNums [c])) (w.alloc (.cells #[.int .u8 c] 5)):=fun c =>
  run_convert_bytes_arg (w.alloc (.cells #[.int .u8 c] 5)) 23 5 Tryz.underlying23 Tryz.underlying5 w.heap.size 0 1 1 [c] rfl (fun i hi=>by
   obtain rfl:i=0:=by omega
   rw [World.cell?_alloc_at _ _ _ _ rfl];rfl) 9 Tryz.underlying9
 have hsz:∀c:Int,(strOfNums [c]).size=1:=fun c=>rfl;have B0:=(Below.refl w.heap.size w).alloc (Nat.le_refl _) (.cells #[.int .u8 (97+(s.size:Int)%26)] 5);have HB:=Aside.mk B0;have HS:=Aside.mk hsz;have HNM:Aside (Nm (strOfNums [97+(s.size:Int)%26]) 0):=⟨nm_one s.size⟩;clear B0 hsz;go_enter Tryz.func29,Tryz.ntmps29
 go_wp2_with fail
 go_loopw [4,5] (fun v i wr=>∃(t:ByteArray) (k:Nat),v=.string t∧i=.int .i64 k∧k≤6∧Aside (Nm t k)∧Aside (Below w.heap.size w wr)) (fun _ i _=>6 - (intOf i).toNat)
 case atStart=>exact ⟨_,0,rfl,rfl,by omega,HNM,HB⟩
 case round =>
  obtain ⟨t,k,rfl,rfl,hk,HT,HW⟩:=hrel
  by_cases h1:k<s.size
  · by_cases h2:k<6
    · go_wp2_with fail
      have hlt:=(s[k]'h1).toNat_lt;generalize hd:(s[k]'h1).toNat=d at hlt
      have hw1:wrap64 (d:Int)=(d:Int):=by simp [wrap64,IntKind.wrap,IntKind.bits,IntKind.signed];omega
      have ht1:(d:Int).tmod 12=((d%12:Nat):Int):=rfl;have hq:d%12<12:=Nat.mod_lt _ (by omega);generalize d%12=q at ht1 hq
      have hw2:wrap64 ((q:Int)+1)=(q:Int)+1:=by simp [wrap64,IntKind.wrap,IntKind.bits,IntKind.signed];omega
      obtain ⟨x,⟨hx1,hxb⟩,hxs⟩:=slice_nm q hq;have HXB:=Aside.mk hxb;clear hxb
      have htx:¬(9223372036854775807<t.size+x.size):=by have:=HT.out.size;omega
      have HX:=Aside.mk hx1;have HXT:Aside (Nm (t++x) (k+1)):=⟨HT.out.app HXB.out⟩
      go_region
      generalize t++x=tx at HXT;have HW2:=Aside.mk HW.out.drew;go_wp2
      go_roundw
      case rel=>exact ⟨tx,k+1,rfl,by go_num,by omega,HXT,HW2⟩
      case measure=>simp [intOf];omega
    · go_wp2
      go_ret;exact ⟨t,rfl,HT.out.mono hk,HW.out⟩
  · go_wp2
    go_ret;exact ⟨t,rfl,HT.out.mono hk,HW.out⟩
end Go.Proofs.YtjmiaemabhlnjaaGreatDoor.Chains.Shifts
end
section
set_option linter.all false
set_option maxRecDepth 20000
namespace Go.Proofs.YtjmiaemabhlnjaaGreatDoor.Chains.Shifts
open Go Go.Op
theorem less_cons (a b:UInt8) (x y:List UInt8):bytesLess (a::x) (b::y)=(decide (a<b) || (a==b&&bytesLess x y)):=by rw [bytesLess]
theorem less_irr:∀l:List UInt8,bytesLess l l=false
 | []=>rfl
 | a::l=>by
   rw [less_cons,less_irr l];have:¬a<a:=fun h=>UInt8.lt_irrefl a h;simp [this]
theorem less_asym:∀x y:List UInt8,bytesLess x y=true→bytesLess y x=false
 | [],[],h=>by simp [bytesLess] at h
 | _::_,[],h=>by simp [bytesLess] at h
 | [],_::_,_=>rfl
 | a::x,b::y,h=>by
   rw [less_cons] at h ⊢
   rcases (Bool.or_eq_true ..).mp h with h1 | h1
   · have h1:=of_decide_eq_true h1
     have h2:¬b<a:=fun h=>UInt8.lt_irrefl a (UInt8.lt_trans h1 h)
     have h3:¬b=a:=fun e=>by subst e;exact UInt8.lt_irrefl _ h1
     simp [h2,h3]
   · obtain ⟨h1,h2⟩:=(Bool.and_eq_true ..).mp h1
     obtain rfl:=eq_of_beq h1;have h3:¬a<a:=fun h=>UInt8.lt_irrefl a h;simp [h3,less_asym x y h2]
theorem less_tri:∀x y:List UInt8,bytesLess x y=false→x≠y→bytesLess y x=true
 | [],[],_,h=>absurd rfl h
 | _::_,[],_,_=>rfl
 | [],_::_,h,_=>by simp [bytesLess] at h
 | a::x,b::y,h,hn=>by
   rw [less_cons] at h ⊢;obtain ⟨h1,h2⟩:=(Bool.or_eq_false_iff).1 h;have h1:=of_decide_eq_false h1
   by_cases e:a=b
   · subst e
     have h2:bytesLess x y=false:=by simpa using h2
     have:=less_tri x y h2 (fun e=>hn (by rw [e]));simp [this]
   · have:b<a:=by
      rcases UInt8.lt_or_lt_of_ne e with h3 | h3
      · exact absurd h3 h1
      · exact h3
     simp [this]
abbrev lt' (x y:ByteArray):Bool:=bytesLess x.toList y.toList
def Up (Y:List (ByteArray×Int)):Prop:=∀j p q,Y[j]? = some p→Y[j+1]? = some q→lt' p.1 q.1=true
theorem up_nil:Up []:=fun j p q h=>by simp at h
theorem up_ins {Y:List (ByteArray×Int)} (h:Up Y) {q:Nat} (hq:q≤Y.length) {t:ByteArray} {z:Int} (h1:∀p,0<q→Y[q - 1]? = some p→lt' p.1 t=true) (h2:∀p,Y[q]? = some p→lt' t p.1=true) :
 Up (Y.take q++(t,z)::Y.drop q):=by
 intro j p r hp hr
 have hl:(Y.take q).length=q:=by simp;omega
 by_cases c1:j+1<q
 · rw [List.getElem?_append_left (by omega),List.getElem?_take_of_lt (by omega)] at hp hr
   exact h j p r hp hr
 · by_cases c2:j+1=q
   · rw [List.getElem?_append_left (by omega),List.getElem?_take_of_lt (by omega)] at hp
     rw [List.getElem?_append_right (by omega),hl,show j+1 - q=0 by omega] at hr
     obtain rfl:(t,z)=r:=by simpa using hr
     exact h1 p (by omega) (by rw [show q - 1=j by omega];exact hp)
   · by_cases c3:j=q
     · subst c3
       rw [List.getElem?_append_right (by omega),hl,Nat.sub_self] at hp;rw [List.getElem?_append_right (by omega),hl,show j+1 - j=1 by omega] at hr
       obtain rfl:(t,z)=p:=by simpa using hp
       exact h2 r (by simpa using hr)
     · rw [List.getElem?_append_right (by omega),hl,show j - q=(j - q - 1)+1 by omega] at hp
       rw [List.getElem?_append_right (by omega),hl,show j+1 - q=(j - q - 1)+1+1 by omega] at hr;rw [List.getElem?_cons_succ,List.getElem?_drop] at hp hr;rw [show q+(j - q - 1)=j - 1 by omega] at hp;rw [show q+(j - q - 1+1)=j - 1+1 by omega] at hr;exact h (j - 1) p r hp hr
end Go.Proofs.YtjmiaemabhlnjaaGreatDoor.Chains.Shifts
end
section
set_option linter.all false
set_option maxRecDepth 20000
namespace Go.Proofs.YtjmiaemabhlnjaaGreatDoor.Chains.Shifts
open Go Go.RowKit Go.Proofs.YtjmiaemabhlnjaaGreatDoor.Chains
structure Inv1 (W0 wr:World) (gb g m cap:Nat) (D:Option Addr) (d ms:Nat) (S:List Nat) (j:Nat):Prop where
 ex:∃l:List Int,Ow wr W0.heap.size g m cap l∧(∀x∈l,0≤x∧x<4294967296)∧∀s∈S.take j,∀x,l[s]? = some x→0≤x∧x≤4*(m:Int)
 bx:Bx wr gb (.slice (some ⟨g,0,none⟩) m cap) (.slice D ms d) (.slice none 0 0)
 rd:RdI wr D d S
 bl:Bl W0 wr
 ne:0<m→g≠gb
 sb:∀ad,D=some ad→(0<m→ad.block≠g)∧ad.block≠gb∧W0.heap.size≤ad.block
theorem Inv1.step {W0 wr:World} {gb g m cap:Nat} {D:Option Addr} {d ms:Nat} {S:List Nat} {j s:Nat} {lj:List Int} {x:Int} (h:Inv1 W0 wr gb g m cap D d ms S j) (hm:m≤40) (hS:Rise S m) (hf:S[j]? = some s)
 (hOw:Ow wr W0.heap.size g m cap lj) (hall:∀x∈lj,0≤x∧x<4294967296) (hsm:∀s∈S.take j,∀x,lj[s]? = some x→0≤x∧x≤4*(m:Int)) (hlx:lj[s]? = some x) :
 Inv1 W0 (wr.setCell ⟨g,s,none⟩ (.int .u32 (x%(4*(m:Int)+1)))).drew gb g m cap D d ms S (j+1):=by
 have hsm0:s<m:=hS.lt s (List.mem_of_getElem? hf)
 have hm0:0<m:=by omega
 have hb:=rise_before hS j s hf;have hy0:0≤x%(4*(m:Int)+1):=Int.emod_nonneg _ (by omega);have hy1:x%(4*(m:Int)+1)<4*(m:Int)+1:=Int.emod_lt_of_pos _ (by omega);generalize x%(4*(m:Int)+1)=y at hy0 hy1;have hd:∀{w:World},Bl w w.drew:=(Bl.refl _).drew;have hsl:s<lj.length:=(List.getElem?_eq_some_iff.1 hlx).1;refine ⟨⟨lj.set s y,(hOw.put s y).keep hd,?_,?_⟩,(h.bx.off (h.ne hm0) s _).keep hd,(h.rd.off (fun ad ha=>(h.sb ad ha).1 hm0) s _).keep hd,(h.bl.puts (p:=⟨g,s,none⟩) (hOw.own hm0).1 _).drew,h.ne,h.sb⟩
 · intro z hz
   rcases List.mem_or_eq_of_mem_set hz with h1 | h1
   · exact hall z h1
   · subst h1;omega
 · intro s' hs' z hz
   rw [take_snoc S j s hf] at hs'
   rcases List.mem_append.1 hs' with h1 | h1
   · have:=hb s' h1
     rw [List.getElem?_set_ne (by omega)] at hz;exact hsm s' h1 z hz
   · obtain rfl:s'=s:=by simpa using h1
     rw [List.getElem?_set_self hsl] at hz;obtain rfl:=Option.some.inj hz;omega
structure Inv2 (W0 wr:World) (gb g m cap:Nat) (D:Option Addr) (d ms:Nat) (S:List Nat) (E:Option Addr) (f k:Nat) (Y:List (ByteArray×Int)):Prop where
 wd:∃l,Ow wr W0.heap.size g m cap l∧(∀x∈l,0≤x∧x<4294967296)∧∀s∈S,∀x,l[s]? = some x→0≤x∧x≤4*(m:Int)
 bx:Bx wr gb (.slice (some ⟨g,0,none⟩) m cap) (.slice D ms d) (.slice E k f)
 rd:RdI wr D d S
 rs:RdS wr E f Y
 ky:Y.length=k
 up:Up Y
 gd:∀p∈Y,Nm p.1 6∧0≤p.2∧p.2≤4*(m:Int)∧p.2%4=0
 bl:Bl W0 wr
 gw:W0.heap.size≤gb
 ne:0<m→g≠gb
 sb:∀ad,D=some ad→ad.block≠gb∧W0.heap.size≤ad.block
 eb:∀ad,E=some ad→ad.block≠gb∧W0.heap.size≤ad.block
theorem Inv2.move {W0 wr w':World} {gb g m cap:Nat} {D:Option Addr} {d ms:Nat} {S:List Nat} {E:Option Addr} {f k:Nat} {Y:List (ByteArray×Int)} (h:Inv2 W0 wr gb g m cap D d ms S E f k Y) (hb:Bl wr w'):Inv2 W0 w' gb g m cap D d ms S E f k Y:=by
 obtain ⟨l,h1,h0,h2⟩:=h.wd;exact ⟨⟨l,h1.keep hb,h0,h2⟩,h.bx.keep hb,h.rd.keep hb,h.rs.keep hb,h.ky,h.up,h.gd,h.bl.trans hb,h.gw,h.ne,h.sb,h.eb⟩
theorem Inv2.store {W0 wr:World} {gb g m cap:Nat} {D:Option Addr} {d ms:Nat} {S:List Nat} {E E':Option Addr} {f k f' k':Nat} {Y Y':List (ByteArray×Int)} (h:Inv2 W0 wr gb g m cap D d ms S E f k Y)
 (hr:RdS wr E' f' Y') (hk:Y'.length=k') (hu:Up Y') (hg:∀p∈Y',Nm p.1 6∧0≤p.2∧p.2≤4*(m:Int)∧p.2%4=0) (he:∀ad,E'=some ad→ad.block≠gb∧W0.heap.size≤ad.block):Inv2 W0 (wr.setCell ⟨gb,2,none⟩ (.slice E' k' f')) gb g m cap D d ms S E' f' k' Y':=by
 obtain ⟨l,h1,h0,h2⟩:=h.wd;exact ⟨⟨l,h1.off h.ne 2 _,h0,h2⟩,h.bx.set2 _,h.rd.off (fun ad ha=>(h.sb ad ha).1) 2 _,hr.off (fun ad ha=>(he ad ha).1) 2 _,hk,hu,hg,h.bl.puts (p:=⟨gb,2,none⟩) h.gw _,h.gw,h.ne,h.sb,he⟩
def FitPost (w:World) (e:Ending) (w':World):Prop :=
 ∃(g m cap:Nat) (D:Option Addr) (d ms:Nat) (S:List Nat) (E:Option Addr) (f k:Nat) (Y:List (ByteArray×Int)) (l:List Int),
  e=.returned (.agg #[.slice (some ⟨g,0,none⟩) m cap,.slice D ms d,.slice E k f])∧Rd w' (some ⟨g,0,none⟩) cap l∧l.length=m∧m≤40∧RdI w' D d S∧S.length=ms∧Rise S m∧(∀s∈S,∀x,l[s]? = some x→0≤x∧x≤4*(m:Int))∧RdS w' E f Y∧Y.length=k∧k≤8∧Up Y∧(∀p∈Y,Nm p.1 6∧0≤p.2∧p.2≤4*(m:Int)∧p.2%4=0)∧(∀x∈l,0≤x∧x<4294967296)∧Bl w w'
theorem Inv2.fin {w W0 wr:World} {gb g m cap:Nat} {D:Option Addr} {d ms:Nat} {S:List Nat} {E:Option Addr} {f k:Nat} {Y:List (ByteArray×Int)} (h:Inv2 W0 wr gb g m cap D d ms S E f k Y) (hb:Bl w W0) {T:Nat} (hT:w.heap.size≤T) (hT2:T<W0.heap.size)
 (hm:m≤40) (hS:Rise S m) (hms:S.length=ms) (hk:k≤8) (a b c:Value) :
 FitPost w (.returned (.agg #[.slice (some ⟨g,0,none⟩) m cap,.slice D ms d,.slice E k f])) (((wr.setCell ⟨T,0,none⟩ a).setCell ⟨T,1,none⟩ b).setCell ⟨T,2,none⟩ c):=by
 obtain ⟨l,h1,h0,h2⟩:=h.wd
 have hg:0<m→g≠T:=fun hm0=>by have:=(h1.own hm0).1;omega
 have hd:∀ad,D=some ad→ad.block≠T:=fun ad ha=>by have:=(h.sb ad ha).2;omega
 have he:∀ad,E=some ad→ad.block≠T:=fun ad ha=>by have:=(h.eb ad ha).2;omega
 exact ⟨g,m,cap,D,d,ms,S,E,f,k,Y,l,rfl,(((h1.off hg 0 a).off hg 1 b).off hg 2 c).rd,h1.len,hm,((h.rd.off hd 0 a).off hd 1 b).off hd 2 c,hms,hS,h2,((h.rs.off he 0 a).off he 1 b).off he 2 c,h.ky,hk,h.up,h.gd,h0,
  (((hb.trans h.bl).puts (p:=⟨T,0,none⟩) hT a).puts (p:=⟨T,1,none⟩) hT b).puts (p:=⟨T,2,none⟩) hT c⟩
theorem Inv2.start {W0 wr:World} {gb g m cap:Nat} {D:Option Addr} {d ms:Nat} {S:List Nat} (h:Inv1 W0 wr gb g m cap D d ms S ms) (hS:S.length=ms) (hg:W0.heap.size≤gb):Inv2 W0 wr gb g m cap D d ms S none 0 0 []:=by
 obtain ⟨l,h1,h0,h2⟩:=h.ex;rw [List.take_of_length_le (by omega)] at h2;exact ⟨⟨l,h1,h0,h2⟩,h.bx,h.rd,⟨Nat.le_refl _,fun _=>⟨rfl,rfl⟩,fun _ e=>(by cases e)⟩,rfl,up_nil,(fun _ h=>by cases h),h.bl,hg,h.ne,fun ad ha=>(h.sb ad ha).2,fun _ e=>(by cases e)⟩
theorem place_in {m x j y1 y2 y3:Int} (hm:0≤m∧m≤40) (hx:0≤x∧x≤140737488355328) (hj:0≤j∧j≤8) (h1:IntKind.i64.wrap (x+j)=y1) (h2:y1.tmod (m+1)=y2) (h3:IntKind.i64.wrap (4*y2)=y3):0≤y3∧y3≤4*m∧y3%4=0:=by
 have e1:IntKind.i64.wrap (x+j)=x+j:=by simp [IntKind.wrap,IntKind.bits,IntKind.signed];omega
 rw [e1] at h1;rw [Int.tmod_eq_emod_of_nonneg (by omega)] at h2;have h4:=Int.emod_nonneg y1 (show m+1≠0 by omega);have h5:=Int.emod_lt_of_pos y1 (show 0<m+1 by omega)
 have e3:IntKind.i64.wrap (4*y2)=4*y2:=by simp [IntKind.wrap,IntKind.bits,IntKind.signed];omega
 rw [e3] at h3;omega
theorem gd_ins {Y:List (ByteArray×Int)} {m:Nat} (h:∀p∈Y,Nm p.1 6∧0≤p.2∧p.2≤4*(m:Int)∧p.2%4=0) {t:ByteArray} {z:Int} (ht:Nm t 6) (hz:0≤z∧z≤4*(m:Int)∧z%4=0) (q:Nat) :
 ∀p∈([]++Y.take q)++([(t,z)]++Y.drop q),Nm p.1 6∧0≤p.2∧p.2≤4*(m:Int)∧p.2%4=0:=by
 intro p hp;simp only [List.nil_append,List.mem_append,List.mem_singleton] at hp
 rcases hp with h1 | rfl | h1
 · exact h p (List.mem_of_mem_take h1)
 · exact ⟨ht,hz⟩
 · exact h p (List.mem_of_mem_drop h1)
theorem le_max {x:ByteArray} (h:x.size≤140737488355328):x.size≤maxLen:=by unfold maxLen;omega
theorem take_lt {Y:List (ByteArray×Int)} {t p:ByteArray} {z:Int} {q:Nat} (h:∀r∈Y.take q,lt' r.1 t=true) (hq:Y[q]? = some (p,z)) (hl:Op.bytesLess p.toList t.toList=true):∀r∈Y.take (q+1),lt' r.1 t=true:=by
 intro r hr;rw [take_snoc Y q (p,z) hq] at hr
 rcases List.mem_append.1 hr with h1 | h1
 · exact h r h1
 · obtain rfl:r=(p,z):=by simpa using h1
   exact hl
theorem mem_take' {Y:List (ByteArray×Int)} {q:Nat} {p:ByteArray×Int} (h0:0<q) (h:Y[q - 1]? = some p):p∈Y.take q:=by
 refine List.mem_of_getElem? (i:=q - 1) ?_;rw [List.getElem?_take_of_lt (by omega)];exact h
theorem up_mid {Y:List (ByteArray×Int)} {t p:ByteArray} {z:Int} {q:Nat} (hu:Up Y) (h:∀r∈Y.take q,lt' r.1 t=true) (hq:Y[q]? = some (p,z)) (hl:Op.bytesLess p.toList t.toList=false) (hn:(p.toList==t.toList)=false) (y:Int):Up (([]++Y.take q)++([(t,y)]++Y.drop q)):=by
 have hql:q<Y.length:=(List.getElem?_eq_some_iff.1 hq).1
 have:=up_ins hu (q:=q) (by omega) (t:=t) (z:=y) (fun r h0 hr=>h r (mem_take' h0 hr)) (fun r hr=>by
  obtain rfl:=Option.some.inj (hq.symm.trans hr)
  exact less_tri _ _ hl (fun e=>by rw [e] at hn;simp at hn))
 simpa using this
theorem up_end {Y:List (ByteArray×Int)} {t:ByteArray} {q:Nat} (hu:Up Y) (h:∀r∈Y.take q,lt' r.1 t=true) (hq:q=Y.length) (y:Int):Up (([]++Y.take q)++([(t,y)]++Y.drop q)):=by
 have:=up_ins hu (q:=q) (by omega) (t:=t) (z:=y) (fun r h0 hr=>h r (mem_take' h0 hr)) (fun r hr=>by
  have:=(List.getElem?_eq_some_iff.1 hr).1
  omega)
 simpa using this
set_option maxHeartbeats 8000000 in
theorem fitS_any {w:World} {A B N:Option Addr} {c lb cb cn:Nat} {l:List Int} {b:List Nat} {nm:List ByteArray} (n nn:Nat)
 (hA:Aside (Rd w A c l)) (hn:Aside (l.length=n)) (hlow:Aside (∀x∈l,0≤x∧x<4294967296)) (h63:n≤9223372036854775807)
 (hl:b.length=lb) (hlc:lb≤cb) (h63b:lb≤9223372036854775807) (hb:∀ad,B=some ad→∀(i x:Nat),b[i]? = some x→w.cell? (ad.add i)=some (.int .u8 (x:Int))) (hnil:B=none→lb=0) (h256:∀x∈b,x<256)
 (hN:Aside (RdN w N cn nm)) (hnn:Aside (nm.length=nn)) (hns:Aside (∀x∈nm,x.size≤140737488355328)) :
 Calls Tryz.prog 9 #[.slice A n c,.slice B lb cb,.slice N nn cn] w fun e w'=>FitPost w e w':=by
 obtain ⟨i0,hi,hz0,hz1,hz2⟩:=info_parts infoU;have HB:=Aside.mk hb;have HL:=Aside.mk hl;have H256:=Aside.mk h256;have HBn:=Aside.mk hnil;have hc:=hA.out.le;rw [hn.out] at hc;have hcm:=hA.out.mx;unfold maxLen at hcm;clear hb hl h256 hnil;obtain ⟨m,hmin,hm40,hmn⟩:∃m:Nat,min (n:Int) 40=m∧m≤40∧m≤n:=⟨min n 40,by omega,by omega,by omega⟩;have hsl:∀wx,(Instr.slice 22 (.slice A n c) none (some (.int .i64 (m:Int))) none).run Tryz.prog wx=.ok (.slice A m c) wx:=slice_u32 hmn hc (fun e=>by obtain ⟨h1,h2⟩:=hA.out.nil e;have:=hn.out;rw [h1] at this;exact ⟨by simpa using this.symm,h2⟩)
 have RA:Aside (∀wx,Bl w wx→Rd wx A c (l.take m)):=⟨fun wx hb=>(hA.out.take m).keep hb⟩;have LA:Aside ((l.take m).length=m):=⟨by rw [List.length_take];have:=hn.out;omega⟩;have OE:Aside (((w.alloc (.cells #[.slice none 0 0,.slice none 0 0,.slice none 0 0] 34)).alloc (.cells #[] 56)).ownsRow (w.heap.size+1) 56 1 (.slice (some ⟨w.heap.size+1,0,none⟩) 0 0) 0 []):=⟨⟨rfl,.inr ⟨w.heap.size+1,0,#[],rfl,by omega,by simpa using heap_alloc_new (w.alloc (.cells #[.slice none 0 0,.slice none 0 0,.slice none 0 0] 34)) (.cells #[] 56),Nat.le_refl _,by decide,rfl,rfl⟩⟩⟩
 obtain ⟨W0,hW0⟩:∃W0,W0=w.alloc (.cells #[.slice none 0 0,.slice none 0 0,.slice none 0 0] 34):=⟨_,rfl⟩
 have hs0:W0.heap.size=w.heap.size+1:=by rw [hW0];simp
 have HW0:=Aside.mk hW0;have BX0:Aside (Bx W0 w.heap.size (.slice none 0 0) (.slice none 0 0) (.slice none 0 0)):=⟨by rw [hW0];exact Bx.new w _ _ _⟩;have BW0:Aside (Bl w W0):=⟨by rw [hW0];exact (Bl.refl w).alloc _⟩;have BE:Aside (Bl W0 (W0.alloc (.cells #[] 56))):=⟨(Bl.refl _).alloc _⟩;have BE0:Aside (Bl w ((w.alloc (.cells #[.slice none 0 0,.slice none 0 0,.slice none 0 0] 34)).alloc (.cells #[] 56))):=⟨((Bl.refl w).alloc _).alloc _⟩
 obtain ⟨S,hSdef⟩:∃S,sitesTo b (min m lb)=S:=⟨_,rfl⟩;obtain ⟨ms,hms⟩:∃ms,S.length=ms:=⟨_,rfl⟩;have HR:=Aside.mk (sites_rise b (min m lb) m (by omega));rw [hSdef] at HR
 have HS28:Aside (∀wx,Bl W0 wx→Calls Tryz.prog 28 #[.slice B lb cb,.int .i64 m] wx fun e w'=>∃D d,e=.returned (.slice D ms d)∧RdI w' D d S∧(∀ad,D=some ad→wx.heap.size≤ad.block∧ad.block<w'.heap.size)∧Bl wx w') :=
  ⟨fun wx hb=>sites_rd wx B lb cb m b hm40 HL.out hlc h63b (fun ad ha i x hx=>(BW0.out.trans hb).cell (HB.out ad ha i x hx)) HBn.out H256.out S ms hSdef hms⟩
 have HMS:=Aside.mk hms
 have hms40:ms≤40:=by have:=rise_len HR.out;omega
 clear hSdef hms hW0;go_enter Tryz.func9,Tryz.ntmps9
 go_wp2_with (first
  | (at_builtin;refine append_u32 rfl (.tmp 14) (.tmp 19) rfl (w.heap.size+1) (w.heap.size+1) rfl OE.out A m c (l.take m) rfl LA.out (RA.out _ BE0.out) (by omega) (by simp) ?_;rw [←HW0.out,←hs0];intro g cap w1 how hgr
     have HO:=Aside.mk how;have HB1:=Aside.mk (BE.out.grow hgr (fun g' hg'=>by have:=Option.some.inj hg';omega))
     clear how hgr)
  | (with_reducible refine (HS28.out _ (HB1.out.alloc _)).mono ?_;rintro e w2 ⟨D,d,rfl,hrd,hlt,hb2⟩
     have BX2:=(Bx.new w1 (.slice (some ⟨g,0,none⟩) m cap) (.slice none 0 0) (.slice none 0 0)).keep hb2;obtain ⟨bc0,bc1,bc2⟩:=BX2.cell;have bf1:=BX2.frz 1;have HBX2:=Aside.mk BX2;have HRD2:=Aside.mk hrd;have HLT2:=Aside.mk hlt;have HB2:=Aside.mk ((HB1.out.alloc _).trans hb2);have HO2:=Aside.mk ((HO.out.keep ((Bl.refl w1).alloc (.cells #[.slice (some ⟨g,0,none⟩) m cap,.slice none 0 0,.slice none 0 0] 34))).keep hb2)
     clear BX2 hrd hlt hb2)
  | fail)
 have hbx3:=HBX2.out.set1 (.slice D ms d);have hgn:∀h:0<m,g<w1.heap.size:=fun h=>HO.out.lt h
 have hne:∀h:0<m,g≠w1.heap.size:=fun h=>by have:=hgn h;omega
 have hsb:∀ad,D=some ad→(0<m→ad.block≠g)∧ad.block≠w1.heap.size∧W0.heap.size≤ad.block:=fun ad ha=>by
  have hz:=HB1.out.out.size;have h1:=(HLT2.out ad ha).1;simp at h1;exact ⟨fun h e=>by have:=hgn h;omega,by omega,by omega⟩
 have hrd3:=HRD2.out.off (g':=w1.heap.size) (fun ad ha=>(hsb ad ha).2.1) 1 (.slice D ms d);have hB3:=HB2.out.puts (p:=⟨w1.heap.size,1,none⟩) HB1.out.out.size (.slice D ms d);have hO3:=HO2.out.off (g':=w1.heap.size) hne 1 (.slice D ms d)
 have HI:Aside (Inv1 W0 (w2.setCell ⟨w1.heap.size,1,none⟩ (.slice D ms d)) w1.heap.size g m cap D d ms S 0) :=
  ⟨⟨⟨l.take m,hO3,fun x hx=>hlow.out x (List.mem_of_mem_take hx),fun s hs=>(by simp at hs)⟩,hbx3,hrd3,hB3,hne,hsb⟩⟩
 clear hbx3 hgn hne hsb hrd3 hB3 hO3 bc0 bc1 bc2 bf1;generalize hW3:w2.setCell ⟨w1.heap.size,1,none⟩ (.slice D ms d)=W3 at HI ⊢;have HGB:Aside (W0.heap.size≤w1.heap.size):=⟨HB1.out.out.size⟩;generalize w1.heap.size=gb at HI HGB ⊢;clear hW3
 go_loopw [9] (fun i wr=>∃j:Nat,i=.int .i64 j∧j≤ms∧Aside (Inv1 W0 wr gb g m cap D d ms S j)) (fun i _=>ms - (intOf i).toNat)
 case atStart=>exact ⟨0,rfl,by omega,HI⟩
 case round =>
  obtain ⟨j,rfl,hj,HI1⟩:=hrel;have BXj:=Aside.mk HI1.out.bx;obtain ⟨bc0,bc1,bc2⟩:=BXj.out.cell
  by_cases hlt:j<ms
  · obtain ⟨s,hf⟩:∃s,S[j]? = some s:=⟨_,List.getElem?_eq_getElem (by have:=HMS.out;omega)⟩
    obtain ⟨ad,rfl⟩:∃ad,D=some ad:=by
     cases D with
     | some ad=>exact ⟨ad,rfl⟩
     | none =>
       have:=(HI1.out.rd.nil rfl).1;rw [this] at hf;simp at hf
    have hmsd:ms≤d:=by have:=HI1.out.rd.le;have:=HMS.out;omega
    have hcs:=HI1.out.rd.cells ad rfl j s hf;have hsn:=HR.out.lt s (List.mem_of_getElem? hf);obtain ⟨lj,hOw,hall,hsm⟩:=HI1.out.ex;obtain ⟨x,hlx⟩:∃x,lj[s]? = some x:=⟨_,List.getElem?_eq_getElem (by have:=hOw.len;omega)⟩;obtain ⟨hx0,hx1⟩:=hall x (List.mem_of_getElem? hlx);obtain ⟨hcx,hcf,hgb⟩:=hOw.at hlx;have hmc:=hOw.le;have HOw:=Aside.mk hOw;have HAll:=Aside.mk hall;have HLT:=Aside.mk hlt;have HSm:=Aside.mk hsm
    have HF:=Aside.mk hf;have HLX:=Aside.mk hlx;clear hOw hall hsm hf hlx
    have hw1:wrap64 (4*(m:Int))=4*(m:Int):=by simp [wrap64,IntKind.wrap,IntKind.bits,IntKind.signed];omega
    have hw2:wrap64 (4*(m:Int)+1)=4*(m:Int)+1:=by simp [wrap64,IntKind.wrap,IntKind.bits,IntKind.signed];omega
    have hw3:IntKind.u32.wrap (4*(m:Int)+1)=4*(m:Int)+1:=by simp [IntKind.wrap,IntKind.bits,IntKind.signed];omega
    go_wp2_with fail
    go_region
    have HN1:=Aside.mk (HI1.out.step hm40 HR.out HF.out HOw.out HAll.out HSm.out HLX.out);generalize (wr.setCell ⟨g,s,none⟩ (.int .u32 (x%(4*(m:Int)+1)))).drew=wn at HN1 ⊢;go_wp2
    go_roundw
    case rel=>exact ⟨j+1,by go_num,HLT.out,HN1⟩
    case measure=>have:=HLT.out;simp [intOf];omega
  · obtain rfl:ms=j:=by omega
    have HI2:=Aside.mk (Inv2.start HI1.out HMS.out HGB.out)
    go_wp2_with fail
    clear HI1 BXj bc0 bc1 bc2;obtain ⟨wo,hwo⟩:∃x,x=wr:=⟨_,rfl⟩;subst hwo
    go_loopw [10] (fun i wr=>∃(j:Nat) (E:Option Addr) (f k:Nat) (Y:List (ByteArray×Int)),i=.int .i64 j∧j≤nn∧j≤8∧k≤j∧Aside (Inv2 W0 wr gb g m cap D d ms S E f k Y)) (fun i _=>8 - (intOf i).toNat)
    case atStart=>exact ⟨0,_,_,0,_,rfl,by omega,by omega,by omega,HI2⟩
    case round =>
     obtain ⟨j,E,f,k,Y,rfl,hj,hj8,hkj,HI3⟩:=hrel;obtain ⟨bc0,bc1,bc2⟩:=HI3.out.bx.cell;have HBT:=Aside.mk (BX0.out.keep HI3.out.bl);obtain ⟨tc0,tc1,tc2⟩:=HBT.out.cell;have tf0:=HBT.out.frz 0;have tf1:=HBT.out.frz 1;have tf2:=HBT.out.frz 2
     by_cases h1:j<nn
     · by_cases h2:j<8
       · obtain ⟨x,hf⟩:∃x,nm[j]? = some x:=⟨_,List.getElem?_eq_getElem (by have:=hnn.out;omega)⟩
         obtain ⟨ad,rfl⟩:∃ad,N=some ad:=by
          cases N with
          | some ad=>exact ⟨ad,rfl⟩
          | none =>
            have:=(hN.out.nil rfl).1;rw [this] at hf;simp at hf
         have hnc:nn≤cn:=by have:=hN.out.le;have:=hnn.out;omega
         have hcx:=(BW0.out.trans HI3.out.bl).cell (hN.out.cells ad rfl j x hf);have hxs:=hns.out x (List.mem_of_getElem? hf);have HCX:=Aside.mk hcx;have HH1:=Aside.mk h1;clear hf
         go_wp2_with (first
          | (with_reducible refine (name_nm _ _ (le_max hxs)).mono ?_;rintro e w3 ⟨t,rfl,ht7,hb3⟩
             have HT7:=Aside.mk ht7;have HB3:=Aside.mk hb3;have HI4:=Aside.mk (HI3.out.move ⟨hb3⟩)
             clear ht7 hb3)
          | fail)
         clear bc0 bc1 bc2 tc0 tc1 tc2 tf0 tf1 tf2 hcx HBT;have BW3:=Aside.mk (Bl.mk HB3.out);obtain ⟨bd0,bd1,bd2⟩:=HI4.out.bx.cell;have hc3:=BW3.out.cell HCX.out
         have hk8:k≤8:=by omega
         have hkf:k≤f:=by have:=HI4.out.rs.le;have:=HI4.out.ky;omega
         obtain ⟨wo,hwo⟩:∃y,y=wr:=⟨_,rfl⟩;subst hwo
         go_loopw [12] (fun at_ wr=>∃q:Nat,at_=.int .i64 q∧q≤k∧Aside (wr=w3)∧Aside (∀p∈Y.take q,lt' p.1 t=true)) (fun at_ _=>k - (intOf at_).toNat)
         case atStart=>exact ⟨0,rfl,by omega,⟨rfl⟩,⟨fun p h=>by simp at h⟩⟩
         case round =>
          obtain ⟨q,rfl,hq,HWQ,HLQ⟩:=hrel;obtain rfl:=HWQ.out
          by_cases hqk:q<k
          · obtain ⟨⟨p,z⟩,hfy⟩:∃u,Y[q]? = some u:=⟨_,List.getElem?_eq_getElem (by have:=HI4.out.ky;omega)⟩
            obtain ⟨ae,rfl⟩:∃ae,E=some ae:=by
             cases E with
             | some ae=>exact ⟨ae,rfl⟩
             | none =>
               have:=(HI4.out.rs.nil rfl).1;rw [this] at hfy;simp at hfy
            obtain ⟨e0,e1⟩:=HI4.out.rs.at hfy
            dsimp only at e0 e1
            have HFY:=Aside.mk hfy;clear hfy;have HQK:=Aside.mk hqk;obtain ⟨E,hE⟩:∃E,E=some ae:=⟨_,rfl⟩
            go_wp2_with fail
            · have HLT:=Aside.mk (show Op.bytesLess p.toList t.toList=true by assumption)
              exact ⟨⟨q+1,by simp,by have:=HQK.out;omega,⟨trivial⟩,⟨take_lt HLQ.out HFY.out HLT.out⟩⟩,by have:=HQK.out;simp [intOf];omega⟩
            · exact ⟨⟨j+1,some ae,f,k,Y,by simp,by have:=HH1.out;omega,by omega,by omega,HI4⟩,by simp [intOf];omega⟩
            · have HNL:=Aside.mk (show Op.bytesLess p.toList t.toList=false by assumption)
              have HNE:=Aside.mk (show (p.toList==t.toList)=false by assumption);rw [←hE] at HI4 bd2;clear hE
              have hzero:¬((m:Int)+1=0):=by omega
              have hw5:IntKind.i64.wrap ((m:Int)+1)=(m:Int)+1:=by simp [IntKind.wrap,IntKind.bits,IntKind.signed];omega
              obtain ⟨y1,hy1⟩:∃y,IntKind.i64.wrap ((x.size:Int)+(j:Int))=y:=⟨_,rfl⟩;obtain ⟨y2,hy2⟩:∃y,y1.tmod ((m:Int)+1)=y:=⟨_,rfl⟩;obtain ⟨y3,hy3⟩:∃y,IntKind.i64.wrap (4*y2)=y:=⟨_,rfl⟩;have HPL:=Aside.mk (place_in (m:=(m:Int)) (x:=(x.size:Int)) (j:=(j:Int)) ⟨by omega,by omega⟩ ⟨by omega,by omega⟩ ⟨by omega,by omega⟩ hy1 hy2 hy3);have HUP:Aside (Up (([]++Y.take q)++([(t,y3)]++Y.drop q))):=⟨up_mid HI4.out.up HLQ.out HFY.out HNL.out HNE.out y3⟩
              obtain ⟨E2,f2,k2,hk2,hsl2,hrd2,hl2⟩:=slice_from (Y:=Y) (E:=E) (f:=f) HI4.out.ky hq hkf (fun e=>by obtain ⟨h1,h2⟩:=HI4.out.rs.nil e;have:=HI4.out.ky;rw [h1] at this;exact ⟨by simpa using this.symm,h2⟩)
              have hk2b:1+k2≤1001:=by omega
              have HRD2:=Aside.mk hrd2;have HL2:=Aside.mk hl2;have BR:Bl wr wr:=Bl.refl _;have OE1:Aside ((wr.alloc (.cells #[.string t,.int .i64 y3] 82)).ownsRow wr.heap.size 82 2 (.slice (some ⟨wr.heap.size,0,none⟩) 1 1) 1 (flat [(t,y3)])):=⟨World.ownsRow_lit wr #[.string t,.int .i64 y3] 1 (Nat.le_refl _) (by decide) rfl⟩;have BE1:Aside (Bl wr (wr.alloc (.cells #[.string t,.int .i64 y3] 82))):=⟨BR.alloc _⟩
              clear hrd2 hl2 e0 e1
              go_region_held3 (fun w'=>Bl wr w'∧w'.cell? ⟨gb,2,none⟩=some (.slice E k f)∧w'.cell? (ad.add j)=some (.string x)) (((refine keepS bd2 hc3 ?_);(repeat (first | (with_reducible assumption) | refine Bl.drew ?_ | refine Bl.alloc ?_ _));done)) (first | (refine step_syms (.tmp 118) (.tmp 122) wr.heap.size (.slice (some ⟨wr.heap.size,0,none⟩) 1 1) 1 [(t,y3)] OE1.out.drew E2 k2 f2 (Y.drop q) HL2.out (HRD2.out _ (HI4.out.rs.keep (Bl.drew BE1.out))) hk2b (Bl.drew BE1.out).out.size ?_ ?_ ?_ ?_ ?_;rfl;rfl;rfl;rfl;intro v2 w2 hown2 hgrow2;have hG2:Bl wr w2:=(Bl.drew BE1.out).grow hgrow2 (fun g e=>(by obtain rfl:wr.heap.size=g:=Option.some.inj e;omega))) | (fail "none"))
              obtain ⟨n2,hn2⟩:∃n2,1+k2=n2:=⟨_,rfl⟩;rw [hn2] at hown2;obtain ⟨A2,c2,rfl,hr2,hlen2,hb2⟩:=RdS.own hown2;have hgz:=HI4.out.bx.lt;have hgs:=hG2.out.size
              have hg2z:gb<w2.heap.size:=by omega
              have b2:=hG2.cell bd2;have HBX2b:=Aside.mk (HI4.out.bx.keep hG2);have HG2:=Aside.mk hG2;have HR2:=Aside.mk hr2;have HL2b:=Aside.mk hlen2;have hsl3:=slice_to (E:=E) (f:=f) hq hkf (fun e=>by obtain ⟨h1,h2⟩:=HI4.out.rs.nil e;have:=HI4.out.ky;rw [h1] at this;exact ⟨by simpa using this.symm,h2⟩);have HE2:=Aside.mk ((HI4.out.rs.keep hG2).take q);have HLq:Aside ((Y.take q).length=q):=⟨by rw [List.length_take];have:=HI4.out.ky;omega⟩
              have OE2:=Aside.mk (own_made w2 82 2 w2.heap.size (Nat.le_refl _));have BE2:Aside (Bl w2 (w2.alloc (.cells #[] 82))):=⟨(Bl.refl w2).alloc _⟩
              have hq1:0+q≤1001:=by omega
              have hq2:0+q+n2≤1001:=by omega
              obtain ⟨n5,hn5⟩:∃n5,0+q+n2=n5:=⟨_,rfl⟩;have HN5:=Aside.mk hn5;have HN2:=Aside.mk hn2;clear hown2 hgrow2 hG2 hr2 hlen2 hn2 hn5 bd0 bd1 bd2
              go_wp2_with (first
               | (at_builtin;refine append_syms rfl (.tmp 124) (.tmp 128) rfl w2.heap.size (.slice (some ⟨w2.heap.size,0,none⟩) 0 0) 0 [] rfl OE2.out E q f (Y.take q) rfl HLq.out (HE2.out.keep BE2.out) hq1 BE2.out.out.size ?_;intro v4 w4 hown4 hgrow4
                  have HG4:=Aside.mk (BE2.out.grow hgrow4 (fun g' hg'=>by have e:w2.heap.size=g':=Option.some.inj hg';omega));have HO4:=Aside.mk hown4;have HR4:=Aside.mk (HR2.out.keep HG4.out);have b4:=HG4.out.cell b2
                  clear hown4 hgrow4)
               | (at_builtin;refine append_syms rfl (.tmp 129) (.tmp 130) rfl w2.heap.size v4 (0+q) ([]++Y.take q) rfl HO4.out A2 n2 c2 ([(t,y3)]++Y.drop q) rfl HL2b.out HR4.out hq2 HG4.out.out.size ?_;intro v5 w5 hown5 hgrow5
                  have HG5:=Aside.mk (HG4.out.grow hgrow5 (fun g' hg'=>(HO4.out.lt g' hg').1));rw [HN5.out] at hown5;obtain ⟨A5,c5,rfl,hr5,hlen5,hb5⟩:=RdS.own hown5;have b5:=HG5.out.cell b2;have bf5:=(HBX2b.out.keep HG5.out).frz 2;have HR5:=Aside.mk hr5;have HL5:=Aside.mk hlen5;have HB5:=Aside.mk hb5
                  clear hown5 hgrow5 hr5 hlen5 hb5)
               | fail)
              have HI5:=Aside.mk (((HI4.out.move HG2.out).move HG5.out).store HR5.out HL5.out HUP.out (gd_ins HI4.out.gd HT7.out HPL.out q) (fun ad ha=>by have:=HB5.out ad ha;have:=HI4.out.gw;have:=hgz;exact ⟨by omega,by omega⟩));refine ⟨⟨j+1,A5,c5,n5,_,by simp,by have:=HH1.out;omega,by omega,by have:=HN5.out;have:=HN2.out;omega,HI5⟩,by simp [intOf];omega⟩
          · have HQK:=Aside.mk hqk
            go_wp2_with fail
            have hzero:¬((m:Int)+1=0):=by omega
            have hw5:IntKind.i64.wrap ((m:Int)+1)=(m:Int)+1:=by simp [IntKind.wrap,IntKind.bits,IntKind.signed];omega
            obtain ⟨y1,hy1⟩:∃y,IntKind.i64.wrap ((x.size:Int)+(j:Int))=y:=⟨_,rfl⟩;obtain ⟨y2,hy2⟩:∃y,y1.tmod ((m:Int)+1)=y:=⟨_,rfl⟩;obtain ⟨y3,hy3⟩:∃y,IntKind.i64.wrap (4*y2)=y:=⟨_,rfl⟩;have HPL:=Aside.mk (place_in (m:=(m:Int)) (x:=(x.size:Int)) (j:=(j:Int)) ⟨by omega,by omega⟩ ⟨by omega,by omega⟩ ⟨by omega,by omega⟩ hy1 hy2 hy3);have HUP:Aside (Up (([]++Y.take q)++([(t,y3)]++Y.drop q))):=⟨up_end HI4.out.up HLQ.out (by have:=HI4.out.ky;omega) y3⟩
            obtain ⟨E2,f2,k2,hk2,hsl2,hrd2,hl2⟩:=slice_from (Y:=Y) (E:=E) (f:=f) HI4.out.ky hq hkf (fun e=>by obtain ⟨h1,h2⟩:=HI4.out.rs.nil e;have:=HI4.out.ky;rw [h1] at this;exact ⟨by simpa using this.symm,h2⟩)
            have hk2b:1+k2≤1001:=by omega
            have HRD2:=Aside.mk hrd2;have HL2:=Aside.mk hl2;have BR:Bl wr wr:=Bl.refl _;have OE1:Aside ((wr.alloc (.cells #[.string t,.int .i64 y3] 82)).ownsRow wr.heap.size 82 2 (.slice (some ⟨wr.heap.size,0,none⟩) 1 1) 1 (flat [(t,y3)])):=⟨World.ownsRow_lit wr #[.string t,.int .i64 y3] 1 (Nat.le_refl _) (by decide) rfl⟩;have BE1:Aside (Bl wr (wr.alloc (.cells #[.string t,.int .i64 y3] 82))):=⟨BR.alloc _⟩
            clear hrd2 hl2
            go_region_held3 (fun w'=>Bl wr w'∧w'.cell? ⟨gb,2,none⟩=some (.slice E k f)∧w'.cell? (ad.add j)=some (.string x)) (((refine keepS bd2 hc3 ?_);(repeat (first | (with_reducible assumption) | refine Bl.drew ?_ | refine Bl.alloc ?_ _));done)) (first | (refine step_syms (.tmp 118) (.tmp 122) wr.heap.size (.slice (some ⟨wr.heap.size,0,none⟩) 1 1) 1 [(t,y3)] OE1.out.drew E2 k2 f2 (Y.drop q) HL2.out (HRD2.out _ (HI4.out.rs.keep (Bl.drew BE1.out))) hk2b (Bl.drew BE1.out).out.size ?_ ?_ ?_ ?_ ?_;rfl;rfl;rfl;rfl;intro v2 w2 hown2 hgrow2;have hG2:Bl wr w2:=(Bl.drew BE1.out).grow hgrow2 (fun g e=>(by obtain rfl:wr.heap.size=g:=Option.some.inj e;omega))) | (fail "none"))
            obtain ⟨n2,hn2⟩:∃n2,1+k2=n2:=⟨_,rfl⟩;rw [hn2] at hown2;obtain ⟨A2,c2,rfl,hr2,hlen2,hb2⟩:=RdS.own hown2;have hgz:=HI4.out.bx.lt;have hgs:=hG2.out.size
            have hg2z:gb<w2.heap.size:=by omega
            have b2:=hG2.cell bd2;have HBX2b:=Aside.mk (HI4.out.bx.keep hG2);have HG2:=Aside.mk hG2;have HR2:=Aside.mk hr2;have HL2b:=Aside.mk hlen2;have hsl3:=slice_to (E:=E) (f:=f) hq hkf (fun e=>by obtain ⟨h1,h2⟩:=HI4.out.rs.nil e;have:=HI4.out.ky;rw [h1] at this;exact ⟨by simpa using this.symm,h2⟩);have HE2:=Aside.mk ((HI4.out.rs.keep hG2).take q);have HLq:Aside ((Y.take q).length=q):=⟨by rw [List.length_take];have:=HI4.out.ky;omega⟩
            have OE2:=Aside.mk (own_made w2 82 2 w2.heap.size (Nat.le_refl _));have BE2:Aside (Bl w2 (w2.alloc (.cells #[] 82))):=⟨(Bl.refl w2).alloc _⟩
            have hq1:0+q≤1001:=by omega
            have hq2:0+q+n2≤1001:=by omega
            obtain ⟨n5,hn5⟩:∃n5,0+q+n2=n5:=⟨_,rfl⟩;have HN5:=Aside.mk hn5;have HN2:=Aside.mk hn2;clear hown2 hgrow2 hG2 hr2 hlen2 hn2 hn5 bd0 bd1 bd2
            go_wp2_with (first
             | (at_builtin;refine append_syms rfl (.tmp 124) (.tmp 128) rfl w2.heap.size (.slice (some ⟨w2.heap.size,0,none⟩) 0 0) 0 [] rfl OE2.out E q f (Y.take q) rfl HLq.out (HE2.out.keep BE2.out) hq1 BE2.out.out.size ?_;intro v4 w4 hown4 hgrow4
                have HG4:=Aside.mk (BE2.out.grow hgrow4 (fun g' hg'=>by have e:w2.heap.size=g':=Option.some.inj hg';omega));have HO4:=Aside.mk hown4;have HR4:=Aside.mk (HR2.out.keep HG4.out);have b4:=HG4.out.cell b2
                clear hown4 hgrow4)
             | (at_builtin;refine append_syms rfl (.tmp 129) (.tmp 130) rfl w2.heap.size v4 (0+q) ([]++Y.take q) rfl HO4.out A2 n2 c2 ([(t,y3)]++Y.drop q) rfl HL2b.out HR4.out hq2 HG4.out.out.size ?_;intro v5 w5 hown5 hgrow5
                have HG5:=Aside.mk (HG4.out.grow hgrow5 (fun g' hg'=>(HO4.out.lt g' hg').1));rw [HN5.out] at hown5;obtain ⟨A5,c5,rfl,hr5,hlen5,hb5⟩:=RdS.own hown5;have b5:=HG5.out.cell b2;have bf5:=(HBX2b.out.keep HG5.out).frz 2;have HR5:=Aside.mk hr5;have HL5:=Aside.mk hlen5;have HB5:=Aside.mk hb5
                clear hown5 hgrow5 hr5 hlen5 hb5)
             | fail)
            have HI5:=Aside.mk (((HI4.out.move HG2.out).move HG5.out).store HR5.out HL5.out HUP.out (gd_ins HI4.out.gd HT7.out HPL.out q) (fun ad ha=>by have:=HB5.out ad ha;have:=HI4.out.gw;have:=hgz;exact ⟨by omega,by omega⟩));refine ⟨⟨j+1,A5,c5,n5,_,by simp,by have:=HH1.out;omega,by omega,by have:=HN5.out;have:=HN2.out;omega,HI5⟩,by simp [intOf];omega⟩
       · go_wp2_with fail
         exact bodyPost_ret (results_cell_row rfl _ _ w.heap.size 34 _ (0,0) _ rfl (((HBT.out.set0 _).set1 _).set2 _).h Tryz.underlying34 rfl (by kernel_rfl)) rfl (HI3.out.fin BW0.out (Nat.le_refl _) (by omega) hm40 HR.out HMS.out (by omega) _ _ _)
     · go_wp2_with fail
       exact bodyPost_ret (results_cell_row rfl _ _ w.heap.size 34 _ (0,0) _ rfl (((HBT.out.set0 _).set1 _).set2 _).h Tryz.underlying34 rfl (by kernel_rfl)) rfl (HI3.out.fin BW0.out (Nat.le_refl _) (by omega) hm40 HR.out HMS.out (by omega) _ _ _)
theorem is_low (c:Nat) (h0:97≤c) (h1:c≤122) (f:Bool) (w:World):Calls Tryz.prog 140 #[.int .u8 (c:Int),.bool f] w fun e w'=>e=.returned (.bool true)∧w'=w:=by
 have i1:(97:Int)≤(c:Int):=by omega
 have i2:(c:Int)≤122:=by omega
 have i3:¬((c:Int)≤90):=by omega
 have i4:(65:Int)≤(c:Int):=by omega
 go_enter Tryz.func140,Tryz.ntmps140;go_wp2
 all_goals (go_ret;exact ⟨rfl,rfl⟩)
theorem is_nm (c:Int) (h:c=97∨c=98∨c=99∨c=88∨c=89∨c=90∨c=95∨c=48∨c=49∨c=57∨c=82∨c=109) (w:World):Calls Tryz.prog 140 #[.int .u8 c,.bool false] w fun e w'=>e=.returned (.bool true)∧w'=w:=by
 rcases h with rfl | rfl | rfl | rfl | rfl | rfl | rfl | rfl | rfl | rfl | rfl | rfl
 all_goals (go_enter Tryz.func140,Tryz.ntmps140;go_wp2;go_ret;exact ⟨rfl,rfl⟩)
theorem nm_val {b:UInt8} (h:nmB b=true):(b.toNat:Int)=97∨(b.toNat:Int)=98∨(b.toNat:Int)=99∨(b.toNat:Int)=88∨(b.toNat:Int)=89∨(b.toNat:Int)=90∨(b.toNat:Int)=95∨(b.toNat:Int)=48∨(b.toNat:Int)=49∨(b.toNat:Int)=57∨(b.toNat:Int)=82∨(b.toNat:Int)=109:=by
 simp only [nmB,Bool.or_eq_true,beq_iff_eq,or_assoc] at h
 rcases h with rfl | rfl | rfl | rfl | rfl | rfl | rfl | rfl | rfl | rfl | rfl | rfl<;>simp
theorem nm_at {t:ByteArray} {k:Nat} (h:Nm t k) (j:Nat) (hj:j<t.size):(j=0∧97≤(t[j]'hj).toNat∧(t[j]'hj).toNat≤122)∨(0<j∧nmB (t[j]'hj)=true):=by
 obtain ⟨c,r,h1,h2,h3,h4,h5⟩:=h.ex
 have e:t.data.toList[j]? = some (t[j]'hj):=by
  have:t.data[j]? = some (t[j]'hj):=by
   rw [Array.getElem?_eq_getElem (show j<t.data.size from hj)]
   rfl
  simpa using this
 rw [h1] at e
 cases j with
 | zero =>
   left
   have:c=t[0]:=by simpa using e
   rw [←this];exact ⟨rfl,h2,h3⟩
 | succ j =>
   right
   refine ⟨by omega,?_⟩;exact h5 _ (List.mem_of_getElem? (by simpa using e))
theorem nm_pos {t:ByteArray} {k:Nat} (h:Nm t k):0<t.size:=by
 obtain ⟨c,r,h1,_⟩:=h.ex
 have:t.data.toList.length=r.length+1:=by rw [h1];rfl
 show 0<t.data.size
 rw [←Array.length_toList];omega
set_option maxHeartbeats 2000000 in
theorem name_le {t:ByteArray} (h:Aside (Nm t 6)) (w:World):Calls Tryz.prog 102 #[.string t] w fun e w'=>e=.returned (.bool true)∧w'=w:=by
 have hp:=nm_pos h.out;have h7:t.size≤7:=h.out.size
 have i1:¬(t.size=0):=by omega
 have i2:¬(12<t.size):=by omega
 have i3:((t.size:Int)==0)=false:=by rw [beq_eq_false_iff_ne];omega
 have i4:¬(12<(t.size:Int)):=by omega
 have h0:¬((t[0]'hp).toNat=82):=by
  rcases nm_at h.out 0 hp with ⟨_,h1,h2⟩ | ⟨h1,_⟩<;>omega
 have h0':¬(((t[0]'hp).toNat:Int)=82):=by omega
 go_enter Tryz.func102,Tryz.ntmps102
 go_wp2_with fail
 go_loopw [15] (fun i wr=>∃j:Nat,i=.int .i64 j∧j≤t.size∧Aside (wr=w)) (fun i _=>t.size - (intOf i).toNat)
 case atStart=>exact ⟨0,rfl,by omega,⟨rfl⟩⟩
 case round =>
  obtain ⟨j,rfl,hj,HW⟩:=hrel;obtain rfl:=HW.out
  by_cases hlt:j<t.size
  · have HI:Aside (Calls Tryz.prog 140 #[.int .u8 ((t[j]'hlt).toNat:Int),.bool ((j:Int)==0)] wr fun e w'=>e=.returned (.bool true)∧w'=wr):=by
     rcases nm_at h.out j hlt with ⟨hz,h1,h2⟩ | ⟨hz,h1⟩
     · exact ⟨is_low _ h1 h2 _ _⟩
     · rw [show ((j:Int)==0)=false by rw [beq_eq_false_iff_ne];omega]
       exact ⟨is_nm _ (nm_val h1) _⟩
    have HLT:=Aside.mk hlt
    go_wp2_with (with_reducible refine HI.out.mono ?_;rintro e w1 ⟨rfl,rfl⟩)
    go_roundw
    case rel=>exact ⟨j+1,by go_num,HLT.out,⟨by trivial⟩⟩
    case measure=>have:=HLT.out;simp [intOf];omega
  · go_wp2_with fail
    go_ret;exact ⟨rfl,rfl⟩
end Go.Proofs.YtjmiaemabhlnjaaGreatDoor.Chains.Shifts
end
