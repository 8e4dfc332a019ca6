/- A part of the proof of TopShifts. -/
import Derived.Test.YtjmiaemabhlnjaaGreatDoorR42
import Derived.Test.YtjmiaemabhlnjaaGreatDoorR25
import Derived.Test.YtjmiaemabhlnjaaGreatDoorR26
import Derived.Test.YtjmiaemabhlnjaaGreatDoorR27
import Derived.Test.YtjmiaemabhlnjaaGreatDoorR41
import Derived.Deep.QuietTactic
import Derived.Deep.RegionHeld3
section
set_option linter.all false
set_option maxRecDepth 20000
namespace Go.Proofs.YtjmiaemabhlnjaaGreatDoor.Chains.Shifts
open Go Go.RowKit Go.Proofs.YtjmiaemabhlnjaaGreatDoor.Chains
structure Whr (w:World) (g:Nat) (xb xm fl:Int) (A:Option Addr) (n c:Nat):Prop where
 h:w.heap[g]? = some (.cells #[.int .i64 xb,.int .i64 xm,.slice A n c,.int .u8 fl] 28 (0,0))
theorem Whr.cs {w:World} {g:Nat} {xb xm fl:Int} {A:Option Addr} {n c:Nat} (h:Whr w g xb xm fl A n c):w.cell? ⟨g,0,none⟩=some (.int .i64 xb)∧w.cell? ⟨g,1,none⟩=some (.int .i64 xm)∧w.cell? ⟨g,2,none⟩=some (.slice A n c)∧w.cell? ⟨g,3,none⟩=some (.int .u8 fl):=by
 refine ⟨?_,?_,?_,?_⟩<;>(rw [cell_of_row w g _ _ _ (0,0) h.h];rfl)
theorem Whr.keep {w w':World} {g:Nat} {xb xm fl:Int} {A:Option Addr} {n c:Nat} (h:Whr w g xb xm fl A n c) (k:Bl w w'):Whr w' g xb xm fl A n c:=⟨by rw [k.blk (Array.getElem?_eq_some_iff.1 h.h).1];exact h.h⟩
theorem rdw_take {w:World} {A:Option Addr} {c:Nat} {l:List Nat} (h:RdW w A c l) (q:Nat):RdW w A c (l.take q) :=
 ⟨by have:=h.le;rw [List.length_take];omega,h.mx,fun e=>⟨by rw [(h.nil e).1];exact List.take_nil,(h.nil e).2⟩,fun ad ha j x hj=>h.cells ad ha j x (by
   rw [List.getElem?_take] at hj
   split at hj
   · exact hj
   · cases hj)⟩
theorem madeB (m:Nat):(madeCells (Value.bool false).cells (m*1)).toList=bv (List.replicate m false):=by
 unfold madeCells bv;rw [Array.toList_map,Array.toList_range,Nat.mul_one,List.map_replicate];refine List.eq_replicate_iff.2 ⟨by simp,?_⟩;intro x hx;obtain ⟨i,hi,rfl⟩:=List.mem_map.1 hx;simp [Value.cells,Nat.mod_one]
def tz (m:Nat):TG:=⟨List.replicate 16 false,List.replicate m false,false,false⟩
set_option maxHeartbeats 8000000 in
theorem shifts_any {w:World} {ad:Addr} {m cap:Nat} {D:Option Addr} {d ms:Nat} {E:Option Addr} {f k:Nat} {l:List Int} {S:List Nat} {Y:List (ByteArray×Int)} (h:Ob w ad m cap D d ms E f k l S Y)
 (xb xm:Int) (fl:Nat) {A:Option Addr} {n c:Nat} {inp:List Nat} (hin:RdW w A c inp) (hn:inp.length=n) (h63:n≤9223372036854775807) (hil:∀x∈inp,x<4294967296) (hfl:fl<256)
 (yb ym:Int) (fl2:Int) {A2:Option Addr} {n2 c2:Nat} (hn2:n2≤c2) (hnil2:A2=none→n2=0∧c2=0) (h63b:n2≤9223372036854775807) :
 Calls Tryz.prog 8 #[.agg #[.slice (some ad) m cap,.slice D ms d,.slice E k f],.agg #[.int .i64 xb,.int .i64 xm,.slice A n c,.int .u8 (fl:Int)],.agg #[.int .i64 yb,.int .i64 ym,.slice A2 n2 c2,.int .u8 fl2]] w fun e w'=>e=.returned (.bool true)∧Bl w w':=by
 obtain ⟨w0,hw0⟩:∃w0,((w.alloc (.cells #[.slice (some ad) m cap,.slice D ms d,.slice E k f] 34)).alloc (.cells #[.int .i64 xb,.int .i64 xm,.slice A n c,.int .u8 (fl:Int)] 28)).alloc (.cells #[.int .i64 yb,.int .i64 ym,.slice A2 n2 c2,.int .u8 fl2] 28)=w0:=⟨_,rfl⟩;have B0:=Aside.mk (show Bl w w0 by rw [←hw0];exact (((Bl.refl w).alloc _).alloc _).alloc _);have BX:=Aside.mk (show Box w0 w.heap.size (.slice (some ad) m cap) (.slice D ms d) (.slice E k f) by rw [←hw0];exact (Box.new w _ _ _ 34).keep (((Bl.refl _).alloc _).alloc _))
 have X0:=Aside.mk (show Whr w0 (w.heap.size+1) xb xm (fl:Int) A n c by
  rw [←hw0]
  have e:(w.alloc (.cells #[.slice (some ad) m cap,.slice D ms d,.slice E k f] 34)).heap.size=w.heap.size+1:=by simp
  refine Whr.keep (w:=(w.alloc (.cells #[.slice (some ad) m cap,.slice D ms d,.slice E k f] 34)).alloc (.cells #[.int .i64 xb,.int .i64 xm,.slice A n c,.int .u8 (fl:Int)] 28)) ⟨?_⟩ ((Bl.refl _).alloc _)
  rw [←e];exact heap_alloc_new _ _)
 have Y0:=Aside.mk (show Whr w0 (w.heap.size+1+1) yb ym fl2 A2 n2 c2 by
  rw [←hw0]
  have e:((w.alloc (.cells #[.slice (some ad) m cap,.slice D ms d,.slice E k f] 34)).alloc (.cells #[.int .i64 xb,.int .i64 xm,.slice A n c,.int .u8 (fl:Int)] 28)).heap.size=w.heap.size+1+1:=by simp
  exact ⟨by rw [←e];exact heap_alloc_new _ _⟩)
 have O0:=Aside.mk (h.keep B0.out);have hm40:=h.m40;have hms:=h.ms40;obtain ⟨i,hil31,hi⟩:=and_le xb 31 (by decide);obtain ⟨q,hq15,hq⟩:=and_le xm 15 (by decide);obtain ⟨k1,hk31,hk⟩:=and_le yb 31 (by decide);obtain ⟨q2,hq215,hq2⟩:=and_le ym 15 (by decide);have hq:bits .and .i64 xm 15=(q:Int):=hq
 have hnc:n≤c:=by have:=hin.le;omega
 have HF1:=Aside.mk (fun wx=>fit_place (w:=wx) xb xm (fl:Int) (A:=A) (n:=n) (c:=c) (k:=m) hm40 hnc (fun e=>by obtain ⟨z1,z2⟩:=hin.nil e;rw [z1] at hn;exact ⟨by simpa using hn.symm,z2⟩) h63 hi hil31 hq hq15);have HF2:=Aside.mk (fun wx=>fit_place (w:=wx) yb ym fl2 (A:=A2) (n:=n2) (c:=c2) (k:=m) hm40 hn2 hnil2 h63b hk hk31 hq2 hq215);obtain ⟨n20,hn20⟩:∃n20,min n 20=n20:=⟨_,rfl⟩;obtain ⟨p20,hp20⟩:∃p20,min n2 20=p20:=⟨_,rfl⟩
 rw [hn20] at HF1;rw [hp20] at HF2;obtain ⟨bi,hbi⟩:∃bi,4*i=bi:=⟨_,rfl⟩;obtain ⟨bk,hbk⟩:∃bk,4*k1=bk:=⟨_,rfl⟩;rw [hbi] at HF1;rw [hbk] at HF2;obtain ⟨mem,hmem⟩:∃mem,31+m+q=mem:=⟨_,rfl⟩
 have e1:IntKind.i64.wrap (31+(m:Int))=31+(m:Int):=by simp [IntKind.wrap,IntKind.bits,IntKind.signed];omega
 have e2:IntKind.i64.wrap (31+(m:Int)+(q:Int))=(mem:Int):=by simp [IntKind.wrap,IntKind.bits,IntKind.signed];omega
 have HM1:=Aside.mk (fun wx (z:Bl w0 wx)=>machine_ok (O0.out.keep z) (base:=bi) (mem:=mem) (by omega) (by omega) (by omega) (by omega) (rdw_take ((hin.keep B0.out).keep z) 20) (ki:=n20) (by rw [List.length_take];omega) (by omega));have HM2:=Aside.mk (fun wx (z:Bl w0 wx)=>machine_ok (O0.out.keep z) (base:=bk) (mem:=mem) (by omega) (by omega) (by omega) (by omega) (rdw_take ((hin.keep B0.out).keep z) 20) (ki:=n20) (by rw [List.length_take];omega) (by omega))
 obtain ⟨x0,x1,x2,x3⟩:=X0.out.cs;obtain ⟨y0,y1,y2,y3⟩:=Y0.out.cs;obtain ⟨c0,c1,c2'⟩:=BX.out;have NUM:=Aside.mk (show bi≤124∧bi%4=0∧bk≤124∧bk%4=0∧bi / 4+m≤mem∧bk / 4+m≤mem∧mem≤4096 from by omega);have IL:=Aside.mk hil;obtain ⟨j0,hj,hj0,hj1,hj2⟩:=info_parts infoB;clear h hin hn hil hi hk hn20 hp20 hbi hbk hmem hnc hn2 hnil2 h63 h63b hil31 hk31 hq2;go_enter Tryz.func8,Tryz.ntmps8
 go_wp2_with (first
  | (go_at_call_of 19 xb;((with_reducible refine (HF1.out _).mono ?_);rintro e w1 ⟨z1,rfl,hb⟩)
     have B1:=Aside.mk hb;obtain ⟨x0,x1,x2,x3⟩:=(X0.out.keep hb).cs;obtain ⟨y0,y1,y2,y3⟩:=(Y0.out.keep hb).cs
     clear hb)
  | (go_at_call_of 19 yb;((with_reducible refine (HF2.out _).mono ?_);rintro e w2 ⟨z2,rfl,hb⟩)
     have B2:=Aside.mk (B1.out.trans hb);obtain ⟨x0,x1,x2,x3⟩:=(X0.out.keep B2.out).cs;obtain ⟨c0,c1,c2'⟩:=BX.out.keep B2.out
     clear hb)
  | (go_at_call_of 16 bi;((with_reducible refine (HM1.out _ B2.out).mono ?_);rintro e w3 ⟨gma,gaa,iba,rfl,hM,hb,l1,l2,l3⟩)
     have M3:=Aside.mk hM;have B3:=Aside.mk (B2.out.trans hb);have L3:=Aside.mk (And.intro l1 (And.intro l2 l3));obtain ⟨c0,c1,c2'⟩:=BX.out.keep B3.out
     clear hb hM l1 l2 l3)
  | (go_at_call_of 16 bk;((with_reducible refine (HM2.out _ B3.out).mono ?_);rintro e w4 ⟨gmb,gab,ibb,rfl,hM,hb,l1,l2,l3⟩)
     have M4:=Aside.mk hM;have B34:=Aside.mk hb;have B4:=Aside.mk (B3.out.trans hb);have L4:=Aside.mk (And.intro l1 (And.intro l2 l3));obtain ⟨c0,c1,c2'⟩:=BX.out.keep B4.out
     clear hb hM l1 l2 l3)
  | (refine wpList_make_full w4 rfl (.tmp 82) (.tmp 82) 59 rfl w4.heap.size 4 j0 (.bool false) 1 Tryz.underlying59 hj hj0 hj1 .i64 .i64 (m:Int) (m:Int) m rfl rfl rfl rfl (by rw [hj2];omega) (by unfold maxLen;omega) (Nat.le_refl _) ?_
     intro w5 how hgr;have OB5:Aside (OwB w5 w4.heap.size w4.heap.size m m (List.replicate m false)):=⟨⟨by simp,Nat.le_refl _,by unfold maxLen;omega,Nat.le_refl _,by rw [←madeB];exact how⟩⟩;have B5:=Aside.mk (show Bl w4 w5 from (Bl.refl w4).grow hgr (fun g e=>by cases e))
     clear how hgr)
  | (refine wpList_store_row rfl 62 (.tmp 19) (.tmp 84) rfl w5.heap.size (tgV (tz m) (.slice (some ⟨w4.heap.size,0,none⟩) m m)) rfl rfl 62 _ (heap_alloc_new w5 _) (i62s rfl _) (by rw [tg_size rfl];rfl) (tg_one rfl) ?_
     rw [World.setRow_alloc_new];obtain ⟨w6,hw6⟩:∃w6,w5.alloc (.cells (tgV (tz m) (.slice (some ⟨w4.heap.size,0,none⟩) m m)) 62)=w6:=⟨_,rfl⟩;rw [hw6];have B6:=Aside.mk (show Bl w5 w6 by rw [←hw6];exact (Bl.refl w5).alloc _);have T6:=Aside.mk (show TB w6 w5.heap.size (tz m) (.slice (some ⟨w4.heap.size,0,none⟩) m m) from ⟨by rw [←hw6];exact heap_alloc_new w5 _,rfl⟩);have f13:=T6.out.frz 13;have q13:=T6.out.rc (j:=13) (by decide)
     obtain ⟨c0,c1,c2'⟩:=(BX.out.keep B4.out).keep (B5.out.trans B6.out)
     clear hw6))
 have NL:=Aside.mk (show w4.heap.size<w5.heap.size from OB5.out.lt);have NE:=Aside.mk (show w4.heap.size≠w5.heap.size from by have:=OB5.out.lt;omega);obtain ⟨w7,hw7⟩:∃w7,w6.setCell ⟨w5.heap.size,13,none⟩ (.bool true)=w7:=⟨_,rfl⟩;rw [hw7];obtain ⟨t7,ht7⟩:∃t7:TG,({tz m with R:=(tz m).R.set 13 true}:TG)=t7:=⟨_,rfl⟩;have T7:Aside (TB w7 w5.heap.size t7 (.slice (some ⟨w4.heap.size,0,none⟩) m m)):=⟨by rw [←hw7,←ht7];exact T6.out.setR (by decide) true⟩
 have O7:Aside (OwB w7 w4.heap.size w4.heap.size m m (markN m (S.take 0))):=⟨by rw [←hw7];exact (OB5.out.keep B6.out).off NE.out 13 _⟩;have B7:Aside (Bl w4 w7):=⟨by rw [←hw7];exact (B5.out.trans B6.out).puts (p:=⟨w5.heap.size,13,none⟩) B5.out.out.size _⟩;have HT7:=Aside.mk ht7;have HI:=Aside.mk (O0.out.keep B4.out);clear hw7 ht7 f13 q13 c0 c1 c2';generalize w5.heap.size=g5 at *;generalize hg4:w4.heap.size=g4 at *
 go_loopw [20] (fun q wr=>∃j:Nat,q=.int .i64 j∧j≤ms∧Aside (OwB wr g4 g4 m m (markN m (S.take j)))∧Aside (TB wr g5 t7 (.slice (some ⟨g4,0,none⟩) m m))∧Aside (Bl w4 wr)) (fun q _=>ms - (intOf q).toNat)
 case atStart=>exact ⟨0,rfl,Nat.zero_le _,O7,T7,B7⟩
 case round =>
  obtain ⟨j,rfl,hj,HOJ,HTJ,HBJ⟩:=hrel;obtain ⟨c0,c1,c2'⟩:=(BX.out.keep B4.out).keep HBJ.out;obtain ⟨t16,t17,t18⟩:=HTJ.out.cs
  by_cases hlt:j<ms
  · obtain ⟨s,hf⟩:∃s,S[j]? = some s:=⟨_,List.getElem?_eq_getElem (by have:=HI.out.sn;omega)⟩
    obtain ⟨bd,rfl⟩:∃bd,D=some bd:=by
     cases D with
     | some bd=>exact ⟨bd,rfl⟩
     | none =>
       have:=(HI.out.ri.nil rfl).1;rw [this] at hf;simp at hf
    have hc:=((HI.out.keep HBJ.out).ri).cells bd rfl j s hf;have hsm:s<m:=HI.out.rise.lt s (List.mem_of_getElem? hf);obtain ⟨x,hx⟩:∃x,(markN m (S.take j))[s]? = some x:=⟨_,List.getElem?_eq_getElem (by rw [markN_len];exact hsm)⟩;obtain ⟨q0,q1⟩:=HOJ.out.at hx;have HN:Aside (markN m (S.take (j+1))=(markN m (S.take j)).set s true):=⟨by rw [List.take_add_one,hf];exact markN_snoc m _ s⟩;have HLT:=Aside.mk hlt
    have hs0:(0:Int)≤(s:Int):=by omega
    have hs1:(s:Int)<(m:Int):=by omega
    have NR:=Aside.mk (show w.heap.size≠g4∧g5≠g4∧bd.block≠g4 from ⟨by have q:w.heap.size<w4.heap.size:=World.block_lt_of_cell? w4 _ (BX.out.keep B4.out).1;rw [hg4] at q;omega,fun e=>NE.out e.symm,by
     have q:=World.block_lt_of_cell? w4 _ ((HI.out.ri).cells bd rfl j s hf);rw [add_block,hg4] at q;omega⟩)
    have C1:=Aside.mk c1;have T16:=Aside.mk t16;have HC:=Aside.mk hc;clear hf hx
    go_wp2_with fail
    go_region_held3 (fun w'=>w'.cell? ⟨w.heap.size,1,none⟩=some (.slice (some bd) ms d)∧w'.cell? ⟨g5,16,none⟩=some (.slice (some ⟨g4,0,none⟩) m m)∧w'.cell? (bd.add j)=some (.int .i64 (s:Int))) ((first | exact keepC ((Bl.dN (Bl.refl _)).cell C1.out) ((Bl.dN (Bl.refl _)).cell T16.out) ((Bl.dN (Bl.refl _)).cell HC.out) | exact keepC (cell_off ((Bl.dN (Bl.refl _)).cell C1.out) NR.out.1 _ _) (cell_off ((Bl.dN (Bl.refl _)).cell T16.out) NR.out.2.1 _ _) (cell_off ((Bl.dN (Bl.refl _)).cell HC.out) (by rw [add_block];exact NR.out.2.2) _ _))) (fail)
    go_wp2_with fail
    go_roundw
    case rel=>exact ⟨j+1,by go_num,HLT.out,⟨by rw [HN.out];exact (HOJ.out.put s _).keep (Bl.drew (Bl.refl _))⟩,⟨(HTJ.out.off NE.out _ _).keep (Bl.drew (Bl.refl _))⟩,⟨Bl.drew (HBJ.out.puts (p:=⟨g4,s,none⟩) (by rw [hg4];exact Nat.le_refl _) _)⟩⟩
    case measure=>have:=HLT.out;simp [intOf];omega
  · obtain rfl:ms=j:=by omega
    go_wp2_with fail
    obtain ⟨dd,hdd⟩:∃dd,(4294967296+bk - bi)%4294967296=dd:=⟨_,rfl⟩
    have eby:wrap64 ((bk:Int) - (bi:Int))%4294967296=(dd:Int):=by
     have q1:=NUM.out.1;have q2:=NUM.out.2.2.1;rw [←hdd];simp only [wrap64];omega
    rw [eby];have eS:S.take ms=S:=List.take_of_length_le (by have:=HI.out.sn;omega)
    have SH0:Aside (ShI w0 wr gma gaa gmb gab g5 dd bi bk m iba ibb none none (ms0 bi mem (l.map Int.toNat) S (inp.take 20)) (ms0 bk mem (l.map Int.toNat) S (inp.take 20)) (tg0 m S) g4 m 0):=⟨by
     rw [←hdd];refine shi_start M3.out M4.out B34.out HBJ.out B3.out (Nat.le_trans B2.out.out.size L3.out.1) (Nat.le_trans B2.out.out.size L3.out.2.1) L4.out.1 L4.out.2.1 L4.out.2.2 (by rw [hg4];exact Nat.le_refl _) NL.out ?_ ?_ HI.out.rise.up (by have:=NUM.out;omega) (by have:=NUM.out;omega) (by have:=NUM.out;omega) (by have:=NUM.out;omega) (by simpa using HI.out.ln) (by have:=NUM.out;omega) (by have:=NUM.out;omega) (by have:=NUM.out;omega) ?_ (fun x hx=>IL.out x (List.mem_of_mem_take hx))
     · have:=HTJ.out
       rw [←HT7.out] at this;exact ⟨this.h,this.len⟩
     · have:=HOJ.out.rd
       rw [eS] at this;exact this
     · intro x hx
       obtain ⟨y,hy,rfl⟩:=List.mem_map.1 hx;have:=HI.out.low y hy
       omega⟩
    clear hdd eby eS HOJ HTJ HBJ t16 t17 t18 c0 c1 c2';generalize wr=w8 at SH0 ⊢
    go_loopw [22] (fun q wr=>∃(j:Nat) (oba obb:Option Nat) (ma mb:MS) (t:TG) (r cc:Nat),q=.int .i64 j∧j≤fl%61∧Aside (ShI w0 wr gma gaa gmb gab g5 dd bi bk m iba ibb oba obb ma mb t r cc j)) (fun q _=>fl%61 - (intOf q).toNat)
    case atStart=>exact ⟨0,none,none,_,_,_,_,_,rfl,Nat.zero_le _,SH0⟩
    case round =>
     obtain ⟨j,oba,obb,ma,mb,t,r,cc,rfl,hj,SH⟩:=hrel;obtain ⟨x0,x1,x2,x3⟩:=(X0.out.keep SH.out.bl).cs
     by_cases hlt:j<fl%61
     · by_cases hst:ma.st=0
       · have hst':(ma.st:Int)=0:=by omega
         have m0:=SH.out.a.pcc.2.2;have WA:=Aside.mk (words_ok SH.out.a.mem);obtain ⟨na,hna⟩:∃na,ma.n=na:=⟨_,rfl⟩;rw [hna] at WA;have HNA:=Aside.mk hna;clear hna
         go_wp2_with (first
          | (go_at_call 20;(with_reducible refine (mw_st SH.out.a).mono ?_);rintro e wx ⟨rfl,rfl⟩)
          | (go_at_call 21;(with_reducible refine (mw_pc SH.out.a).mono ?_);rintro e wx ⟨rfl,rfl⟩))
         refine WA.out.mono ?_;rintro e wy ⟨AW,cw,rfl,hRW,hbw⟩;have SHy:=Aside.mk (SH.out.quiet hbw);have RWy:=Aside.mk hRW;have HLT:=Aside.mk hlt;clear hRW hbw;obtain ⟨pc,hpc⟩:∃pc,ma.pc=pc:=⟨_,rfl⟩;rw [hpc];have HPC:=Aside.mk hpc
         have hpl:pc<4294967296:=by rw [←hpc];exact SH.out.oka.p
         have hb124:=NUM.out.1;clear hpc;clear e1 e2
         dsimp only
         rw [w_at hpl hb124]
         rename_i Kb hb Ka ha
         refine ha _ _ ?_;refine wl_in ?_;refine yV (.slice AW na cw) ?_;refine wl_end ?_;refine hb _ _ ?_;clear ha hb Ka Kb;refine wp_seq_k (fun K1 h1=>?_);refine wp_seq_k (fun Kc hc=>?_);refine wp_region_lit (wl_in ?_);have HC:=Aside.mk hc;clear hc;have E4:=Aside.mk (w_4m' hm40);obtain ⟨t16,t17,t18⟩:=SHy.out.tb.cs
         by_cases g1:pc<bi
         · obtain ⟨az,haz⟩:∃az,(pc:Int) - (bi:Int)=az:=⟨_,rfl⟩
           have d1:az<0:=by omega
           rw [haz];clear haz;refine yV (.int .i64 az) ?_;refine yW (.bool true) ?_;refine yV (.bool true) ?_;(iterate 4 refine yN ?_);refine yV (.bool true) ?_;refine yV (.bool true) ?_;(iterate 3 refine yN ?_);refine yV (.bool true) ?_;refine yV (.bool true) ?_;(iterate 6 refine yN ?_);refine yV (.bool true) ?_;refine yV (.bool true) ?_;(iterate 4 refine yN ?_);refine yV (.bool true) ?_;refine wl_end ?_
           refine HC.out _ _ ?_
           go_wp2_with fail
           go_ret;exact ⟨rfl,B0.out.trans SHy.out.bl⟩
         · obtain ⟨at_,hat⟩:∃at_,pc - bi=at_:=⟨_,rfl⟩
           have hat':(pc:Int) - (bi:Int)=(at_:Int):=by omega
           rw [hat'];have HAT:=Aside.mk (show pc=bi+at_ by omega)
           have d1:¬((at_:Int)<0):=by omega
           clear hat hat' g1
           by_cases g2:4*m≤at_
           · have d2:4*(m:Int)≤(at_:Int):=by omega
             have e4:=E4.out;refine yV (.int .i64 (at_:Int)) ?_;refine yW (.bool false) ?_;refine yV (.bool false) ?_;refine yV (.int .i64 (at_:Int)) ?_;refine yV (.int .i64 (m:Int)) ?_;refine yW (.int .i64 (4*(m:Int))) ?_;refine yW (.bool true) ?_;refine yV (.bool true) ?_;refine yV (.bool true) ?_;(iterate 3 refine yN ?_);refine yV (.bool true) ?_;refine yV (.bool true) ?_;(iterate 6 refine yN ?_)
             refine yV (.bool true) ?_;refine yV (.bool true) ?_;(iterate 4 refine yN ?_);refine yV (.bool true) ?_;refine wl_end ?_;refine HC.out _ _ ?_
             go_wp2_with fail
             go_ret;exact ⟨rfl,B0.out.trans SHy.out.bl⟩
           · have d2:¬(4*(m:Int)≤(at_:Int)):=by omega
             have d2':(at_:Int)<4*(m:Int):=by omega
             have d2n:¬(4*m≤at_):=by omega
             have d2n':at_<4*m:=by omega
             obtain ⟨q4,hq4⟩:∃q4,at_%4=q4:=⟨_,rfl⟩;obtain ⟨r1,r2⟩:=tm4 hq4
             by_cases g3:q4=0
             · obtain rfl:=g3
               obtain ⟨a4,ha4⟩:∃a4,at_ / 4=a4:=⟨_,rfl⟩;obtain ⟨u1,u2⟩:=td4 ha4
               have u3:(a4:Int)<(m:Int):=by omega
               have u3':a4<m:=by omega
               have u4:(0:Int)≤(a4:Int):=by omega
               have EA4:=Aside.mk (w_nat (a:=a4) (Nat.lt_of_lt_of_le u3' hm40));have AT4:=Aside.mk (show at_=4*a4 by omega)
               have hmc:m≤cc:=by have:=SHy.out.rd.le;have:=SHy.out.F.tW;omega
               obtain ⟨tw,htw⟩:∃tw,t.W.getD a4 false=tw:=⟨_,rfl⟩;have HTW:=Aside.mk htw;have cw1:=SHy.out.rd.cells a4 tw (by rw [←htw,List.getD_eq_getElem?_getD,List.getElem?_eq_getElem (by rw [SHy.out.F.tW];exact u3')];rfl)
               have cw2:wy.cell? ⟨r,a4,none⟩=some (.bool tw):=by rw [add0] at cw1;exact cw1
               clear htw hq4 ha4;cases tw
               · by_cases g5':na=mem
                 · obtain rfl:=g5'
                   have e4:=E4.out;refine yV (.int .i64 (at_:Int)) ?_;refine yW (.bool false) ?_;refine yV (.bool false) ?_;refine yV (.int .i64 (at_:Int)) ?_;refine yV (.int .i64 (m:Int)) ?_;refine yW (.int .i64 (4*(m:Int))) ?_;refine yW (.bool false) ?_;refine yV (.bool false) ?_;refine yV (.bool false) ?_;refine yV (.int .i64 (at_:Int)) ?_;refine yW (.int .i64 0) ?_;refine yW (.bool false) ?_;refine yV (.bool false) ?_
                   refine yV (.bool false) ?_;refine yW (.pointer (some ⟨g5,16,none⟩)) ?_;refine yW (.slice (some ⟨r,0,none⟩) m cc) ?_;refine yV (.int .i64 (at_:Int)) ?_;refine yV (.int .i64 (a4:Int)) ?_ (by go_simp;exact EA4.out);refine yW (.pointer (some ⟨r,a4,none⟩)) ?_;refine yW (.bool false) ?_;refine yV (.bool false) ?_;refine yV (.bool false) ?_;refine yV (.slice AW na cw) ?_;refine yW (.int .i64 (na:Int)) ?_
                   refine yV (.int .i64 (na:Int)) ?_;refine yW (.bool false) ?_;refine yV (.bool false) ?_;refine wl_end ?_;refine HC.out _ _ ?_;clear e4;have hx4:=at_word (i:=bi) (n:=m) (p:=pc) (M:=na) (by have:=HAT.out;omega) (by have:=HAT.out;omega) (by have:=HAT.out;have:=AT4.out;omega) NUM.out.2.1 (by have:=NUM.out;omega);obtain ⟨p4,hp4⟩:∃p4,pc / 4=p4:=⟨_,rfl⟩;obtain ⟨b4,hb4⟩:∃b4,bi / 4=b4:=⟨_,rfl⟩
                   have hsum:b4+a4=p4:=by have:=hx4.1;have:=HAT.out;have:=AT4.out;omega
                   have hp4n:p4<na:=by rw [←hp4];exact hx4.2.2
                   obtain ⟨v1,v2⟩:=td4 hb4
                   have hp4k:p4<4096:=by have:=SHy.out.F.a4;have:=HNA.out;omega
                   have v4:(p4:Int)<(na:Int):=by omega
                   have v5:(0:Int)≤(p4:Int):=by omega
                   have hva:=take_at (q:=p4) (na:=na) SHy.out.oka.M (by have:=SHy.out.F.a4;have:=HNA.out;omega) hp4n;obtain ⟨aw,rfl⟩:=rdw_some RWy.out hva;have cx:=RWy.out.cells aw rfl p4 _ hva
                   have ncw:na≤cw:=by have:=RWy.out.le;rw [List.length_take,SHy.out.oka.M] at this;have:=SHy.out.F.a4;have:=HNA.out;omega
                   obtain ⟨x,hx⟩:∃x,ma.M.getD p4 0=x:=⟨_,rfl⟩;rw [hx] at cx
                   have hxl:x<4294967296:=by rw [←hx];exact getD_lt SHy.out.oka.w _
                   have SIM:=Aside.mk (step_sim (U:=UA) (B:=⟨setBN⟩) (dec:=decI) decI_iok SHy.out.F SHy.out.S hst (by rw [HPC.out];have:=HAT.out;omega) (by rw [HPC.out];have:=HAT.out;omega) (by rw [HPC.out];have:=HAT.out;have:=AT4.out;omega) (by rw [HPC.out,show (pc - bi) / 4=a4 by have:=HAT.out;have:=AT4.out;omega];exact HTW.out));rw [HPC.out,hp4,hx] at SIM;have LJ:=Aside.mk (show j+1≤1000 by omega)
                   have hb40:b4<40:=by rw [←hb4];exact b4_lt hb124
                   have v3':IntKind.i64.wrap ((b4:Int)+(a4:Int))=(p4:Int):=w_sum' hsum hp4k;have v3:wrap64 ((b4:Int)+(a4:Int))=(p4:Int):=w_sum hsum hp4k;have v6:wrap64 (b4:Int)=(b4:Int):=w_nat' hb40;have v6':IntKind.i64.wrap (b4:Int)=(b4:Int):=w_nat hb40;have v7:wrap64 (a4:Int)=(a4:Int):=w_nat' (Nat.lt_of_lt_of_le u3' hm40);have v7':=EA4.out;clear hva hx hp4 hb4 hsum hx4 d2 d2' d2n d2n' r1 r2 cw1 cw2 hpl hb124 hp4k
                   cases hd:decI x with
                   | none =>
                     rw [hd] at SIM
                     go_wp2_with (first
                      | (go_at_call 23;(with_reducible refine (rdec_none hxl hd _).mono ?_);rintro e w8 ⟨rfl,hb⟩
                         have SH8:=Aside.mk (SHy.out.quiet hb)
                         clear hb)
                      | (refine wpList_store_row rfl 72 (.tmp 25) (.tmp 166) rfl w8.heap.size (iV (⟨0,0,0,0,0,0,false⟩:I)) rfl rfl 72 _ (heap_alloc_new w8 _) i72 rfl (i_one _) ?_
                         rw [World.setRow_alloc_new];obtain ⟨w9,hw9⟩:∃w9,w8.alloc (.cells (iV (⟨0,0,0,0,0,0,false⟩:I)) 72)=w9:=⟨_,rfl⟩;rw [hw9];have SH9:=Aside.mk (SH8.out.quiet (w':=w9) (by rw [←hw9];exact (Bl.refl w8).alloc _));have IB9:Aside (IB w9 w8.heap.size (⟨0,0,0,0,0,0,false⟩:I)):=⟨⟨by rw [←hw9];exact heap_alloc_new w8 _⟩⟩;have HA:=Aside.mk (step_any dec_ok SH9.out.a SH9.out.oka (Nat.le_trans SH9.out.la (Nat.le_of_succ_le LJ.out)))
                         clear hw9))
                     have HBS:=Aside.mk SIM.out.1;rw [SIM.out.2.1] at HA
                     go_wp2_with (first
                      | (go_at_call_of 26 gma;(with_reducible refine HA.out.mono ?_);rintro e wa ⟨oba',rfl,hA,hk,ho⟩
                         have A1:=Aside.mk hA;have K1:=Aside.mk hk;have O1:=Aside.mk ho;have HB:=Aside.mk (step_any dec_ok (SH9.out.b_at hk) SH9.out.okb (by rw [SH9.out.S.core.out];exact Nat.le_trans SH9.out.la (Nat.le_of_succ_le LJ.out)));rw [HBS.out] at HB
                         clear hA hk ho)
                      | (go_at_call_of 26 gmb;(with_reducible refine HB.out.mono ?_);rintro e wb ⟨obb',rfl,hB,hk2,ho2⟩
                         have SHn:=Aside.mk (SH9.out.step_t A1.out K1.out O1.out hB hk2 ho2 SIM.out.2.2);have HMV:=Aside.mk (moved_any SHn.out.a SHn.out.b SHn.out.oka SHn.out.okb SHn.out.F SHn.out.S SHn.out.rd (Nat.le_trans SHn.out.la LJ.out));have HTL:=Aside.mk (And.intro SHn.out.tb.h (i62s SHn.out.tb.len (.slice (some ⟨r,0,none⟩) m cc)))
                         clear hB hk2 ho2)
                      | (refine wpList_load_row rfl 62 (.tmp 19) rfl g5 rfl 62 (tgV t (.slice (some ⟨r,0,none⟩) m cc)) (0,0) _ HTL.out.1 Tryz.underlying62 rfl HTL.out.2 ?_)
                      | (go_at_call 27;(with_reducible refine HMV.out.mono ?_);rintro e w13 ⟨rfl,hb⟩
                         have SHf:=Aside.mk (SHn.out.quiet hb)
                         clear hb))
                     go_roundw
                     case rel=>exact ⟨j+1,oba',obb',_,_,t,r,cc,by go_num,HLT.out,SHf⟩
                     case measure=>have:=HLT.out;simp [intOf];omega
                   | some ins =>
                     rw [hd] at SIM
                     go_wp2_with (first
                      | (go_at_call 23;(with_reducible refine (rdec_some hxl hd _).mono ?_);rintro e w8 ⟨rfl,hb⟩
                         have SH8:=Aside.mk (SHy.out.quiet hb)
                         clear hb)
                      | (refine wpList_store_row rfl 72 (.tmp 25) (.tmp 166) rfl w8.heap.size (iV ins) rfl rfl 72 _ (heap_alloc_new w8 _) i72 rfl (i_one _) ?_
                         rw [World.setRow_alloc_new];obtain ⟨w9,hw9⟩:∃w9,w8.alloc (.cells (iV ins) 72)=w9:=⟨_,rfl⟩;rw [hw9];have SH9:=Aside.mk (SH8.out.quiet (w':=w9) (by rw [←hw9];exact (Bl.refl w8).alloc _));have IB9:Aside (IB w9 w8.heap.size ins):=⟨⟨by rw [←hw9];exact heap_alloc_new w8 _⟩⟩;have HA:=Aside.mk (step_any dec_ok SH9.out.a SH9.out.oka (Nat.le_trans SH9.out.la (Nat.le_of_succ_le LJ.out)))
                         clear hw9))
                     obtain ⟨u,hu⟩:∃u,feedS t ins ma.s bi m=u:=⟨_,rfl⟩;have HU:Aside (u.1.R.length=16):=⟨by rw [←hu];exact (feed_len t ins ma.s bi m).1.trans SH9.out.F.tR⟩;have HR:Aside (∀wx,Bl w9 wx→Calls Tryz.prog 25 #[.pointer (some ⟨gma,0,none⟩)] wx fun e w'=>e=.returned (.agg ma.s.arr)∧Bl wx w'):=⟨fun wx q=>by obtain ⟨_,_,h1⟩:=(SH9.out.a.keep q).mb;exact regs_any h1⟩
                     have HF:Aside (∀wx,Bl w9 wx→Calls Tryz.prog 24 #[.agg (tgV t (.slice (some ⟨r,0,none⟩) m cc)),.agg (iV ins),.agg ma.s.arr,.int .i64 (bi:Int),.int .i64 (m:Int)] wx fun e w'=>FdPost wx m u e w'):=⟨fun wx q=>by
                      obtain ⟨_,_,h1⟩:=SH9.out.a.mb;rw [←hu]
                      exact feed_any SH9.out.F.tR (SH9.out.rd.keep q) SH9.out.F.tW hm40 h1.ok (decI_iok _ _ hd) NUM.out.1⟩
                     have HTX:=Aside.mk (tgL_hi SH9.out.tb.len (.slice (some ⟨r,0,none⟩) m cc));have HUU:=Aside.mk hu;have HD:=Aside.mk hd;generalize w8.heap.size=gi at IB9 ⊢;clear hu hd
                     go_cut [27,28] (fun v27 v28 wx=>∃gz r2 c2,v27=.pointer (some ⟨gz,0,none⟩)∧v28=.bool u.2∧Aside (UB w9 wx gz r2 c2 m u.1))
                     case first =>
                      refine wp_region_held_drew (S:=fun w'=>Bl w9 w') (by kernel_rfl) ((Bl.refl w9).drew) (fun hS=>?_);have GD:Aside (w9.heap.size≤w9.drew.heap.size):=⟨Nat.le_refl _⟩;generalize w9.drew=wd at hS GD ⊢;refine yK 0 yo110 (.agg (tgV t (.slice (some ⟨r,0,none⟩) m cc))) (yieldsIf_load_mid rfl 62 _ rfl g5 0 rfl (tgL t (.slice (some ⟨r,0,none⟩) m cc)) _ (fun wx hx=>tb_rng (SH9.out.tb.keep hx)) Tryz.underlying62 rfl HTX.out) hS ?_
                      refine yK 1 yo111 (.agg (iV ins)) (yieldsIf_load_mid rfl 72 _ rfl gi 0 rfl (iV ins).toList _ (fun wx hx=>(IB9.out.keep hx).rng) Tryz.underlying72 rfl (i72s ins)) hS ?_;refine yR 2 yo112 (.pointer (some ⟨gma,0,none⟩)) hS ?_;refine yR 4 yo113 (.int .i64 (bi:Int)) hS ?_;refine yR 5 yo114 (.int .i64 (m:Int)) hS ?_;refine wpAnyH_ready (rs:=[3,10]) (by kernel_rfl) (by simp) (AllReadyH.cons (o:=yo119) rfl (fun K hK=>?_) (AllReadyH.cons (o:=yo120) rfl (fun K hK=>?_) AllReadyH.nil))
                      · skip
                        rw [if_pos (by rfl)];have hS':Bl w9 wd:=hS
                        go_wp2_with (first
                         | (go_at_call 25;(with_reducible refine (HR.out _ hS').mono ?_);rintro e w10 ⟨rfl,hb1⟩
                            have C1:=Aside.mk hb1;have S10:=Aside.mk (hS'.trans hb1)
                            clear hb1))
                        refine hK.out _ _ (S10.out) (fun hS=>?_);clear hK K
                        try simp only [Act.put,List.setIfInBounds_toArray,List.set_cons_zero,List.set_cons_succ]
                        refine wpAnyH_ready (rs:=[6,10]) (by kernel_rfl) (by simp) (AllReadyH.cons (o:=yo121) rfl (fun K hK=>?_) (AllReadyH.cons (o:=yo120) rfl (fun K hK=>?_) AllReadyH.nil))
                        · skip
                          rw [if_pos (by rfl)];have hS':Bl w9 w10:=hS
                          go_wp2_with (first
                           | (go_at_call 24;(with_reducible refine (HF.out _ hS').mono ?_);rintro e w11 ⟨r2,c2,rfl,hO,hb1⟩
                              have C2:=Aside.mk hb1;have O2:=Aside.mk hO;have G2:=Aside.mk (show w9.heap.size≤w10.heap.size from hS'.out.size);have S11:=Aside.mk (hS'.trans hb1)
                              clear hb1 hO))
                          refine hK.out _ _ (S11.out) (fun hS=>?_);clear hK K
                          try simp only [Act.put,List.setIfInBounds_toArray,List.set_cons_zero,List.set_cons_succ]
                          refine yR 7 yo115 (.tuple #[.agg (tgV u.1 (.slice (some ⟨r2,0,none⟩) m c2)),.bool u.2]) hS ?_;refine yR 8 yo116 (.agg (tgV u.1 (.slice (some ⟨r2,0,none⟩) m c2))) hS ?_;refine yR 9 yo117 (.bool u.2) hS ?_;refine wpAnyH_ready (rs:=[10]) (by kernel_rfl) (by simp) (AllReadyH.cons (o:=yo120) rfl (fun K hK=>?_) AllReadyH.nil)
                          go_simp
                          refine hK.out _ _ ((show Bl w9 w11 from hS).alloc _) (fun hS=>?_);clear hK K
                          try simp only [Act.put,List.setIfInBounds_toArray,List.set_cons_zero,List.set_cons_succ]
                          have Z:Aside (ZB (w11.alloc (.cells zT 62)) w11.heap.size):=⟨⟨heap_alloc_new w11 _⟩⟩;have GL:=Aside.mk (show w11.heap.size<(w11.alloc (.cells zT 62)).heap.size by simp);generalize hwa:w11.alloc (.cells zT 62)=wa at hS Z GL ⊢;generalize hgz:w11.heap.size=gz at Z GL ⊢;have E11:=Aside.mk (show Bl w11 wa by rw [←hwa];exact (Bl.refl w11).alloc _);have GZ:Aside (w9.heap.size≤gz):=⟨by rw [←hgz];exact S11.out.out.size⟩
                          have NG:Aside (r2≠gz):=⟨by have:=O2.out.lt;omega⟩;have O3:Aside (OwB wa w10.heap.size r2 m c2 u.1.W):=⟨O2.out.keep E11.out⟩;have SA:Aside (Bl w9 wa):=⟨S11.out.trans E11.out⟩;refine wpAnyH_ready (rs:=[11]) (by kernel_rfl) (by simp) (AllReadyH.cons (o:=yo122) rfl (fun K hK=>?_) AllReadyH.nil);rw [if_pos (by rfl)];refine wp_store_run 62 _ _ rfl (.pointer (some ⟨gz,0,none⟩)) (.agg (tgV u.1 (.slice (some ⟨r2,0,none⟩) m c2))) rfl rfl (store_row Z.out.h (tg_size HU.out _) (tg_one rfl)) ?_
                          refine hK.out _ _ (Bl.to SA.out (To.row wa gz _) GZ.out) (fun hS=>?_);clear hK K
                          try simp only [Act.put,List.setIfInBounds_toArray,List.set_cons_zero,List.set_cons_succ]
                          refine yR 12 yo118 _ hS ?_;refine wpAnyH_done (by kernel_rfl) ?_ _;go_wp2
                          go_meet
                          exact ⟨gz,r2,c2,rfl,rfl,⟨ub_mk Z.out HU.out O3.out G2.out NG.out SA.out GZ.out⟩⟩
                        · skip
                          go_simp
                          refine hK.out _ _ ((show Bl w9 w10 from hS).alloc _) (fun hS=>?_);clear hK K
                          try simp only [Act.put,List.setIfInBounds_toArray,List.set_cons_zero,List.set_cons_succ]
                          have Z:Aside (ZB (w10.alloc (.cells zT 62)) w10.heap.size):=⟨⟨heap_alloc_new w10 _⟩⟩;have GL:=Aside.mk (show w10.heap.size<(w10.alloc (.cells zT 62)).heap.size by simp);generalize hwa:w10.alloc (.cells zT 62)=wa at hS Z GL ⊢;generalize hgz:w10.heap.size=gz at Z GL ⊢;have GZ:Aside (w9.heap.size≤gz):=⟨by rw [←hgz];exact S10.out.out.size⟩;refine wpAnyH_ready (rs:=[6]) (by kernel_rfl) (by simp) (AllReadyH.cons (o:=yo121) rfl (fun K hK=>?_) AllReadyH.nil)
                          rw [if_pos (by rfl)];have hS':Bl w9 wa:=hS
                          go_wp2_with (first
                           | (go_at_call 24;(with_reducible refine (HF.out _ hS').mono ?_);rintro e w11 ⟨r2,c2,rfl,hO,hb1⟩
                              have C2:=Aside.mk hb1;have O2:=Aside.mk hO;have G2:=Aside.mk (show w9.heap.size≤wa.heap.size from hS'.out.size);have S11:=Aside.mk (hS'.trans hb1)
                              clear hb1 hO))
                          refine hK.out _ _ (S11.out) (fun hS=>?_);clear hK K
                          try simp only [Act.put,List.setIfInBounds_toArray,List.set_cons_zero,List.set_cons_succ]
                          refine yR 7 yo115 (.tuple #[.agg (tgV u.1 (.slice (some ⟨r2,0,none⟩) m c2)),.bool u.2]) hS ?_;refine yR 8 yo116 (.agg (tgV u.1 (.slice (some ⟨r2,0,none⟩) m c2))) hS ?_;refine yR 9 yo117 (.bool u.2) hS ?_;refine wpAnyH_ready (rs:=[11]) (by kernel_rfl) (by simp) (AllReadyH.cons (o:=yo122) rfl (fun K hK=>?_) AllReadyH.nil);rw [if_pos (by rfl)];refine wp_store_run 62 _ _ rfl (.pointer (some ⟨gz,0,none⟩)) (.agg (tgV u.1 (.slice (some ⟨r2,0,none⟩) m c2))) rfl rfl (store_row (Z.out.keep C2.out).h (tg_size HU.out _) (tg_one rfl)) ?_
                          refine hK.out _ _ (Bl.to S11.out (To.row w11 gz _) (GZ.out)) (fun hS=>?_);clear hK K
                          try simp only [Act.put,List.setIfInBounds_toArray,List.set_cons_zero,List.set_cons_succ]
                          refine yR 12 yo118 _ hS ?_;refine wpAnyH_done (by kernel_rfl) ?_ _;go_wp2
                          go_meet
                          exact ⟨gz,r2,c2,rfl,rfl,⟨ub_mk (Z.out.keep C2.out) HU.out O2.out G2.out (by have:=O2.out.hb;have:=GL.out;omega) S11.out (GZ.out)⟩⟩
                      · skip
                        go_simp
                        refine hK.out _ _ ((show Bl w9 wd from hS).alloc _) (fun hS=>?_);clear hK K
                        try simp only [Act.put,List.setIfInBounds_toArray,List.set_cons_zero,List.set_cons_succ]
                        have Z:Aside (ZB (wd.alloc (.cells zT 62)) wd.heap.size):=⟨⟨heap_alloc_new wd _⟩⟩;have GL:=Aside.mk (show wd.heap.size<(wd.alloc (.cells zT 62)).heap.size by simp);generalize hwa:wd.alloc (.cells zT 62)=wa at hS Z GL ⊢;generalize hgz:wd.heap.size=gz at Z GL ⊢;have GZ:Aside (w9.heap.size≤gz):=⟨by rw [←hgz];exact GD.out⟩;refine wpAnyH_ready (rs:=[3]) (by kernel_rfl) (by simp) (AllReadyH.cons (o:=yo119) rfl (fun K hK=>?_) AllReadyH.nil)
                        rw [if_pos (by rfl)];have hS':Bl w9 wa:=hS
                        go_wp2_with (first
                         | (go_at_call 25;(with_reducible refine (HR.out _ hS').mono ?_);rintro e w10 ⟨rfl,hb1⟩
                            have C1:=Aside.mk hb1;have S10:=Aside.mk (hS'.trans hb1)
                            clear hb1))
                        refine hK.out _ _ (S10.out) (fun hS=>?_);clear hK K
                        try simp only [Act.put,List.setIfInBounds_toArray,List.set_cons_zero,List.set_cons_succ]
                        refine wpAnyH_ready (rs:=[6]) (by kernel_rfl) (by simp) (AllReadyH.cons (o:=yo121) rfl (fun K hK=>?_) AllReadyH.nil);rw [if_pos (by rfl)];have hS':Bl w9 w10:=hS
                        go_wp2_with (first
                         | (go_at_call 24;(with_reducible refine (HF.out _ hS').mono ?_);rintro e w11 ⟨r2,c2,rfl,hO,hb1⟩
                            have C2:=Aside.mk hb1;have O2:=Aside.mk hO;have G2:=Aside.mk (show w9.heap.size≤w10.heap.size from hS'.out.size);have S11:=Aside.mk (hS'.trans hb1)
                            clear hb1 hO))
                        refine hK.out _ _ (S11.out) (fun hS=>?_);clear hK K
                        try simp only [Act.put,List.setIfInBounds_toArray,List.set_cons_zero,List.set_cons_succ]
                        refine yR 7 yo115 (.tuple #[.agg (tgV u.1 (.slice (some ⟨r2,0,none⟩) m c2)),.bool u.2]) hS ?_;refine yR 8 yo116 (.agg (tgV u.1 (.slice (some ⟨r2,0,none⟩) m c2))) hS ?_;refine yR 9 yo117 (.bool u.2) hS ?_;refine wpAnyH_ready (rs:=[11]) (by kernel_rfl) (by simp) (AllReadyH.cons (o:=yo122) rfl (fun K hK=>?_) AllReadyH.nil);rw [if_pos (by rfl)];refine wp_store_run 62 _ _ rfl (.pointer (some ⟨gz,0,none⟩)) (.agg (tgV u.1 (.slice (some ⟨r2,0,none⟩) m c2))) rfl rfl (store_row ((Z.out.keep C1.out).keep C2.out).h (tg_size HU.out _) (tg_one rfl)) ?_
                        refine hK.out _ _ (Bl.to S11.out (To.row w11 gz _) (GZ.out)) (fun hS=>?_);clear hK K
                        try simp only [Act.put,List.setIfInBounds_toArray,List.set_cons_zero,List.set_cons_succ]
                        refine yR 12 yo118 _ hS ?_;refine wpAnyH_done (by kernel_rfl) ?_ _;go_wp2
                        go_meet
                        exact ⟨gz,r2,c2,rfl,rfl,⟨ub_mk ((Z.out.keep C1.out).keep C2.out) HU.out O2.out G2.out (by have:=O2.out.hb;have:=GL.out;have:=C1.out.out.size;omega) S11.out (GZ.out)⟩⟩
                     case rest =>
                      obtain ⟨gz,r2,c2,rfl,rfl,HUB⟩:=hcut;have SHz:=Aside.mk (SH9.out.quiet HUB.out.bl);obtain ⟨fine,hfine⟩:∃fine,u.2=fine:=⟨_,rfl⟩;rw [hfine];cases fine
                      · go_wp2_with fail
                        go_ret;exact ⟨rfl,B0.out.trans SHz.out.bl⟩
                      · have S2:=SIM.out (by rw [HUU.out];exact hfine)
                        rw [HUU.out] at S2;have HBS:=Aside.mk S2.1;have SMU:=Aside.mk S2.2;clear S2;have HA:=Aside.mk (step_any dec_ok SHz.out.a SHz.out.oka (Nat.le_trans SHz.out.la (Nat.le_of_succ_le LJ.out)));obtain ⟨sA,hsA⟩:∃sA,(stepS UA ⟨setBN⟩ decI ma).2=sA:=⟨_,rfl⟩;rw [hsA] at HA HBS;have FZ:=Aside.mk (SH9.out.fresh HUB.out.gl);have FR:=Aside.mk (SH9.out.fresh HUB.out.rl)
                        by_cases hsT:(stepS UA ⟨setBN⟩ decI ma).1.st=0
                        · have SMT:Aside (Sim dd bi bk m (stepS UA ⟨setBN⟩ decI ma).1 (stepS UA ⟨setBN⟩ decI mb).1 u.1):=⟨by have:=SMU.out;rw [if_pos hsT] at this;exact this⟩
                          have HST0:=Aside.mk hsT;clear hsT
                          go_wp2_with (first
                           | (go_at_call_of 26 gma;(with_reducible refine HA.out.mono ?_);rintro e wa ⟨oba',rfl,hA,hk,ho⟩
                              have A1:=Aside.mk hA;have K1:=Aside.mk hk;have O1:=Aside.mk ho;have HB:=Aside.mk (step_any dec_ok (SHz.out.b_at hk) SHz.out.okb (by rw [SHz.out.S.core.out];exact Nat.le_trans SHz.out.la (Nat.le_of_succ_le LJ.out)));rw [HBS.out] at HB
                              clear hA hk ho)
                           | (go_at_call_of 26 gmb;(with_reducible refine HB.out.mono ?_);rintro e wb ⟨obb',rfl,hB,hk2,ho2⟩
                              have HST:=Aside.mk (mw_st (SHz.out.a_at A1.out O1.out hk2));rw [HST0.out] at HST;have TZ:Aside (TB wb gz u.1 (.slice (some ⟨r2,0,none⟩) m c2)):=⟨⟨by rw [SHz.out.tag_at K1.out hk2 HUB.out.tb.lt FZ.out.1 FZ.out.2.1];exact HUB.out.tb.h,HU.out⟩⟩;have TT:=Aside.mk (SHz.out.tbT K1.out hk2);have SHn:=Aside.mk (SHz.out.step_u A1.out K1.out O1.out hB hk2 ho2 HU.out HUB.out.len SMT.out HUB.out.rd HUB.out.rz FR.out.1 FR.out.2.1 FR.out.2.2)
                              clear hB hk2 ho2)
                           | (go_at_call_of 20 gma;(with_reducible refine HST.out.mono ?_);rintro e w12 ⟨rfl,rfl⟩)
                           | (refine wpList_load_row rfl 62 (.tmp 27) rfl gz rfl 62 (tgV u.1 (.slice (some ⟨r2,0,none⟩) m c2)) (0,0) _ TZ.out.h Tryz.underlying62 rfl (i62s TZ.out.len _) ?_)
                           | (refine wpList_store_row rfl 62 (.tmp 19) (.tmp 189) rfl g5 (tgV u.1 (.slice (some ⟨r2,0,none⟩) m c2)) rfl rfl 62 _ TT.out.h (i62s TZ.out.len _) (by rw [tg_size TT.out.len,tg_size TZ.out.len]) (tg_one rfl) ?_
                              obtain ⟨wn,hwn⟩:∃wn,World.setRow w12 g5 (tgV u.1 (.slice (some ⟨r2,0,none⟩) m c2))=wn:=⟨_,rfl⟩;rw [hwn] at SHn ⊢;have HMV:=Aside.mk (moved_any SHn.out.a SHn.out.b SHn.out.oka SHn.out.okb SHn.out.F SHn.out.S SHn.out.rd (Nat.le_trans SHn.out.la LJ.out));have HTL:=Aside.mk (And.intro SHn.out.tb.h (i62s SHn.out.tb.len (.slice (some ⟨r2,0,none⟩) m c2)))
                              clear hwn)
                           | (refine wpList_load_row rfl 62 (.tmp 19) rfl g5 rfl 62 (tgV u.1 (.slice (some ⟨r2,0,none⟩) m c2)) (0,0) _ HTL.out.1 Tryz.underlying62 rfl HTL.out.2 ?_)
                           | (go_at_call 27;(with_reducible refine HMV.out.mono ?_);rintro e w13 ⟨rfl,hb⟩
                              have SHf:=Aside.mk (SHn.out.quiet hb)
                              clear hb))
                          go_roundw
                          case rel=>exact ⟨j+1,oba',obb',_,_,u.1,r2,c2,by go_num,HLT.out,SHf⟩
                          case measure=>have:=HLT.out;simp [intOf];omega
                        · have SMT:Aside (Sim dd bi bk m (stepS UA ⟨setBN⟩ decI ma).1 (stepS UA ⟨setBN⟩ decI mb).1 t):=⟨by have:=SMU.out;rw [if_neg hsT] at this;exact this⟩
                          obtain ⟨sT,hsT2⟩:∃sT,(stepS UA ⟨setBN⟩ decI ma).1.st=sT:=⟨_,rfl⟩;rw [hsT2] at hsT
                          have hsT':¬((sT:Int)=0):=by omega
                          have HST0:=Aside.mk hsT2;clear hsT2
                          go_wp2_with (first
                           | (go_at_call_of 26 gma;(with_reducible refine HA.out.mono ?_);rintro e wa ⟨oba',rfl,hA,hk,ho⟩
                              have A1:=Aside.mk hA;have K1:=Aside.mk hk;have O1:=Aside.mk ho;have HB:=Aside.mk (step_any dec_ok (SHz.out.b_at hk) SHz.out.okb (by rw [SHz.out.S.core.out];exact Nat.le_trans SHz.out.la (Nat.le_of_succ_le LJ.out)));rw [HBS.out] at HB
                              clear hA hk ho)
                           | (go_at_call_of 26 gmb;(with_reducible refine HB.out.mono ?_);rintro e wb ⟨obb',rfl,hB,hk2,ho2⟩
                              have HST:=Aside.mk (mw_st (SHz.out.a_at A1.out O1.out hk2));rw [HST0.out] at HST;have SHn:=Aside.mk (SHz.out.step_t A1.out K1.out O1.out hB hk2 ho2 SMT.out);have HMV:=Aside.mk (moved_any SHn.out.a SHn.out.b SHn.out.oka SHn.out.okb SHn.out.F SHn.out.S SHn.out.rd (Nat.le_trans SHn.out.la LJ.out));have HTL:=Aside.mk (And.intro SHn.out.tb.h (i62s SHn.out.tb.len (.slice (some ⟨r,0,none⟩) m cc)))
                              clear hB hk2 ho2)
                           | (go_at_call_of 20 gma;(with_reducible refine HST.out.mono ?_);rintro e w12 ⟨rfl,rfl⟩)
                           | (refine wpList_load_row rfl 62 (.tmp 19) rfl g5 rfl 62 (tgV t (.slice (some ⟨r,0,none⟩) m cc)) (0,0) _ HTL.out.1 Tryz.underlying62 rfl HTL.out.2 ?_)
                           | (go_at_call 27;(with_reducible refine HMV.out.mono ?_);rintro e w13 ⟨rfl,hb⟩
                              have SHf:=Aside.mk (SHn.out.quiet hb)
                              clear hb))
                          go_roundw
                          case rel=>exact ⟨j+1,oba',obb',_,_,t,r,cc,by go_num,HLT.out,SHf⟩
                          case measure=>have:=HLT.out;simp [intOf];omega
                 · have d5:¬((na:Int)=(mem:Int)):=by omega
                   have d5':¬(na=mem):=g5';have e4:=E4.out;refine yV (.int .i64 (at_:Int)) ?_;refine yW (.bool false) ?_;refine yV (.bool false) ?_;refine yV (.int .i64 (at_:Int)) ?_;refine yV (.int .i64 (m:Int)) ?_;refine yW (.int .i64 (4*(m:Int))) ?_;refine yW (.bool false) ?_;refine yV (.bool false) ?_;refine yV (.bool false) ?_;refine yV (.int .i64 (at_:Int)) ?_;refine yW (.int .i64 0) ?_;refine yW (.bool false) ?_;refine yV (.bool false) ?_
                   refine yV (.bool false) ?_;refine yW (.pointer (some ⟨g5,16,none⟩)) ?_;refine yW (.slice (some ⟨r,0,none⟩) m cc) ?_;refine yV (.int .i64 (at_:Int)) ?_;refine yV (.int .i64 (a4:Int)) ?_ (by go_simp;exact EA4.out);refine yW (.pointer (some ⟨r,a4,none⟩)) ?_;refine yW (.bool false) ?_;refine yV (.bool false) ?_;refine yV (.bool false) ?_;refine yV (.slice AW na cw) ?_;refine yW (.int .i64 (na:Int)) ?_
                   refine yV (.int .i64 (mem:Int)) ?_;refine yW (.bool true) ?_;refine yV (.bool true) ?_;refine wl_end ?_;refine HC.out _ _ ?_
                   go_wp2_with fail
                   go_ret;exact ⟨rfl,B0.out.trans SHy.out.bl⟩
               · skip
                 have e4:=E4.out;refine yV (.int .i64 (at_:Int)) ?_;refine yW (.bool false) ?_;refine yV (.bool false) ?_;refine yV (.int .i64 (at_:Int)) ?_;refine yV (.int .i64 (m:Int)) ?_;refine yW (.int .i64 (4*(m:Int))) ?_;refine yW (.bool false) ?_;refine yV (.bool false) ?_;refine yV (.bool false) ?_;refine yV (.int .i64 (at_:Int)) ?_;refine yW (.int .i64 0) ?_;refine yW (.bool false) ?_;refine yV (.bool false) ?_
                 refine yV (.bool false) ?_;refine yW (.pointer (some ⟨g5,16,none⟩)) ?_;refine yW (.slice (some ⟨r,0,none⟩) m cc) ?_;refine yV (.int .i64 (at_:Int)) ?_;refine yV (.int .i64 (a4:Int)) ?_ (by go_simp;exact EA4.out);refine yW (.pointer (some ⟨r,a4,none⟩)) ?_;refine yW (.bool true) ?_;refine yV (.bool true) ?_;refine yV (.bool true) ?_;(iterate 4 refine yN ?_);refine yV (.bool true) ?_
                 refine wl_end ?_;refine HC.out _ _ ?_
                 go_wp2_with fail
                 go_ret;exact ⟨rfl,B0.out.trans SHy.out.bl⟩
             · have d3:¬((q4:Int)=0):=by omega
               have e4:=E4.out;refine yV (.int .i64 (at_:Int)) ?_;refine yW (.bool false) ?_;refine yV (.bool false) ?_;refine yV (.int .i64 (at_:Int)) ?_;refine yV (.int .i64 (m:Int)) ?_;refine yW (.int .i64 (4*(m:Int))) ?_;refine yW (.bool false) ?_;refine yV (.bool false) ?_;refine yV (.bool false) ?_;refine yV (.int .i64 (at_:Int)) ?_;refine yW (.int .i64 (q4:Int)) ?_;refine yW (.bool true) ?_
               refine yV (.bool true) ?_;refine yV (.bool true) ?_;(iterate 6 refine yN ?_);refine yV (.bool true) ?_;refine yV (.bool true) ?_
               (iterate 4 refine yN ?_);refine yV (.bool true) ?_
               refine wl_end ?_;refine HC.out _ _ ?_
               go_wp2_with fail
               go_ret;exact ⟨rfl,B0.out.trans SHy.out.bl⟩
       · have hst':¬((ma.st:Int)=0):=fun h=>hst (Int.ofNat.inj h)
         clear e1 e2
         go_wp2_with (first
          | (go_at_call 20;(with_reducible refine (mw_st SH.out.a).mono ?_);rintro e wx ⟨rfl,rfl⟩))
         go_ret;exact ⟨rfl,B0.out.trans SH.out.bl⟩
     · clear e1 e2
       go_wp2_with fail
       go_ret;exact ⟨rfl,B0.out.trans SH.out.bl⟩
end Go.Proofs.YtjmiaemabhlnjaaGreatDoor.Chains.Shifts
end
