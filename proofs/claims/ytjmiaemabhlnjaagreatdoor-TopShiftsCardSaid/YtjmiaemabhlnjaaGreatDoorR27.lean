/- A part of the proof of TopShifts. -/
import Derived.Test.YtjmiaemabhlnjaaGreatDoorR26
import Derived.Test.YtjmiaemabhlnjaaGreatDoorQ0
import Derived.Deep.QuietTactic
import Derived.Test.YtjmiaemabhlnjaaGreatDoorR24
import Derived.Laws.CopyOwn
import Derived.Test.YtjmiaemabhlnjaaGreatDoorR25
import Derived.Test.YtjmiaemabhlnjaaGreatDoorQ2
import Derived.Deep.RegionHeld3
import Derived.Deep.MidRow
section
set_option linter.all false
set_option maxRecDepth 20000
namespace Go.Proofs.YtjmiaemabhlnjaaGreatDoor.Chains.Shifts
open Go Go.RowKit Go.Proofs.YtjmiaemabhlnjaaGreatDoor.Chains
theorem beyond_any {w:World} {b1 b2 m cap:Nat} {ad:Addr} {l:List Int} (c0:w.cell? ⟨b1,0,none⟩=some (.slice (some ad) m cap)) (ce:w.cell? ⟨b2,0,none⟩=some (.int .i64 (4*(m:Int)))) (hr:Rd w (some ad) cap l) (hn:l.length=m) (h40:m≤40)
 {s:Nat} {x:Int} (hx:l[s]? = some x) (h0:0≤x) (h1:x≤4*(m:Int)) :
 Calls Tryz.prog 105 #[.int .i64 (s:Int),.pointer (some ⟨b1,0,none⟩),.pointer (some ⟨b2,0,none⟩)] w fun e w'=>e=.returned (.bool false)∧Bl w w':=by
 have hs:s<m:=by rw [←hn];exact (List.getElem?_eq_some_iff.1 hx).1
 have hc:=hr.cells ad rfl s x hx
 have hmc:m≤cap:=by have:=hr.le;omega
 have hs0:(0:Int)≤(s:Int):=by omega
 have hs1:(s:Int)<(m:Int):=by omega
 have hg:¬(4*(m:Int)<x):=by omega
 have hxm:x%18446744073709551616=x:=by omega
 clear hr hx;go_enter Tryz.func105,Tryz.ntmps105
 go_wp2_with fail
 go_quiet (fail)
 go_wp2;go_ret;exact ⟨congrArg (fun b=>Ending.returned (.bool b)) (decide_eq_false (by omega)),Bl.dN (Bl.refl _)⟩
theorem odd_any {w:World} {b2 m:Nat} (ce:w.cell? ⟨b2,0,none⟩=some (.int .i64 (4*(m:Int)))) {t:ByteArray} {z:Int} (h0:0≤z) (h1:z≤4*(m:Int)) (h4:z%4=0) :
 Calls Tryz.prog 106 #[.agg #[.string t,.int .i64 z],.pointer (some ⟨b2,0,none⟩)] w fun e w'=>e=.returned (.bool false)∧Bl w w':=by
 have hl:=World.block_lt_of_cell? w _ ce
 have h00:¬(z<0):=by omega
 have h10:¬(4*(m:Int)<z):=by omega
 have h40:z.tmod 4=0:=by rw [Int.tmod_eq_emod_of_nonneg h0];exact h4
 go_enter Tryz.func106,Tryz.ntmps106;go_wp2;go_ret;exact ⟨rfl,(Bl.refl w).alloc _⟩
theorem idxI_any {w:World} {D:Option Addr} {d ms b1 b2:Nat} {S:List Nat} (hr:RdI w D d S) (hms:S.length=ms) (h40:ms≤40)
 (HF:∀s∈S,∀wx,Bl w wx→Calls Tryz.prog 105 #[.int .i64 (s:Int),.pointer (some ⟨b1,0,none⟩),.pointer (some ⟨b2,0,none⟩)] wx fun e w'=>e=.returned (.bool false)∧Bl wx w') :
 Calls Tryz.prog 144 #[.slice D ms d,.func (.func 105) #[] #[.pointer (some ⟨b1,0,none⟩),.pointer (some ⟨b2,0,none⟩)]] w fun e w'=>e=.returned (.int .i64 (-1))∧Bl w w':=by
 have HR:=Aside.mk hr;have HM:=Aside.mk hms;have HFA:=Aside.mk HF
 have hmd:ms≤d:=by have:=hr.le;omega
 clear hr hms HF;go_enter Tryz.func144,Tryz.ntmps144
 go_wp2_with fail
 go_loopw [8] (fun i wr=>∃j:Nat,i=.int .i64 j∧j≤ms∧Aside (Bl w wr)) (fun i _=>ms - (intOf i).toNat)
 case atStart=>exact ⟨0,rfl,Nat.zero_le _,⟨Bl.refl _⟩⟩
 case round =>
  obtain ⟨j,rfl,hj,HB⟩:=hrel
  by_cases hlt:j<ms
  · obtain ⟨s,hf⟩:∃s,S[j]? = some s:=⟨_,List.getElem?_eq_getElem (by have:=HM.out;omega)⟩
    obtain ⟨bd,rfl⟩:∃bd,D=some bd:=by
     cases D with
     | some bd=>exact ⟨bd,rfl⟩
     | none =>
       have:=(HR.out.nil rfl).1;rw [this] at hf;simp at hf
    have hc:=HB.out.cell (HR.out.cells bd rfl j s hf);have HC:=Aside.mk (HFA.out s (List.mem_of_getElem? hf) wr HB.out);have HL:=Aside.mk hlt;clear hf
    go_wp2_with (first
     | (go_at_call 105;(with_reducible refine HC.out.mono ?_);rintro e w1 ⟨rfl,hb⟩
        have HB1:=Aside.mk (HB.out.trans hb)
        clear hb))
    go_roundw
    case rel=>exact ⟨j+1,by go_num,HL.out,HB1⟩
    case measure=>have:=HL.out;simp [intOf];omega
  · go_wp2_with fail
    go_ret;exact ⟨rfl,HB.out⟩
set_option maxHeartbeats 1000000 in
theorem idxS_any {w:World} {E:Option Addr} {f k b2:Nat} {Y:List (ByteArray×Int)} (hr:RdS w E f Y) (hms:Y.length=k) (h40:k≤40)
 (HF:∀t z,(t,z)∈Y→∀wx,Bl w wx→Calls Tryz.prog 106 #[.agg #[.string t,.int .i64 z],.pointer (some ⟨b2,0,none⟩)] wx fun e w'=>e=.returned (.bool false)∧Bl wx w') :
 Calls Tryz.prog 92 #[.slice E k f,.func (.func 106) #[] #[.pointer (some ⟨b2,0,none⟩)]] w fun e w'=>e=.returned (.int .i64 (-1))∧Bl w w':=by
 have HR:=Aside.mk hr;have HM:=Aside.mk hms;have HFA:=Aside.mk HF
 have hmd:k≤f:=by have:=hr.le;omega
 clear hr hms HF;go_enter Tryz.func92,Tryz.ntmps92
 go_wp2_with fail
 go_loopw [8] (fun i wr=>∃j:Nat,i=.int .i64 j∧j≤k∧Aside (Bl w wr)) (fun i _=>k - (intOf i).toNat)
 case atStart=>exact ⟨0,rfl,Nat.zero_le _,⟨Bl.refl _⟩⟩
 case round =>
  obtain ⟨j,rfl,hj,HB⟩:=hrel
  by_cases hlt:j<k
  · obtain ⟨⟨t,z⟩,hf⟩:∃s,Y[j]? = some s:=⟨_,List.getElem?_eq_getElem (by have:=HM.out;omega)⟩
    obtain ⟨bd,rfl⟩:∃bd,E=some bd:=by
     cases E with
     | some bd=>exact ⟨bd,rfl⟩
     | none =>
       have:=(HR.out.nil rfl).1;rw [this] at hf;simp at hf
    obtain ⟨e0,e1⟩:=(HR.out.keep HB.out).at hf
    dsimp only at e0 e1
    have HC:=Aside.mk (HFA.out t z (List.mem_of_getElem? hf) wr HB.out);have HL:=Aside.mk hlt;clear hf
    go_wp2_with (first
     | (go_at_call 106;(with_reducible refine HC.out.mono ?_);rintro e w1 ⟨rfl,hb⟩
        have HB1:=Aside.mk (HB.out.trans hb)
        clear hb))
    go_roundw
    case rel=>exact ⟨j+1,by go_num,HL.out,HB1⟩
    case measure=>have:=HL.out;simp [intOf];omega
  · go_wp2_with fail
    go_ret;exact ⟨rfl,HB.out⟩
theorem contI_any {w:World} {a b:Value} (HI:Calls Tryz.prog 144 #[a,b] w fun e w'=>e=.returned (.int .i64 (-1))∧Bl w w'):Calls Tryz.prog 108 #[a,b] w fun e w'=>e=.returned (.bool false)∧Bl w w':=by
 have H:=Aside.mk HI;clear HI;go_enter Tryz.func108,Tryz.ntmps108
 go_wp2_with (go_at_call 144;(with_reducible refine H.out.mono ?_);rintro e w1 ⟨rfl,hb⟩;have HB1:=Aside.mk hb;clear hb)
 go_ret;exact ⟨rfl,HB1.out⟩
theorem contS_any {w:World} {a b:Value} (HI:Calls Tryz.prog 92 #[a,b] w fun e w'=>e=.returned (.int .i64 (-1))∧Bl w w'):Calls Tryz.prog 109 #[a,b] w fun e w'=>e=.returned (.bool false)∧Bl w w':=by
 have H:=Aside.mk HI;clear HI;go_enter Tryz.func109,Tryz.ntmps109
 go_wp2_with (go_at_call 92;(with_reducible refine H.out.mono ?_);rintro e w1 ⟨rfl,hb⟩;have HB1:=Aside.mk hb;clear hb)
 go_ret;exact ⟨rfl,HB1.out⟩
theorem leq_str (s t:ByteArray) (w:World):(binOp .leq 9 (.string s) (.string t)).run Tryz.prog w=.ok (.bool (Op.bytesLess s.toList t.toList || s.toList==t.toList)) w:=by kernel_rfl
set_option maxHeartbeats 1000000 in
theorem named_any {w:World} {E:Option Addr} {f k b1:Nat} {Y:List (ByteArray×Int)} (hr:RdS w E f Y) (hms:Y.length=k) (h40:k≤40) (c2:w.cell? ⟨b1,2,none⟩=some (.slice E k f)) (hup:Up Y) (hgd:∀p∈Y,Nm p.1 6) :
 Calls Tryz.prog 107 #[.pointer (some ⟨b1,0,none⟩)] w fun e w'=>e=.returned (.bool true)∧Bl w w':=by
 have HR:=Aside.mk hr;have HM:=Aside.mk hms;have HU:=Aside.mk hup;have HG:=Aside.mk hgd;have C2:=Aside.mk c2
 have hmd:k≤f:=by have:=hr.le;omega
 clear hr hms hup hgd;go_enter Tryz.func107,Tryz.ntmps107
 go_wp2_with fail
 clear c2
 go_loopw [7] (fun i wr=>∃j:Nat,i=.int .i64 j∧j≤k∧Aside (Bl w wr)) (fun i _=>k - (intOf i).toNat)
 case atStart=>exact ⟨0,rfl,Nat.zero_le _,⟨Bl.refl _⟩⟩
 case round =>
  obtain ⟨j,rfl,hj,HB⟩:=hrel
  by_cases hlt:j<k
  · obtain ⟨⟨t,z⟩,hf⟩:∃s,Y[j]? = some s:=⟨_,List.getElem?_eq_getElem (by have:=HM.out;omega)⟩
    obtain ⟨bd,rfl⟩:∃bd,E=some bd:=by
     cases E with
     | some bd=>exact ⟨bd,rfl⟩
     | none =>
       have:=(HR.out.nil rfl).1;rw [this] at hf;simp at hf
    obtain ⟨e0,e1⟩:=(HR.out.keep HB.out).at hf
    dsimp only at e0 e1
    have HN:Aside (Nm t 6):=⟨HG.out (t,z) (List.mem_of_getElem? hf)⟩;have c2:=HB.out.cell C2.out;have HL:=Aside.mk hlt
    by_cases h0:j=0
    · have hg0:decide (0<j)=false:=decide_eq_false (by omega)
      clear hf h0
      go_wp2_with fail
      go_quiet (first | (go_at_call 102;refine Calls.quiet_of_same (name_le HN _)) | fail)
      generalize hK:World.drewN _ _=Wc;have HC:Aside (Bl w Wc):=⟨by rw [←hK];exact (HB.out.alloc _).dN⟩;clear hK;go_wp2
      go_roundw
      case rel=>exact ⟨j+1,by go_num,HL.out,HC⟩
      case measure=>have:=HL.out;simp [intOf];omega
    · obtain ⟨⟨t',z'⟩,hf'⟩:∃s,Y[j - 1]? = some s:=⟨_,List.getElem?_eq_getElem (by have:=HM.out;omega)⟩
      obtain ⟨g0,g1⟩:=(HR.out.keep HB.out).at hf'
      dsimp only at g0 g1
      have hlt:=HU.out (j - 1) _ _ hf' (by rw [show j - 1+1=j by omega];exact hf);have hle:Op.bytesLess t.toList t'.toList=false:=less_asym _ _ hlt
      have hne:(t.toList==t'.toList)=false:=by
       rw [beq_eq_false_iff_ne];intro e;have hlt:Op.bytesLess t'.toList t.toList=true:=hlt;rw [e,less_irr] at hlt;cases hlt
      have hg0:0<j:=by omega
      have hw1:IntKind.i64.wrap ((j:Int) - 1)=(j:Int) - 1:=by simp [IntKind.wrap,IntKind.bits,IntKind.signed];omega
      have hbl:=World.block_lt_of_cell? wr _ c2;have hbl2:=World.block_lt_of_cell? wr _ g0;obtain ⟨q,hq⟩:∃q:Nat,j=q+1:=⟨j - 1,by omega⟩;subst hq;simp only [Nat.add_sub_cancel] at g0 g1 hbl2
      have hq1:(q:Int)<(k:Int):=by omega
      have hq2:q<k:=by omega
      have hleq:∀wx,(binOp .leq 9 (.string t) (.string t')).run Tryz.prog wx=.ok (.bool false) wx:=fun wx=>by rw [leq_str,hle,hne];rfl
      have hqw:IntKind.i64.wrap (q:Int)=(q:Int):=by simp [IntKind.wrap,IntKind.bits,IntKind.signed];omega
      clear hw1;clear hf hf' h0
      go_wp2_with fail
      go_quiet (first | (go_at_call 102;refine Calls.quiet_of_same (name_le HN _)) | fail)
      generalize hK:World.drewN _ _=Wc;have HC:Aside (Bl w Wc):=⟨by rw [←hK];exact (HB.out.alloc _).dN⟩;clear hK;go_wp2
      go_roundw
      case rel=>exact ⟨q+1+1,by go_num,HL.out,HC⟩
      case measure=>have:=HL.out;simp [intOf];omega
  · go_wp2_with fail
    go_ret;exact ⟨rfl,HB.out⟩
structure Ob (w:World) (ad:Addr) (m cap:Nat) (D:Option Addr) (d ms:Nat) (E:Option Addr) (f k:Nat) (l:List Int) (S:List Nat) (Y:List (ByteArray×Int)):Prop where
 rd:Rd w (some ad) cap l
 ln:l.length=m
 m40:m≤40
 ri:RdI w D d S
 sn:S.length=ms
 rise:Rise S m
 sm:∀s∈S,∀x,l[s]? = some x→0≤x∧x≤4*(m:Int)
 rs:RdS w E f Y
 yn:Y.length=k
 k8:k≤8
 up:Up Y
 gd:∀p∈Y,Nm p.1 6∧0≤p.2∧p.2≤4*(m:Int)∧p.2%4=0
 low:∀x∈l,0≤x∧x<4294967296
theorem Ob.keep {w w':World} {ad:Addr} {m cap:Nat} {D:Option Addr} {d ms:Nat} {E:Option Addr} {f k:Nat} {l:List Int} {S:List Nat} {Y:List (ByteArray×Int)} (h:Ob w ad m cap D d ms E f k l S Y) (q:Bl w w'):Ob w' ad m cap D d ms E f k l S Y :=
 ⟨h.rd.keep q,h.ln,h.m40,h.ri.keep q,h.sn,h.rise,h.sm,h.rs.keep q,h.yn,h.k8,h.up,h.gd,h.low⟩
theorem Ob.ms40 {w:World} {ad:Addr} {m cap:Nat} {D:Option Addr} {d ms:Nat} {E:Option Addr} {f k:Nat} {l:List Int} {S:List Nat} {Y:List (ByteArray×Int)} (h:Ob w ad m cap D d ms E f k l S Y):ms≤40:=by
 have:=rise_len h.rise;have:=h.sn;have:=h.m40;omega
set_option maxHeartbeats 2000000 in
theorem may_ok {w:World} {ad:Addr} {m cap:Nat} {D:Option Addr} {d ms:Nat} {E:Option Addr} {f k:Nat} {l:List Int} {S:List Nat} {Y:List (ByteArray×Int)} (h:Ob w ad m cap D d ms E f k l S Y) :
 Calls Tryz.prog 74 #[.agg #[.slice (some ad) m cap,.slice D ms d,.slice E k f]] w fun e w'=>e=.returned (.int .i64 0)∧Bl w w':=by
 have hmf:∀(fn:Fn) (first cap:Array Value) (w:World),(Instr.makeFunc fn first cap).run Tryz.prog w=.ok (.func fn first cap) w:=fun _ _ _ _=>rfl;obtain ⟨W0,hW0⟩:∃W0,(w.alloc (.cells #[.slice (some ad) m cap,.slice D ms d,.slice E k f] 34)).alloc (.cells #[.int .i64 (4*(m:Int))] 3)=W0:=⟨_,rfl⟩;have B0:=Aside.mk (show Bl w W0 by rw [←hW0];exact ((Bl.refl w).alloc _).alloc _);have BX:=Aside.mk (show Box W0 w.heap.size (.slice (some ad) m cap) (.slice D ms d) (.slice E k f) by rw [←hW0];exact (Box.new w _ _ _ 34).keep ((Bl.refl _).alloc _))
 have CE:=Aside.mk (show W0.cell? ⟨w.heap.size+1,0,none⟩=some (.int .i64 (4*(m:Int))) by rw [←hW0,World.cell?_alloc_at _ _ _ _ (by simp)];rfl);have O0:=Aside.mk (h.keep B0.out);have hms:=h.ms40;have h40:=h.m40;have hk8:=h.k8;have HP:=Aside.mk (fun wx (q:Bl W0 wx)=>pack_any m ms ⟨h.ln⟩ ⟨h.sn⟩ ⟨(O0.out.keep q).rd⟩ ⟨(O0.out.keep q).ri⟩ ⟨h.rise⟩ h40 ⟨fun s hs x hx=>by have:=h.sm s hs x hx;omega⟩)
 have HB:=Aside.mk (fun wx (q:Bl W0 wx)=>contI_any (idxI_any (O0.out.keep q).ri h.sn hms (fun s hs wy qy=>by
  obtain ⟨x,hx⟩:∃x,l[s]? = some x:=⟨_,List.getElem?_eq_getElem (by have:=h.rise.lt s hs;have:=h.ln;omega)⟩
  exact beyond_any ((q.trans qy).cell BX.out.c0) ((q.trans qy).cell CE.out) (O0.out.keep (q.trans qy)).rd h.ln h40 hx (h.sm s hs x hx).1 (h.sm s hs x hx).2)))
 have HN:=Aside.mk (fun wx (q:Bl W0 wx)=>named_any (O0.out.keep q).rs h.yn (by omega) (q.cell BX.out.c2) h.up (fun p hp=>(h.gd p hp).1));have HO:=Aside.mk (fun wx (q:Bl W0 wx)=>contS_any (idxS_any (O0.out.keep q).rs h.yn (by omega) (fun t z hp wy qy=>odd_any ((q.trans qy).cell CE.out) (h.gd _ hp).2.1 (h.gd _ hp).2.2.1 (h.gd _ hp).2.2.2)))
 have hw1:wrap64 (4*(m:Int))=4*(m:Int):=by simp [wrap64,IntKind.wrap,IntKind.bits,IntKind.signed];omega
 have i1:¬((1024:Int)<(m:Int)):=by omega
 have i2:¬((64:Int)<(k:Int)):=by omega
 have i3:¬(1024<m):=by omega
 have i4:¬(64<k):=by omega
 obtain ⟨c0,c1,c2⟩:=BX.out;clear h O0;go_enter Tryz.func74,Tryz.ntmps74
 go_wp2_with (first
  | (go_at_call 14;((with_reducible refine (HP.out _ (Bl.refl _)).mono ?_);rintro e w1 ⟨g,cap1,rfl,how,hb⟩)
     have B1:=Aside.mk hb;obtain ⟨d0,d1,d2⟩:=BX.out.keep hb
     clear how hb c0 c1 c2)
  | (go_at_call 108;((with_reducible refine (HB.out _ B1.out).mono ?_);rintro e w2 ⟨rfl,hb⟩)
     have B2:=Aside.mk (B1.out.trans hb);obtain ⟨f0,f1,f2⟩:=BX.out.keep (B1.out.trans hb)
     clear hb d0 d1 d2)
  | (go_at_call 107;((with_reducible refine (HN.out _ B2.out).mono ?_);rintro e w3 ⟨rfl,hb⟩)
     have B3:=Aside.mk (B2.out.trans hb);obtain ⟨g0,g1,g2⟩:=BX.out.keep (B2.out.trans hb)
     clear hb f0 f1 f2)
  | (go_at_call 109;((with_reducible refine (HO.out _ B3.out).mono ?_);rintro e w4 ⟨rfl,hb⟩)
     have B4:=Aside.mk (B3.out.trans hb)
     clear hb))
 go_ret;exact ⟨rfl,B0.out.trans B4.out⟩
def zRS:RS:=⟨List.replicate 16 0,0,false,false,false,false⟩
theorem zRS_ok:zRS.Ok:=⟨rfl,fun x h=>by have:=List.eq_of_mem_replicate h;omega,by show 0<4294967296;decide⟩
theorem new_any {w:World} {A:Option Addr} {c n k:Nat} {l:List Nat} (hr:RdW w A c l) (hl:l.length=k) (hk:k≤20) (hn:n≤4096) :
 Calls Tryz.prog 42 #[.int .i64 (n:Int),.slice A k c] w fun e w'=>∃gm ga ib,e=.returned (.tuple #[.pointer (some ⟨gm,0,none⟩),.int .i64 0])∧MW w' gm ga ib none ⟨zRS,0,0,l,[],zeroM,n⟩∧Bl w w'∧w.heap.size≤gm∧w.heap.size≤ga∧(∀g,ib=some g→w.heap.size≤g):=by
 have HM:=Aside.mk (memnew_ok w n hn);have HC:=Aside.mk (fun wx (q:Bl w wx)=>clonew_any k hl (hr.keep q) (by omega));clear hr;go_enter Tryz.func42,Tryz.ntmps42
 go_wp2_with (first
  | (go_at_call 75;(with_reducible refine HM.out.mono ?_);rintro e w1 ⟨rfl,hm,hb⟩
     have M1:=Aside.mk hm;have B1:=Aside.mk hb
     clear hm hb)
  | (go_at_call 39;(with_reducible refine (HC.out _ B1.out).mono ?_);rintro e w2 ⟨v,rfl,ho,hb⟩
     obtain ⟨A2,c2,rfl,hr2,hlen2,hlt2⟩:=RdW.own ho;have R2:=Aside.mk hr2;have L2:=Aside.mk (And.intro hlen2 hlt2);have B2:=Aside.mk hb
     clear ho hb hr2 hlen2 hlt2))
 go_ret2;have z1:=B1.out.out.size;have z2:=B2.out.out.size;have hm2:=M1.out.keep B2.out;have hlt:=hm2.lth;have hlt1:=M1.out.lth;subst hl;refine ⟨w2.heap.size,w.heap.size,A2.map (·.block),rfl,⟨⟨A2,c2,.slice none 0 0,⟨heap_alloc_new w2 _,zRS_ok⟩,R2.out.keep ((Bl.refl _).alloc _),rfl,World.ownsRow_nil _ _ _ _,rfl⟩,hm2.keep ((Bl.refl _).alloc _),by omega,?_,?_,by simp,by simp,by simp,?_⟩,(B1.out.trans B2.out).alloc _,by omega,Nat.le_refl _,?_⟩
 all_goals (cases A2 with
  | none=>simp
  | some ad=>(have:=L2.out.2 ad rfl;simp;omega))
abbrev rV (at_ mem:Nat):Array Value:=#[.int .u32 0,.int .u32 0,.int .u32 0,.int .u32 0,.int .u32 0,.int .u32 0,.int .u32 0,.int .u32 0,.int .u32 0,.int .u32 0,.int .u32 0,.int .u32 0,.int .u32 0,.int .u32 (at_:Int),.int .u32 (4*(mem:Int)),.int .u32 0,.int .u32 0,.bool false,.bool false,.bool false,.bool false]
theorem rV_is {at_ mem:Nat} (hm:mem≤4096) (ha:at_≤16384):rV at_ mem=(regs0 at_ mem).arr:=by
 have h1:at_%4294967296=at_:=Nat.mod_eq_of_lt (by omega);have h2:4*mem%4294967296=4*mem:=Nat.mod_eq_of_lt (by omega);unfold regs0;rw [h1,h2]
 rfl
theorem rV_one (at_ mem:Nat):(rV at_ mem).all (·.oneCell')=true:=by kernel_rfl
set_option maxHeartbeats 1000000 in
theorem regs_new {at_ mem:Nat} (hm:mem≤4096) (ha:at_≤16384) (w:World):Calls Tryz.prog 45 #[.int .i64 (at_:Int),.int .i64 (mem:Int)] w fun e w'=>e=.returned (.agg (regs0 at_ mem).arr)∧Bl w w':=by
 have h3:wrap64 (4*(mem:Int))=4*(mem:Int):=by simp [wrap64,IntKind.wrap,IntKind.bits,IntKind.signed];omega
 rw [←rV_is hm ha];have H1:=Aside.mk (rV_one at_ mem);go_enter Tryz.func45,Tryz.ntmps45
 go_wp2_with (first
  | (refine wpList_load_row rfl 68 (.tmp 5) rfl (w.heap.size+1) rfl 68 (rV at_ mem) (0,0) _ (heap_alloc2_new w _ _) Tryz.underlying68 rfl i68 ?_)
  | (refine wpList_store_row rfl 68 (.tmp 4) (.tmp 15) rfl w.heap.size (rV at_ mem) rfl rfl 68 _ (heap_alloc2_old w _ _) i68 rfl H1.out ?_))
 refine bodyPost_ret (results_cell_row rfl _ _ w.heap.size 68 (rV at_ mem) (0,0) _ rfl (setRow_heap _ _ _ _ _ (0,0) (heap_alloc2_old w _ _)) Tryz.underlying68 rfl i68) rfl ?_;exact ⟨rfl,⟨below_setRow (((Bl.refl w).alloc _).alloc _).out (Nat.le_refl _) _⟩⟩
theorem rd_rdw {w:World} {A:Option Addr} {c:Nat} {l:List Nat} (h:Rd w A c (l.map fun x:Nat=>(x:Int))):RdW w A c l :=
 ⟨by simpa using h.le,h.mx,fun e=>⟨by simpa using (h.nil e).1,(h.nil e).2⟩,fun ad ha j x hj=>h.cells ad ha j x (by simp [hj])⟩
theorem nat_back {l:List Int} (h:∀x∈l,0≤x∧x<4294967296):(l.map Int.toNat).map (fun x:Nat=>(x:Int))=l:=by
 rw [List.map_map];refine (List.map_congr_left (fun x hx=>?_)).trans (List.map_id l);have:=(h x hx).1
 show ((x.toNat:Nat):Int)=x
 omega
abbrev liN (base:Nat) (ws S:List Nat):List Int:=(imgN base ws S).map fun x:Nat=>(x:Int)
theorem liN_step {base:Nat} {ws S:List Nat} {j s:Nat} (hs:S[j]? = some s):(liN base ws (S.take j)).set s ((((imgN base ws (S.take j)).getD s 0:Nat)+(base:Int))%4294967296)=liN base ws (S.take (j+1)):=by
 rw [take_snoc S j s hs];unfold liN;rw [imgN_snoc];unfold imgStep;rw [List.map_set]
 congr 1
theorem ow_made {w1 w2:World} {m:Nat} {zs:List Value} (h:w2.ownsRow w1.heap.size 56 1 (.slice (some ⟨w1.heap.size,0,none⟩) m m) m zs):∃cur:Array Value,w2.heap[w1.heap.size]? = some (.cells cur 56 (0,0))∧cur.size=m:=by
 obtain ⟨_,h2⟩:=h
 rcases h2 with ⟨h3,_⟩ | ⟨g,cap,cur,h3,hg,hh,hl,hm,hs,ht⟩
 · cases h3
 · cases h3
   exact ⟨cur,hh,by omega⟩
theorem ow_copied {w2:World} {g m:Nat} {l:List Int} {cur:Array Value} (hh:w2.heap[g]? = some (.cells cur 56 (0,0))) (hc:cur.size=m) (hl:l.length=m) (hm:m≤40):Ow (w2.setRow g (cur.toList.take 0++(u32s l++cur.toList.drop (0+(u32s l).length))).toArray) g g m m l:=by
 have hu:(u32s l).length=m:=by simpa [u32s] using hl
 refine ⟨hl,Nat.le_refl _,by unfold maxLen;omega,fun _=>⟨Nat.le_refl _,by rw [hu];omega,.inr ⟨g,m,_,rfl,Nat.le_refl _,setRow_heap _ _ _ _ _ (0,0) hh,Nat.le_refl _,by unfold maxLen;omega,?_,?_⟩⟩⟩
 · simp [hu,hc]
 · simp [hu,hc]
set_option maxHeartbeats 2000000 in
theorem image_ok {w:World} {ad:Addr} {m cap:Nat} {D:Option Addr} {d ms:Nat} {E:Option Addr} {f k:Nat} {l:List Int} {S:List Nat} {Y:List (ByteArray×Int)} (h:Ob w ad m cap D d ms E f k l S Y) {base:Nat} (hb:base≤124) (h4:base%4=0) :
 Calls Tryz.prog 41 #[.agg #[.slice (some ad) m cap,.slice D ms d,.slice E k f],.int .i64 (base:Int)] w fun e w'=>∃A c,e=.returned (.tuple #[.slice A m c,.int .i64 0])∧RdW w' A c (imgN base (l.map Int.toNat) S)∧Bl w w':=by
 obtain ⟨W0,hW0⟩:∃W0,w.alloc (.cells #[.slice (some ad) m cap,.slice D ms d,.slice E k f] 34)=W0:=⟨_,rfl⟩;have B0:=Aside.mk (show Bl w W0 by rw [←hW0];exact (Bl.refl w).alloc _);have BX:=Aside.mk (show Box W0 w.heap.size (.slice (some ad) m cap) (.slice D ms d) (.slice E k f) by rw [←hW0];exact Box.new w _ _ _ 34);have O0:=Aside.mk (h.keep B0.out);have HM:=Aside.mk (may_ok O0.out);have hms:=h.ms40
 have h40:=h.m40;obtain ⟨c0,c1,c2⟩:=BX.out
 have i1:¬((base:Int)<0):=by omega
 have i2:¬((16384:Int)<(base:Int)):=by omega
 have i3:((base:Int)).tmod 4=0:=by rw [Int.tmod_eq_emod_of_nonneg (by omega)];omega
 have i4:¬(16384<base):=by omega
 have i5:(base:Int)%4294967296=(base:Int):=by omega
 obtain ⟨i0,hi,hz0,hz1,hz2⟩:=info_parts infoU;have HR:=Aside.mk (fun wx (q:Bl W0 wx)=>(O0.out.keep q).rd);have HI:=Aside.mk (fun wx (q:Bl W0 wx)=>(O0.out.keep q).ri);have HL:=Aside.mk h.ln;have HSN:=Aside.mk h.sn;have HRI:=Aside.mk h.rise;have HLO:=Aside.mk (nat_back h.low)
 have hmd:ms≤d:=by have:=h.ri.le;have:=h.sn;omega
 clear h O0;go_enter Tryz.func41,Tryz.ntmps41
 go_wp2_with (first
  | (go_at_call 74;((with_reducible refine HM.out.mono ?_);rintro e w1 ⟨rfl,hb⟩)
     have B1:=Aside.mk hb;obtain ⟨d0,d1,d2⟩:=BX.out.keep hb
     clear hb c0 c1 c2)
  | (refine wpList_make_full w1 rfl (.tmp 28) (.tmp 28) 22 rfl w1.heap.size 56 i0 (.int .u32 0) 1 Tryz.underlying22 hi hz0 hz1 .i64 .i64 (m:Int) (m:Int) m rfl rfl rfl rfl (by rw [hz2];omega) (by unfold maxLen;omega) (Nat.le_refl _) ?_
     intro w2 how hgr;obtain ⟨cur,hh,hcs⟩:=ow_made how;have B2:=Aside.mk (B1.out.grow hgr (fun g e=>by cases e));have HH:=Aside.mk (And.intro hh hcs);obtain ⟨f0,f1,f2⟩:=BX.out.keep B2.out
     clear how hgr hh hcs d0 d1 d2)
  | (refine wpList_copy_own rfl (.tmp 30) (.tmp 32) 22 22 rfl 56 Tryz.underlying22 (by rw [hi];exact congrArg some hz1) w1.heap.size 0 m m ad m cap rfl rfl cur 56 HH.out.1 (u32s l) (by simp [u32s,HL.out]) ((HR.out _ B2.out).vals) (by simp [u32s,HL.out,HH.out.2]) (u32s_one l) ?_
     have HO:=Aside.mk (ow_copied (g:=w1.heap.size) HH.out.1 HH.out.2 HL.out h40);have B3:=Aside.mk (show Bl W0 (w2.setRow w1.heap.size (cur.toList.take 0++(u32s l++cur.toList.drop (0+(u32s l).length))).toArray) from ⟨below_setRow B2.out.out B1.out.out.size _⟩);generalize w2.setRow w1.heap.size (cur.toList.take 0++(u32s l++cur.toList.drop (0+(u32s l).length))).toArray=w3 at HO B3
     obtain ⟨f0,f1,f2⟩:=BX.out.keep B3.out))
 have HO0:Aside (Ow w3 w1.heap.size w1.heap.size m m (liN base (l.map Int.toNat) (S.take 0))):=⟨by
  have e:liN base (l.map Int.toNat) (S.take 0)=l:=HLO.out
  rw [e];exact HO.out⟩
 have HG:=Aside.mk (show w.heap.size<w1.heap.size from by
  have:=B1.out.out.size
  have h2:W0.heap.size=w.heap.size+1:=by rw [←hW0];simp
  omega)
 have HG0:=Aside.mk B1.out.out.size;clear f0 f1 f2 HO;generalize w1.heap.size=g at HO0 HG HG0 HH B3 ⊢
 go_loopw [37] (fun i wr=>∃j:Nat,i=.int .i64 j∧j≤ms∧Aside (Ow wr g g m m (liN base (l.map Int.toNat) (S.take j)))∧Aside (Bl W0 wr)) (fun i _=>ms - (intOf i).toNat)
 case atStart=>exact ⟨0,rfl,Nat.zero_le _,HO0,B3⟩
 case round =>
  obtain ⟨j,rfl,hj,HOJ,HBJ⟩:=hrel
  by_cases hlt:j<ms
  · obtain ⟨s,hf⟩:∃s,S[j]? = some s:=⟨_,List.getElem?_eq_getElem (by have:=HSN.out;omega)⟩
    obtain ⟨bd,rfl⟩:∃bd,D=some bd:=by
     cases D with
     | some bd=>exact ⟨bd,rfl⟩
     | none =>
       have:=((HI.out _ HBJ.out).nil rfl).1;rw [this] at hf;simp at hf
    have hc:=(HI.out _ HBJ.out).cells bd rfl j s hf;have hsm:s<m:=HRI.out.lt s (List.mem_of_getElem? hf);obtain ⟨x,hx⟩:∃x,(imgN base (l.map Int.toNat) (S.take j)).getD s 0=x:=⟨_,rfl⟩
    have hxl:(liN base (l.map Int.toNat) (S.take j))[s]? = some (x:Int):=by
     have hlen:(imgN base (l.map Int.toNat) (S.take j)).length=m:=by rw [imgN_len];simpa using HL.out
     rw [←hx];simp only [liN,List.getElem?_map,List.getD_eq_getElem?_getD];rw [List.getElem?_eq_getElem (by omega)]
     rfl
    obtain ⟨q0,q1,q2⟩:=HOJ.out.at hxl;have HN:Aside (liN base (l.map Int.toNat) (S.take (j+1))=(liN base (l.map Int.toNat) (S.take j)).set s (((x:Nat)+(base:Int))%4294967296)):=⟨by rw [←hx];exact (liN_step hf).symm⟩;have HLT:=Aside.mk hlt
    have hs0:(0:Int)≤(s:Int):=by omega
    have hs1:(s:Int)<(m:Int):=by omega
    clear hf hx hxl
    go_wp2_with fail
    go_roundw
    case rel=>exact ⟨j+1,by go_num,HLT.out,⟨by rw [HN.out];exact HOJ.out.put s _⟩,⟨HBJ.out.puts (p:=⟨g,s,none⟩) HG0.out _⟩⟩
    case measure=>have:=HLT.out;simp [intOf];omega
  · obtain rfl:ms=j:=by omega
    go_wp2_with fail
    go_ret2;refine ⟨some ⟨g,0,none⟩,m,rfl,?_,B0.out.trans HBJ.out⟩;have e:S.take ms=S:=List.take_of_length_le (by have:=HSN.out;omega);have:=HOJ.out.rd;rw [e] at this;exact rd_rdw this
theorem results_none {P:Program} {fn:Func} (h:fn.results=#[]) (tmps:Array Value) (w:World):(results fn tmps).run P w=.ok (.tuple #[]) w:=by simp [results,h]
theorem start_any {w:World} {gm ga:Nat} {s0 s:RS} {pc0 st0 pc:Nat} {inV outV:Value} (h:MBlk w gm ga s0 pc0 st0 inV outV) (hs:s.Ok) :
 Calls Tryz.prog 44 #[.pointer (some ⟨gm,0,none⟩),.int .u32 (pc:Int),.agg s.arr] w fun e w'=>e=.returned (.tuple #[])∧MBlk w' gm ga s pc 0 inV outV∧w.grownBy w' (some gm):=by
 obtain ⟨w0,hw0⟩:∃w0,w.alloc (.cells s.arr 68)=w0:=⟨_,rfl⟩;have B0:=Aside.mk (show Bl w w0 by rw [←hw0];exact (Bl.refl w).alloc _);have M0:=Aside.mk (h.keep B0.out);have I0:=Aside.mk (show w0.heap[w.heap.size]? = some (.cells s.arr 68 (0,0)) by rw [←hw0];exact heap_alloc_new w _);have MB:=Aside.mk (M0.out.keep (Bl.refl w0).drew);have NE:=Aside.mk (show w.heap.size≠gm by have:=h.lt;omega);have HS:=Aside.mk hs
 obtain ⟨c0,c1,c2,c3,c4⟩:=M0.out.cells;have f22:=M0.out.frz 22
 have hi1:(Tryz.prog.info? 68).map (·.size)=some s.cells.length:=by rw [hs.clen];exact i68
 have hvA:w0.drew.rangeAt w.heap.size 0 s.cells:=fun j v hj=>by rw [cell_of_row w0.drew _ (0+j) _ _ (0,0) I0.out];show s.cells.toArray[0+j]? = _;simpa using hj
 have hvB:(w0.drew.setCell ⟨gm,22,none⟩ (.int .u32 (pc:Int))).rangeAt w.heap.size 0 s.cells:=fun j v hj=>cell_off (hvA j v hj) NE.out _ _;obtain ⟨w2,hs2,hm2,hg2⟩:=(MB.out.setPc pc).st HS.out;have M2:=Aside.mk hm2;have G2:=Aside.mk hg2;obtain ⟨d0,d1,d2,d3,d4⟩:=hm2.cells;have g23:=hm2.frz 23;clear h hs hm2 hg2;go_enter Tryz.func44,Tryz.ntmps44
 go_wp2_with fail
 refine wp_region_any (by kernel_rfl) ?_
 change wpAny _ _ _ _ _ _ _ (World.drew _)
 refine wpAny_take (i:=0) (oi:={dst:=some 6,op:=Op.move (Operand.tmp 0),type:=51,pos := "machine.go:33",after:=#[],guard:=none}) (v:=.pointer (some ⟨gm,0,none⟩)) rfl (by kernel_rfl) (by kernel_rfl) (by kernel_rfl) (fun _ _ _ h=>h) (Or.inl ⟨rfl,fun w=>rfl⟩) ?_;simp only [Act.put,List.setIfInBounds_toArray,List.set_cons_zero,List.set_cons_succ];refine wpAny_take (i:=1) (oi:={dst:=some 7,op:=Op.move (Operand.tmp 0),type:=51,pos := "machine.go:33",after:=#[{on:=7,ground:=Ground.gcOnly Departure.lateStores}],guard:=none}) (v:=.pointer (some ⟨gm,0,none⟩)) rfl (by kernel_rfl) (by kernel_rfl) (by kernel_rfl) (fun _ _ _ h=>h) (Or.inl ⟨rfl,fun w=>rfl⟩) ?_
 simp only [Act.put,List.setIfInBounds_toArray,List.set_cons_zero,List.set_cons_succ];refine wpAny_take (i:=2) (oi:={dst:=some 8,op:=Op.move (Operand.tmp 0),type:=51,pos := "machine.go:33",after:=#[{on:=10,ground:=Ground.gcOnly Departure.lateStores}],guard:=none}) (v:=.pointer (some ⟨gm,0,none⟩)) rfl (by kernel_rfl) (by kernel_rfl) (by kernel_rfl) (fun _ _ _ h=>h) (Or.inl ⟨rfl,fun w=>rfl⟩) ?_;simp only [Act.put,List.setIfInBounds_toArray,List.set_cons_zero,List.set_cons_succ]
 refine wpAny_take (i:=3) (oi:={dst:=some 9,op:=Op.move (Operand.tmp 1),type:=56,pos := "machine.go:33",after:=#[],guard:=none}) (v:=.int .u32 (pc:Int)) rfl (by kernel_rfl) (by kernel_rfl) (by kernel_rfl) (fun _ _ _ h=>h) (Or.inl ⟨rfl,fun w=>rfl⟩) ?_;simp only [Act.put,List.setIfInBounds_toArray,List.set_cons_zero,List.set_cons_succ];refine wpAny_take (i:=5) (oi:={dst:=some 11,op:=Op.nilCheck (Operand.tmp 6),type:=0,pos := "machine.go:33",after:=#[{on:=0,ground:=Ground.data},{on:=0,ground:=Ground.phase},{on:=1,ground:=Ground.textOnly Departure.lateStores},{on:=2,ground:=Ground.textOnly Departure.lateStores},{on:=3,ground:=Ground.phase},{on:=4,ground:=Ground.textOnly Departure.lateStores}],guard:=none}) (v:=.pointer (some ⟨gm,0,none⟩)) rfl (by kernel_rfl) (by kernel_rfl) (by kernel_rfl) (fun _ _ _ h=>h) (Or.inl ⟨rfl,fun w=>rfl⟩) ?_
 simp only [Act.put,List.setIfInBounds_toArray,List.set_cons_zero,List.set_cons_succ];refine wpAny_take (i:=6) (oi:={dst:=some 12,op:=Op.fieldAddr 70 (Operand.tmp 11) 2,type:=0,pos := "machine.go:33",after:=#[{on:=5,ground:=Ground.data},{on:=0,ground:=Ground.phase},{on:=1,ground:=Ground.textOnly Departure.lateStores},{on:=2,ground:=Ground.textOnly Departure.lateStores},{on:=3,ground:=Ground.phase},{on:=4,ground:=Ground.textOnly Departure.lateStores}],guard:=none}) (v:=.pointer (some ⟨gm,22,none⟩)) rfl (by kernel_rfl) (by kernel_rfl) (by kernel_rfl) (fun _ _ _ h=>h) (Or.inl ⟨rfl,fun w=>by go_simp⟩) ?_
 simp only [Act.put,List.setIfInBounds_toArray,List.set_cons_zero,List.set_cons_succ];refine wpAny_ready (rs:=[4,7]) (by kernel_rfl) (by simp) (AllReady.cons (o:={dst:=some 10,op:=Op.load 68 (Operand.tmp 5),type:=68,pos := "machine.go:33",after:=#[{on:=7,ground:=Ground.gcOnly Departure.lateStores}],guard:=none}) rfl (fun K hK=>?_) (AllReady.cons (o:={dst:=none,op:=Op.store 56 (Operand.tmp 12) (Operand.tmp 9),type:=0,pos := "machine.go:33",after:=#[{on:=6,ground:=Ground.data},{on:=3,ground:=Ground.data},{on:=0,ground:=Ground.phase},{on:=1,ground:=Ground.textOnly Departure.lateStores},{on:=2,ground:=Ground.textOnly Departure.lateStores},{on:=3,ground:=Ground.phase},{on:=4,ground:=Ground.textOnly Departure.lateStores}],guard:=none}) rfl (fun K hK=>?_) AllReady.nil))
 · skip
   rw [if_pos (by rfl)];refine wp_load_mid 68 (.tmp 5) rfl w.heap.size 0 rfl s.cells _ hvA Tryz.underlying68 rfl hi1 ?_;refine hK _ _ ?_;clear hK K
   try simp only [Act.put,List.setIfInBounds_toArray,List.set_cons_zero,List.set_cons_succ]
   refine wpAny_ready (rs:=[7]) (by kernel_rfl) (by simp) (AllReady.cons (o:={dst:=none,op:=Op.store 56 (Operand.tmp 12) (Operand.tmp 9),type:=0,pos := "machine.go:33",after:=#[{on:=6,ground:=Ground.data},{on:=3,ground:=Ground.data},{on:=0,ground:=Ground.phase},{on:=1,ground:=Ground.textOnly Departure.lateStores},{on:=2,ground:=Ground.textOnly Departure.lateStores},{on:=3,ground:=Ground.phase},{on:=4,ground:=Ground.textOnly Departure.lateStores}],guard:=none}) rfl (fun K hK=>?_) AllReady.nil)
   go_simp
   refine hK _ _ ?_;clear hK K
   try simp only [Act.put,List.setIfInBounds_toArray,List.set_cons_zero,List.set_cons_succ]
   refine wpAny_take (i:=8) (oi:={dst:=some 13,op:=Op.nilCheck (Operand.tmp 7),type:=0,pos := "machine.go:33",after:=#[{on:=1,ground:=Ground.data},{on:=0,ground:=Ground.phase},{on:=1,ground:=Ground.phase},{on:=2,ground:=Ground.textOnly Departure.lateStores},{on:=3,ground:=Ground.phase},{on:=4,ground:=Ground.phase},{on:=5,ground:=Ground.phase},{on:=6,ground:=Ground.phase},{on:=7,ground:=Ground.phase}],guard:=none}) (v:=.pointer (some ⟨gm,0,none⟩)) rfl (by kernel_rfl) (by kernel_rfl) (by kernel_rfl) (fun _ _ _ h=>h) (Or.inl ⟨rfl,fun w=>rfl⟩) ?_
   simp only [Act.put,List.setIfInBounds_toArray,List.set_cons_zero,List.set_cons_succ];refine wpAny_take (i:=9) (oi:={dst:=some 14,op:=Op.fieldAddr 70 (Operand.tmp 13) 1,type:=0,pos := "machine.go:33",after:=#[{on:=8,ground:=Ground.data},{on:=0,ground:=Ground.phase},{on:=1,ground:=Ground.phase},{on:=2,ground:=Ground.textOnly Departure.lateStores},{on:=3,ground:=Ground.phase},{on:=4,ground:=Ground.phase},{on:=5,ground:=Ground.phase},{on:=6,ground:=Ground.phase},{on:=7,ground:=Ground.phase}],guard:=none}) (v:=.pointer (some ⟨gm,1,none⟩)) rfl (by kernel_rfl) (by kernel_rfl) (by kernel_rfl) (fun _ _ _ h=>h) (Or.inl ⟨rfl,fun w=>by go_simp⟩) ?_
   simp only [Act.put,List.setIfInBounds_toArray,List.set_cons_zero,List.set_cons_succ];refine wpAny_ready (rs:=[10]) (by kernel_rfl) (by simp) (AllReady.cons (o:={dst:=none,op:=Op.store 68 (Operand.tmp 14) (Operand.tmp 10),type:=0,pos := "machine.go:33",after:=#[{on:=9,ground:=Ground.data},{on:=4,ground:=Ground.data},{on:=7,ground:=Ground.chain},{on:=0,ground:=Ground.phase},{on:=1,ground:=Ground.phase},{on:=2,ground:=Ground.textOnly Departure.lateStores},{on:=3,ground:=Ground.phase},{on:=4,ground:=Ground.phase},{on:=5,ground:=Ground.phase},{on:=6,ground:=Ground.phase},{on:=7,ground:=Ground.phase}],guard:=none}) rfl (fun K hK=>?_) AllReady.nil)
   rw [if_pos (by rfl)];refine wp_store_run 68 _ _ rfl (.pointer (some ⟨gm,1,none⟩)) (.agg s.arr) rfl rfl hs2 ?_;refine hK _ _ ?_;clear hK K
   try simp only [Act.put,List.setIfInBounds_toArray,List.set_cons_zero,List.set_cons_succ]
   refine wpAny_take (i:=11) (oi:={dst:=some 15,op:=Op.nilCheck (Operand.tmp 8),type:=0,pos := "machine.go:33",after:=#[{on:=2,ground:=Ground.data},{on:=0,ground:=Ground.phase},{on:=1,ground:=Ground.phase},{on:=2,ground:=Ground.phase},{on:=3,ground:=Ground.phase},{on:=4,ground:=Ground.phase},{on:=5,ground:=Ground.phase},{on:=6,ground:=Ground.phase},{on:=7,ground:=Ground.phase},{on:=8,ground:=Ground.phase},{on:=9,ground:=Ground.phase},{on:=10,ground:=Ground.phase}],guard:=none}) (v:=.pointer (some ⟨gm,0,none⟩)) rfl (by kernel_rfl) (by kernel_rfl) (by kernel_rfl) (fun _ _ _ h=>h) (Or.inl ⟨rfl,fun w=>rfl⟩) ?_
   simp only [Act.put,List.setIfInBounds_toArray,List.set_cons_zero,List.set_cons_succ];refine wpAny_take (i:=12) (oi:={dst:=some 16,op:=Op.fieldAddr 70 (Operand.tmp 15) 3,type:=0,pos := "machine.go:33",after:=#[{on:=11,ground:=Ground.data},{on:=0,ground:=Ground.phase},{on:=1,ground:=Ground.phase},{on:=2,ground:=Ground.phase},{on:=3,ground:=Ground.phase},{on:=4,ground:=Ground.phase},{on:=5,ground:=Ground.phase},{on:=6,ground:=Ground.phase},{on:=7,ground:=Ground.phase},{on:=8,ground:=Ground.phase},{on:=9,ground:=Ground.phase},{on:=10,ground:=Ground.phase}],guard:=none}) (v:=.pointer (some ⟨gm,23,none⟩)) rfl (by kernel_rfl) (by kernel_rfl) (by kernel_rfl) (fun _ _ _ h=>h) (Or.inl ⟨rfl,fun w=>by go_simp⟩) ?_
   simp only [Act.put,List.setIfInBounds_toArray,List.set_cons_zero,List.set_cons_succ];refine wpAny_ready (rs:=[13]) (by kernel_rfl) (by simp) (AllReady.cons (o:={dst:=none,op:=Op.store 3 (Operand.tmp 16) (Operand.const (Value.int IntKind.i64 0)),type:=0,pos := "machine.go:33",after:=#[{on:=12,ground:=Ground.data},{on:=10,ground:=Ground.chain},{on:=0,ground:=Ground.phase},{on:=1,ground:=Ground.phase},{on:=2,ground:=Ground.phase},{on:=3,ground:=Ground.phase},{on:=4,ground:=Ground.phase},{on:=5,ground:=Ground.phase},{on:=6,ground:=Ground.phase},{on:=7,ground:=Ground.phase},{on:=8,ground:=Ground.phase},{on:=9,ground:=Ground.phase},{on:=10,ground:=Ground.phase}],guard:=none}) rfl (fun K hK=>?_) AllReady.nil)
   go_simp
   refine hK _ _ ?_;clear hK K
   try simp only [Act.put,List.setIfInBounds_toArray,List.set_cons_zero,List.set_cons_succ]
   refine wpAny_done (by kernel_rfl) ?_ _;refine ⟨rfl,_,results_none rfl _ _,rfl,M2.out.setSt 0,?_⟩;exact (((bl_by B0.out.drew (some gm)).trans (grown_setM _ gm 22 _)).trans G2.out).trans (grown_setM _ gm 23 _)
 · skip
   go_simp
   refine hK _ _ ?_;clear hK K
   try simp only [Act.put,List.setIfInBounds_toArray,List.set_cons_zero,List.set_cons_succ]
   refine wpAny_ready (rs:=[4]) (by kernel_rfl) (by simp) (AllReady.cons (o:={dst:=some 10,op:=Op.load 68 (Operand.tmp 5),type:=68,pos := "machine.go:33",after:=#[{on:=7,ground:=Ground.gcOnly Departure.lateStores}],guard:=none}) rfl (fun K hK=>?_) AllReady.nil);rw [if_pos (by rfl)];refine wp_load_mid 68 (.tmp 5) rfl w.heap.size 0 rfl s.cells _ hvB Tryz.underlying68 rfl hi1 ?_;refine hK _ _ ?_;clear hK K
   try simp only [Act.put,List.setIfInBounds_toArray,List.set_cons_zero,List.set_cons_succ]
   refine wpAny_take (i:=8) (oi:={dst:=some 13,op:=Op.nilCheck (Operand.tmp 7),type:=0,pos := "machine.go:33",after:=#[{on:=1,ground:=Ground.data},{on:=0,ground:=Ground.phase},{on:=1,ground:=Ground.phase},{on:=2,ground:=Ground.textOnly Departure.lateStores},{on:=3,ground:=Ground.phase},{on:=4,ground:=Ground.phase},{on:=5,ground:=Ground.phase},{on:=6,ground:=Ground.phase},{on:=7,ground:=Ground.phase}],guard:=none}) (v:=.pointer (some ⟨gm,0,none⟩)) rfl (by kernel_rfl) (by kernel_rfl) (by kernel_rfl) (fun _ _ _ h=>h) (Or.inl ⟨rfl,fun w=>rfl⟩) ?_
   simp only [Act.put,List.setIfInBounds_toArray,List.set_cons_zero,List.set_cons_succ];refine wpAny_take (i:=9) (oi:={dst:=some 14,op:=Op.fieldAddr 70 (Operand.tmp 13) 1,type:=0,pos := "machine.go:33",after:=#[{on:=8,ground:=Ground.data},{on:=0,ground:=Ground.phase},{on:=1,ground:=Ground.phase},{on:=2,ground:=Ground.textOnly Departure.lateStores},{on:=3,ground:=Ground.phase},{on:=4,ground:=Ground.phase},{on:=5,ground:=Ground.phase},{on:=6,ground:=Ground.phase},{on:=7,ground:=Ground.phase}],guard:=none}) (v:=.pointer (some ⟨gm,1,none⟩)) rfl (by kernel_rfl) (by kernel_rfl) (by kernel_rfl) (fun _ _ _ h=>h) (Or.inl ⟨rfl,fun w=>by go_simp⟩) ?_
   simp only [Act.put,List.setIfInBounds_toArray,List.set_cons_zero,List.set_cons_succ];refine wpAny_ready (rs:=[10]) (by kernel_rfl) (by simp) (AllReady.cons (o:={dst:=none,op:=Op.store 68 (Operand.tmp 14) (Operand.tmp 10),type:=0,pos := "machine.go:33",after:=#[{on:=9,ground:=Ground.data},{on:=4,ground:=Ground.data},{on:=7,ground:=Ground.chain},{on:=0,ground:=Ground.phase},{on:=1,ground:=Ground.phase},{on:=2,ground:=Ground.textOnly Departure.lateStores},{on:=3,ground:=Ground.phase},{on:=4,ground:=Ground.phase},{on:=5,ground:=Ground.phase},{on:=6,ground:=Ground.phase},{on:=7,ground:=Ground.phase}],guard:=none}) rfl (fun K hK=>?_) AllReady.nil)
   rw [if_pos (by rfl)];refine wp_store_run 68 _ _ rfl (.pointer (some ⟨gm,1,none⟩)) (.agg s.arr) rfl rfl hs2 ?_;refine hK _ _ ?_;clear hK K
   try simp only [Act.put,List.setIfInBounds_toArray,List.set_cons_zero,List.set_cons_succ]
   refine wpAny_take (i:=11) (oi:={dst:=some 15,op:=Op.nilCheck (Operand.tmp 8),type:=0,pos := "machine.go:33",after:=#[{on:=2,ground:=Ground.data},{on:=0,ground:=Ground.phase},{on:=1,ground:=Ground.phase},{on:=2,ground:=Ground.phase},{on:=3,ground:=Ground.phase},{on:=4,ground:=Ground.phase},{on:=5,ground:=Ground.phase},{on:=6,ground:=Ground.phase},{on:=7,ground:=Ground.phase},{on:=8,ground:=Ground.phase},{on:=9,ground:=Ground.phase},{on:=10,ground:=Ground.phase}],guard:=none}) (v:=.pointer (some ⟨gm,0,none⟩)) rfl (by kernel_rfl) (by kernel_rfl) (by kernel_rfl) (fun _ _ _ h=>h) (Or.inl ⟨rfl,fun w=>rfl⟩) ?_
   simp only [Act.put,List.setIfInBounds_toArray,List.set_cons_zero,List.set_cons_succ];refine wpAny_take (i:=12) (oi:={dst:=some 16,op:=Op.fieldAddr 70 (Operand.tmp 15) 3,type:=0,pos := "machine.go:33",after:=#[{on:=11,ground:=Ground.data},{on:=0,ground:=Ground.phase},{on:=1,ground:=Ground.phase},{on:=2,ground:=Ground.phase},{on:=3,ground:=Ground.phase},{on:=4,ground:=Ground.phase},{on:=5,ground:=Ground.phase},{on:=6,ground:=Ground.phase},{on:=7,ground:=Ground.phase},{on:=8,ground:=Ground.phase},{on:=9,ground:=Ground.phase},{on:=10,ground:=Ground.phase}],guard:=none}) (v:=.pointer (some ⟨gm,23,none⟩)) rfl (by kernel_rfl) (by kernel_rfl) (by kernel_rfl) (fun _ _ _ h=>h) (Or.inl ⟨rfl,fun w=>by go_simp⟩) ?_
   simp only [Act.put,List.setIfInBounds_toArray,List.set_cons_zero,List.set_cons_succ];refine wpAny_ready (rs:=[13]) (by kernel_rfl) (by simp) (AllReady.cons (o:={dst:=none,op:=Op.store 3 (Operand.tmp 16) (Operand.const (Value.int IntKind.i64 0)),type:=0,pos := "machine.go:33",after:=#[{on:=12,ground:=Ground.data},{on:=10,ground:=Ground.chain},{on:=0,ground:=Ground.phase},{on:=1,ground:=Ground.phase},{on:=2,ground:=Ground.phase},{on:=3,ground:=Ground.phase},{on:=4,ground:=Ground.phase},{on:=5,ground:=Ground.phase},{on:=6,ground:=Ground.phase},{on:=7,ground:=Ground.phase},{on:=8,ground:=Ground.phase},{on:=9,ground:=Ground.phase},{on:=10,ground:=Ground.phase}],guard:=none}) rfl (fun K hK=>?_) AllReady.nil)
   go_simp
   refine hK _ _ ?_;clear hK K
   try simp only [Act.put,List.setIfInBounds_toArray,List.set_cons_zero,List.set_cons_succ]
   refine wpAny_done (by kernel_rfl) ?_ _;refine ⟨rfl,_,results_none rfl _ _,rfl,M2.out.setSt 0,?_⟩;exact (((bl_by B0.out.drew (some gm)).trans (grown_setM _ gm 22 _)).trans G2.out).trans (grown_setM _ gm 23 _)
theorem regs0_ok {at_ mem:Nat}:(regs0 at_ mem).Ok :=
 ⟨by simp [regs0],set_lt (set_lt (fun x hx=>by have:=List.eq_of_mem_replicate hx;omega) (Nat.mod_lt _ (by decide))) (Nat.mod_lt _ (by decide)),by show 0<4294967296;decide⟩
set_option maxHeartbeats 2000000 in
theorem machine_ok {w:World} {ad:Addr} {m cap:Nat} {D:Option Addr} {d ms:Nat} {E:Option Addr} {f k:Nat} {l:List Int} {S:List Nat} {Y:List (ByteArray×Int)} (h:Ob w ad m cap D d ms E f k l S Y) {base mem:Nat} (hb:base≤124) (h4:base%4=0) (hfit:base / 4+m≤mem) (hmem:mem≤4096)
 {IN:Option Addr} {ci ki:Nat} {inp:List Nat} (hin:RdW w IN ci inp) (hki:inp.length=ki) (hk20:ki≤20) :
 Calls Tryz.prog 16 #[.agg #[.slice (some ad) m cap,.slice D ms d,.slice E k f],.int .i64 (base:Int),.int .i64 (mem:Int),.slice IN ki ci] w fun e w'=>∃gm ga ib,e=.returned (.tuple #[.pointer (some ⟨gm,0,none⟩),.int .i64 0])∧MW w' gm ga ib none (ms0 base mem (l.map Int.toNat) S inp)∧Bl w w'∧w.heap.size≤gm∧w.heap.size≤ga∧(∀g,ib=some g→w.heap.size≤g):=by
 obtain ⟨W0,hW0⟩:∃W0,w.alloc (.cells #[.slice (some ad) m cap,.slice D ms d,.slice E k f] 34)=W0:=⟨_,rfl⟩;have B0:=Aside.mk (show Bl w W0 by rw [←hW0];exact (Bl.refl w).alloc _);have BX:=Aside.mk (show Box W0 w.heap.size (.slice (some ad) m cap) (.slice D ms d) (.slice E k f) by rw [←hW0];exact Box.new w _ _ _ 34);have HI:=Aside.mk (image_ok (h.keep B0.out) hb h4);have HN:=Aside.mk (fun wx (q:Bl W0 wx)=>new_any (n:=mem) ((hin.keep B0.out).keep q) hki hk20 hmem)
 have HR:=Aside.mk (fun wx=>regs_new (at_:=base) (mem:=mem) hmem (by omega) wx)
 have hlen:(imgN base (l.map Int.toNat) S).length=m:=by rw [imgN_len];simpa using h.ln
 have hlow:∀x∈imgN base (l.map Int.toNat) S,x<4294967296:=imgN_lt _ _ (fun x hx=>by
  obtain ⟨y,hy,rfl⟩:=List.mem_map.1 hx;have:=h.low y hy
  omega)
 have HL:=Aside.mk (And.intro hlen hlow);obtain ⟨c0,c1,c2⟩:=BX.out;obtain ⟨b4,hb4⟩:∃b4,base / 4=b4:=⟨_,rfl⟩
 have i0:(base:Int) / 4=(b4:Int):=by omega
 have i1:(base:Int).tdiv 4=(b4:Int):=by rw [Int.tdiv_eq_ediv_of_nonneg (by omega)];exact i0
 have i2:(base:Int)%4294967296=(base:Int):=by omega
 have i3:b4<4096:=by omega
 rw [hb4] at hfit;have HB4:=Aside.mk hb4;clear h hin hki hlen hlow hb4;go_enter Tryz.func16,Tryz.ntmps16
 go_wp2_with (first
  | (go_at_call 41;((with_reducible refine HI.out.mono ?_);rintro e w1 ⟨A1,c1',rfl,hr,hbl⟩)
     have R1:=Aside.mk hr;have B1:=Aside.mk hbl
     clear hr hbl c0 c1 c2)
  | (go_at_call 42;((with_reducible refine (HN.out _ B1.out).mono ?_);rintro e w2 ⟨gm,ga,ib,rfl,hM,hbl,hg1,hg2,hg3⟩)
     have M2:=Aside.mk hM;have B2:=Aside.mk hbl;have G2:=Aside.mk (And.intro hg1 (And.intro hg2 hg3));obtain ⟨e1,e2,e3⟩:=hM.pcc;have HP:=Aside.mk (place_ok hM.mem b4 m ⟨R1.out.keep hbl⟩ ⟨HL.out.1⟩ i3 hfit HL.out.2)
     clear hM hbl hg1 hg2 hg3)
  | (go_at_call 43;((with_reducible refine HP.out.mono ?_);rintro e w3 ⟨rfl,hM,hgr⟩)
     have M3:=Aside.mk (M2.out.memy hgr.size (fun g hg hn=>hgr.block g hg (fun e=>hn (Option.some.inj e))) hM);have G3:=Aside.mk hgr
     clear hM hgr e1 e2 e3)
  | (go_at_call 45;((with_reducible refine (HR.out _).mono ?_);rintro e w4 ⟨rfl,hb⟩)
     have M4:=Aside.mk (M3.out.keep hb);have B4:=Aside.mk hb;obtain ⟨inV,outV,hmb⟩:=M4.out.mb;have MB:=Aside.mk hmb;have HS:=Aside.mk (start_any hmb (s:=regs0 base mem) (pc:=base) regs0_ok)
     clear hb hmb)
  | (go_at_call 44;((with_reducible refine HS.out.mono ?_);rintro e w5 ⟨rfl,hmb5,hgr⟩)
     have M5:=Aside.mk (M4.out.of_mb MB.out hgr hmb5);have G5:=Aside.mk hgr
     clear hmb5 hgr))
 go_ret2;have hq:=HB4.out;subst hq;refine ⟨gm,ga,ib,rfl,M5.out,?_,Nat.le_trans (Nat.le_trans B0.out.out.size B1.out.out.size) G2.out.1,Nat.le_trans (Nat.le_trans B0.out.out.size B1.out.out.size) G2.out.2.1,fun g e=>Nat.le_trans (Nat.le_trans B0.out.out.size B1.out.out.size) (G2.out.2.2 g e)⟩;have z:=Nat.le_trans B0.out.out.size B1.out.out.size;exact ((((B0.out.trans B1.out).trans B2.out).grow G3.out (fun g e=>by obtain rfl:=Option.some.inj e;exact Nat.le_trans z G2.out.2.1)).trans B4.out).grow G5.out (fun g e=>by obtain rfl:=Option.some.inj e;exact Nat.le_trans z G2.out.1)
end Go.Proofs.YtjmiaemabhlnjaaGreatDoor.Chains.Shifts
end
section
set_option linter.all false
set_option maxRecDepth 20000
namespace Go.Proofs.YtjmiaemabhlnjaaGreatDoor.Chains.Shifts
section
variable {t:TG} {i:I} {s:RS} {base words:Nat}
theorem fs_3 (hk:i.kd=3):(({t with R:=t.R.set i.a false,NZ:=false}:TG),true)=feedS t i s base words:=by simp [feedS,hk]
theorem fs_4 (hk:i.kd=4):(({t with R:=t.R.set i.a false,NZ:=false}:TG),!t.NZ && !t.CV)=feedS t i s base words:=by simp [feedS,hk]
theorem fs_1_0 (hk:i.kd=1) (hop:i.op=0):(({t with R:=t.R.set i.a (tagR t i.c),NZ:=(tagR t i.c),CV:=t.CV}:TG),true)=feedS t i s base words:=by
 cases h1:tagR t i.b<;>cases h2:tagR t i.c<;>simp [feedS,hk,hop,h1,h2]
theorem fs_1_8 (hk:i.kd=1) (hop:i.op=8):(({t with R:=t.R.set i.a ((tagR t i.b) || (tagR t i.c)),NZ:=((tagR t i.b) || (tagR t i.c)),CV:=((tagR t i.b) || (tagR t i.c))}:TG),(!((tagR t i.b)&&(tagR t i.c)) && !(i.u&&t.CV)))=feedS t i s base words:=by
 cases h1:tagR t i.b<;>cases h2:tagR t i.c<;>simp [feedS,hk,hop,h1,h2]
theorem fs_1_9 (hk:i.kd=1) (hop:i.op=9):(({t with R:=t.R.set i.a ((tagR t i.b) || (tagR t i.c)),NZ:=((tagR t i.b) || (tagR t i.c)),CV:=((tagR t i.b) || (tagR t i.c))}:TG),(!((tagR t i.b)&&(tagR t i.c)) && !(tagR t i.c) && !(i.u&&t.CV)))=feedS t i s base words:=by
 cases h1:tagR t i.b<;>cases h2:tagR t i.c<;>simp [feedS,hk,hop,h1,h2]
theorem fs_1_x (hk:i.kd=1) (hop:i.op≠0∧i.op≠8∧i.op≠9):(({t with R:=t.R.set i.a false,NZ:=false,CV:=t.CV}:TG),(!(tagR t i.b) && !(tagR t i.c)))=feedS t i s base words:=by
 cases h1:tagR t i.b<;>cases h2:tagR t i.c<;>simp [feedS,hk,hop.1,hop.2.1,hop.2.2,beq_eq_false_iff_ne.2 hop.1,beq_eq_false_iff_ne.2 hop.2.1,beq_eq_false_iff_ne.2 hop.2.2,h1,h2]
theorem fs_2_0 (hk:i.kd=2) (hop:i.op=0):(({t with R:=t.R.set i.a false,NZ:=false,CV:=t.CV}:TG),true)=feedS t i s base words:=by
 cases h1:tagR t i.b<;>simp [feedS,hk,hop,h1]
theorem fs_2_8 (hk:i.kd=2) (hop:i.op=8):(({t with R:=t.R.set i.a ((tagR t i.b) || false),NZ:=((tagR t i.b) || false),CV:=((tagR t i.b) || false)}:TG),(!((tagR t i.b)&&false) && !(i.u&&t.CV)))=feedS t i s base words:=by
 cases h1:tagR t i.b<;>simp [feedS,hk,hop,h1]
theorem fs_2_9 (hk:i.kd=2) (hop:i.op=9):(({t with R:=t.R.set i.a ((tagR t i.b) || false),NZ:=((tagR t i.b) || false),CV:=((tagR t i.b) || false)}:TG),(!((tagR t i.b)&&false) && !false && !(i.u&&t.CV)))=feedS t i s base words:=by
 cases h1:tagR t i.b<;>simp [feedS,hk,hop,h1]
theorem fs_2_x (hk:i.kd=2) (hop:i.op≠0∧i.op≠8∧i.op≠9):(({t with R:=t.R.set i.a false,NZ:=false,CV:=t.CV}:TG),(!(tagR t i.b) && !false))=feedS t i s base words:=by
 cases h1:tagR t i.b<;>simp [feedS,hk,hop.1,hop.2.1,hop.2.2,beq_eq_false_iff_ne.2 hop.1,beq_eq_false_iff_ne.2 hop.2.1,beq_eq_false_iff_ne.2 hop.2.2,h1]
theorem fs_7 (hk:i.kd=7):((if i.u then {t with R:=t.R.set 15 (takenS s i.op || tagR t 15)} else t:TG),decide (i.op%8=7) || !t.NZ && !t.CV)=feedS t i s base words:=by simp [feedS,hk]
theorem fs_6 (hk:i.kd=6):((if i.u then {t with R:=t.R.set 15 (takenS s i.op || tagR t 15)} else t:TG),(decide (i.op%8=7) || !t.NZ && !t.CV)&&(tagR t i.c || !takenS s i.op))=feedS t i s base words:=by simp [feedS,hk]
theorem fs_5n_0 (hk:i.kd=5) (hop:i.op=0) (hb:tagR t i.b=false):(({t with R:=t.R.set i.a false,NZ:=false}:TG),(((reg s i.b+word32 i.im)%4294967296)==4294967232 || ((reg s i.b+word32 i.im)%4294967296)==4294967236 || ((reg s i.b+word32 i.im)%4294967296)==4294967240))=feedS t i s base words:=by simp [feedS,hk,hop,hb]
theorem fs_5n_1 (hk:i.kd=5) (hop:i.op=1) (hb:tagR t i.b=false):(({t with R:=t.R.set i.a false,NZ:=false}:TG),false)=feedS t i s base words:=by simp [feedS,hk,hop,hb]
theorem fs_5n_2 (hk:i.kd=5) (hop:i.op=2) (hb:tagR t i.b=false):(t,(((reg s i.b+word32 i.im)%4294967296)==4294967232 || ((reg s i.b+word32 i.im)%4294967296)==4294967236 || ((reg s i.b+word32 i.im)%4294967296)==4294967240) && !tagR t i.a)=feedS t i s base words:=by simp [feedS,hk,hop,hb]
theorem fs_5n_3 (hk:i.kd=5) (hop:i.op=3) (hb:tagR t i.b=false):(t,false)=feedS t i s base words:=by simp [feedS,hk,hop,hb]
theorem fs_5b_o (hk:i.kd=5) (hb:tagR t i.b=true) (hr:(reg s i.b+word32 i.im)%4294967296<base∨base+4*words≤(reg s i.b+word32 i.im)%4294967296):(t,false)=feedS t i s base words:=by simp [feedS,hk,hb,hr]
theorem nr {x base words:Nat} (hr:base≤x∧x<base+4*words):¬(x<base∨base+4*words≤x):=by omega
theorem fs_5b_0 (hk:i.kd=5) (hop:i.op=0) (hb:tagR t i.b=true) (hr:base≤(reg s i.b+word32 i.im)%4294967296∧(reg s i.b+word32 i.im)%4294967296<base+4*words):(({t with R:=t.R.set i.a (t.W.getD ((((reg s i.b+word32 i.im)%4294967296) - base) / 4) false),NZ:=(t.W.getD ((((reg s i.b+word32 i.im)%4294967296) - base) / 4) false)}:TG),true)=feedS t i s base words:=by simp [feedS,hk,hop,hb,nr hr]
theorem fs_5b_1 (hk:i.kd=5) (hop:i.op=1) (hb:tagR t i.b=true) (hr:base≤(reg s i.b+word32 i.im)%4294967296∧(reg s i.b+word32 i.im)%4294967296<base+4*words):(({t with R:=t.R.set i.a false,NZ:=false}:TG),!(t.W.getD ((((reg s i.b+word32 i.im)%4294967296) - base) / 4) false))=feedS t i s base words:=by simp [feedS,hk,hop,hb,nr hr]
theorem fs_5b_2 (hk:i.kd=5) (hop:i.op=2) (hb:tagR t i.b=true) (hr:base≤(reg s i.b+word32 i.im)%4294967296∧(reg s i.b+word32 i.im)%4294967296<base+4*words):(({t with W:=t.W.set ((((reg s i.b+word32 i.im)%4294967296) - base) / 4) (tagR t i.a)}:TG),true)=feedS t i s base words:=by simp [feedS,hk,hop,hb,nr hr]
theorem fs_5b_3 (hk:i.kd=5) (hop:i.op=3) (hb:tagR t i.b=true) (hr:base≤(reg s i.b+word32 i.im)%4294967296∧(reg s i.b+word32 i.im)%4294967296<base+4*words):(t,!(t.W.getD ((((reg s i.b+word32 i.im)%4294967296) - base) / 4) false) && !tagR t i.a)=feedS t i s base words:=by simp [feedS,hk,hop,hb,nr hr]
end
end Go.Proofs.YtjmiaemabhlnjaaGreatDoor.Chains.Shifts
end
section
set_option linter.all false
set_option maxRecDepth 20000
namespace Go.Proofs.YtjmiaemabhlnjaaGreatDoor.Chains.Shifts
open Go Go.RowKit Go.Proofs.YtjmiaemabhlnjaaGreatDoor.Chains
section
variable {w:World} {t:TG} {ad:Addr} {n c:Nat} {i:I} {s:RS}
set_option maxHeartbeats 8000000 in
theorem feed_3 (hR:t.R.length=16) (hW:RdB w ad c t.W) (hn:t.W.length=n) (hn40:n≤40) (hs:s.Ok) (ho:IOk i) {base words:Nat} (hk:i.kd=3) :
 Calls Tryz.prog 24 #[.agg (tgV t (.slice (some ad) n c)),.agg (iV i),.agg s.arr,.int .i64 (base:Int),.int .i64 (words:Int)] w fun e w'=>FdPost w n ({t with R:=t.R.set i.a false,NZ:=false},true) e w':=by
 obtain ⟨j0,hj,hj0,hj1,hj2⟩:=info_parts infoB;obtain ⟨w0,hw0,F0,B0,HZ0,HT,HW,HN,HO,hnc,hb0,hb1,hc0,hc1,ha0,ha1,ha17,ha18,ha16⟩:=feed_pre (s:=s) hR hW hn ho
 have hkd:(i.kd:Int)=3:=by omega
 clear hW ho;go_enter Tryz.func24,Tryz.ntmps24
 go_wp2_with (first
  | (refine wpList_load_row rfl 62 (.tmp 5) rfl w.heap.size rfl 62 (tgV t (.slice (some ad) n c)) (0,0) _ F0.out.tb.h Tryz.underlying62 rfl HT.out.1 ?_)
  | (refine wpList_store_row rfl 62 (.tmp 12) (.tmp 22) rfl w0.heap.size (tgV t (.slice (some ad) n c)) rfl rfl 62 _ (heap_alloc_new w0 _) HT.out.1 (by rw [HT.out.2.1];rfl) HT.out.2.2 ?_
     rw [World.setRow_alloc_new];obtain ⟨w1,hw1,B1,O1,F1,c16,c17,c18,f16,l1,l2⟩:=feed_w1 hR F0;rw [hw1]
     clear hw1)
  | (at_builtin
     refine wpList_append_own_at _ rfl (.tmp 23) (.tmp 25) 59 rfl w1.heap.size 4 j0 (.bool false) 1 1 Tryz.underlying59 hj hj0 hj1 hj2 rfl (by decide) (.slice (some ⟨w1.heap.size,0,none⟩) 0 0) 0 (bv []) rfl (own_madeB w1 w1.heap.size (Nat.le_refl _)) ad n c (bv t.W) rfl (by simp [bv,HN.out]) (((HW.out.keep B0.out).keep (B1.out.alloc _)).vals) (bv_one _) (by unfold maxLen;omega) (by omega) (by simp) ?_
     intro v2 w2 hown hgrow hnil hloc;have B2:=Aside.mk (show Bl w1 w2 from ((Bl.refl w1).alloc (.cells #[] 4)).grow hgrow (fun g e=>by obtain rfl:=Option.some.inj e;exact Nat.le_refl _));obtain ⟨r,c2,rfl,g16,d16,d17,d18,w3,hw3,HF3,B3,⟨i0,i1,i2,i3,i4,i5,i6⟩,rb,rc,ra,⟨t16,t17,t18⟩,oa,⟨o16,o17,o18⟩,of⟩:=feed_w3 B0 HZ0 HO B1 O1 F1 B2.out (by simpa [bv] using hown) (fun e=>by have:=(hnil.1 e).1;cases this)
     rw [hkd] at i0
     clear hown hgrow hnil hloc c16 c17 c18 f16 l1 l2)
  | (refine wpList_load_row rfl 62 (.tmp 12) rfl w0.heap.size rfl 62 (tgV ({t with R:=t.R.set i.a false,NZ:=false}:TG) (.slice (some ⟨r,0,none⟩) n c2)) (0,0) _ ((HF3.out.setR HO.out.a false).setNZ false).tb.h Tryz.underlying62 rfl ((HF3.out.setR HO.out.a false).setNZ false).rw.1 ?_)
  | (refine wpList_store_row rfl 62 (.tmp 10) (.tmp 52) rfl (w.heap.size+3) (tgV ({t with R:=t.R.set i.a false,NZ:=false}:TG) (.slice (some ⟨r,0,none⟩) n c2)) rfl rfl 62 _ ((HF3.out.setR HO.out.a false).setNZ false).fw.zb ((HF3.out.setR HO.out.a false).setNZ false).rw.1 (by rw [((HF3.out.setR HO.out.a false).setNZ false).rw.2.1];rfl) ((HF3.out.setR HO.out.a false).setNZ false).rw.2.2 ?_)
  )
 refine bodyPost_ret (results_row_tmp rfl _ _ (w.heap.size+3) 62 (tgV ({t with R:=t.R.set i.a false,NZ:=false}:TG) (.slice (some ⟨r,0,none⟩) n c2)) (0,0) _ rfl (setRow_heap _ _ _ _ _ (0,0) ((HF3.out.setR HO.out.a false).setNZ false).fw.zb) Tryz.underlying62 rfl ((HF3.out.setR HO.out.a false).setNZ false).rw.1) rfl ?_;exact ⟨r,c2,rfl,((HF3.out.setR HO.out.a false).setNZ false).fin _,⟨below_setRow ((B3.out.puts (p:=⟨w0.heap.size,i.a,none⟩) B0.out.out.size (.bool false)).puts (p:=⟨w0.heap.size,17,none⟩) B0.out.out.size (.bool false)).out (by omega) _⟩⟩
end
end Go.Proofs.YtjmiaemabhlnjaaGreatDoor.Chains.Shifts
end
