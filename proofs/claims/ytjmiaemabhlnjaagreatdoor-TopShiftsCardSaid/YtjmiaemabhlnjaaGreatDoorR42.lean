/- A part of the proof of TopShifts. -/
import Derived.Test.YtjmiaemabhlnjaaGreatDoorR20
import Derived.Test.YtjmiaemabhlnjaaGreatDoorR25
import Derived.Test.YtjmiaemabhlnjaaGreatDoorQ2
import Derived.Test.YtjmiaemabhlnjaaGreatDoorR27
section
set_option linter.all false
set_option maxRecDepth 20000
namespace Go.Proofs.YtjmiaemabhlnjaaGreatDoor.Chains.Shifts
open Go Go.RowKit Go.Proofs.YtjmiaemabhlnjaaGreatDoor.Chains
def toI (i:Isa.Ins):I:=⟨i.kd.toNat,i.op.toNat,i.a.toNat,i.b.toNat,i.c.toNat,i.im,i.u⟩
def decI (x:Nat):Option I:=if Isa.okN x then some (toI (Isa.readN x)) else none
theorem may_all {i:Isa.Ins} (h:Isa.mayN i=true):Isa.RMayI i.kd i.op i.a i.b i.c i.im (Isa.b2i i.u):=Isa.may_iff.1 h
theorem toI_v {i:Isa.Ins} (h:Isa.mayN i=true):i.v=.agg (iV (toI i)):=by
 have:=may_all h;obtain ⟨kd,op,a,b,c,im,u⟩:=i;obtain ⟨a0,a1,b0,b1,c0,c1,hr⟩:=this;simp only at a0 b0 c0 hr
 have hk:0≤kd∧0≤op:=by
  rcases hr with hr | hr | hr | hr | hr | hr<;>omega
 show Value.agg #[.int .i64 kd,.int .i64 op,.int .i64 a,.int .i64 b,.int .i64 c,.int .i64 im,.bool u]=.agg #[.int .i64 (kd.toNat:Int),.int .i64 (op.toNat:Int),.int .i64 (a.toNat:Int),.int .i64 (b.toNat:Int),.int .i64 (c.toNat:Int),.int .i64 im,.bool u]
 rw [Int.toNat_of_nonneg hk.1,Int.toNat_of_nonneg hk.2,Int.toNat_of_nonneg a0,Int.toNat_of_nonneg b0,Int.toNat_of_nonneg c0]
theorem toI_ok {i:Isa.Ins} (h:Isa.mayN i=true):IOk (toI i)∧((toI i).kd≤2→(toI i).op<12):=by
 have:=may_all h;obtain ⟨kd,op,a,b,c,im,u⟩:=i;obtain ⟨a0,a1,b0,b1,c0,c1,hr⟩:=this;simp only at a0 a1 b0 b1 c0 c1 hr;refine ⟨⟨?_,?_,?_,?_,?_,?_,?_⟩,?_⟩
 all_goals simp only [toI]
 · rcases hr with hr | hr | hr | hr | hr | hr<;>omega
 · omega
 · omega
 · omega
 · rcases hr with hr | hr | hr | hr | hr | hr<;>omega
 · rcases hr with hr | hr | hr | hr | hr | hr<;>omega
 · intro h1 h2
   rcases hr with hr | hr | hr | hr | hr | hr
   · cases hu:u
     · rfl
     · rw [hu] at hr
       have:Isa.b2i true=1:=rfl;have:=hr.2.2.2.2.2 this;omega
   all_goals omega
 · rcases hr with hr | hr | hr | hr | hr | hr<;>omega
theorem ok_may {x:Nat} (h:Isa.okN x=true):Isa.mayN (Isa.readN x)=true:=by
 unfold Isa.okN at h;rw [Bool.and_eq_true] at h;exact h.1
theorem dec_ok:DecOk decI:=by
 refine ⟨fun x i hx h=>?_,fun x hx h wx=>?_⟩
 · unfold decI at h
   split at h
   · rename_i ho
     obtain rfl:=Option.some.inj h;have hm:=ok_may ho;refine ⟨(toI_ok hm).1,(toI_ok hm).2,fun wx=>?_,fun wx=>?_⟩
     · rw [←toI_v hm]
       exact ((Isa.may_is _ hm).out wx).mono (fun e w' ⟨h1,h2⟩=>⟨h1,⟨h2.out⟩⟩)
     · rw [←toI_v hm]
       exact ((Isa.decode_ok x hx ho).out wx).mono (fun e w' ⟨h1,h2⟩=>⟨h1,⟨h2.out⟩⟩)
   · cases h
 · unfold decI at h
   split at h
   · cases h
   · rename_i ho
     exact ((Isa.decode_bad x hx (by simpa using ho)).out wx).mono (fun e w' ⟨h1,h2⟩=>⟨h1,⟨h2.out⟩⟩)
theorem rdec_some {x:Nat} (hx:x<4294967296) {i:I} (h:decI x=some i) (wx:World):Calls Tryz.prog 23 #[.int .u32 (x:Int)] wx fun e w'=>e=.returned (.tuple #[.agg (iV i),.bool true])∧Bl wx w':=by
 unfold decI at h
 split at h
 · rename_i ho
   obtain rfl:=Option.some.inj h;rw [←toI_v (ok_may ho)];exact ((Isa.rdecode_ok x hx ho).out wx).mono (fun e w' ⟨h1,h2⟩=>⟨h1,⟨h2.out⟩⟩)
 · cases h
theorem rdec_none {x:Nat} (hx:x<4294967296) (h:decI x=none) (wx:World):Calls Tryz.prog 23 #[.int .u32 (x:Int)] wx fun e w'=>e=.returned (.tuple #[.agg #[.int .i64 0,.int .i64 0,.int .i64 0,.int .i64 0,.int .i64 0,.int .i64 0,.bool false],.bool false])∧Bl wx w':=by
 unfold decI at h
 split at h
 · cases h
 · rename_i ho
   exact ((Isa.rdecode_bad x hx (by simpa using ho)).out wx).mono (fun e w' ⟨h1,h2⟩=>⟨h1,⟨h2.out⟩⟩)
structure Ds (g1 g2:Nat) (o:Option Nat) (x:Nat):Prop where
 n1:x≠g1
 n2:x≠g2
 n3:o≠some x
theorem Ds.next {g1 g2:Nat} {o o':Option Nat} {x z:Nat} (h:Ds g1 g2 o x) (hx:x<z) (ho:o'=o∨∃g,o'=some g∧z≤g):Ds g1 g2 o' x :=
 ⟨h.n1,h.n2,fun e=>by
   rcases ho with e' | ⟨g,e',hg⟩
   · exact h.n3 (e'▸e)
   · rw [e'] at e;have:=Option.some.inj e;omega⟩
theorem Fr.ds {w w':World} {g1 g2:Nat} {o:Option Nat} (k:Fr w w' g1 g2 o) {x:Nat} (hx:x<w.heap.size) (d:Ds g1 g2 o x):w'.heap[x]? = w.heap[x]? := k.blk hx d.n1 d.n2 d.n3
theorem rdb_blk {w w':World} {ad:Addr} {c:Nat} {l:List Bool} (h:RdB w ad c l) (k:w'.heap[ad.block]? = w.heap[ad.block]?):RdB w' ad c l :=
 ⟨h.le,h.mx,fun j x hj=>by
   have e:w'.heap[(ad.add j).block]? = w.heap[(ad.add j).block]? := by rw [add_block];exact k
   rw [World.cell?_of_block e];exact h.cells j x hj⟩
theorem good_ua:Good UA ⟨setBN⟩:=⟨fun op u b n hb hn=>ua_x op u b n hb hn,fun op u b n h hb hn hh=>ua_h op u b n h hb hn hh,fl_lt,fun x y r hx=>(setB_is x y r hx).2⟩
theorem storeS_out (m:MS) (op a x:Nat):(storeS ⟨setBN⟩ m op a x).2.out.length≤m.out.length+1:=by
 unfold storeS
 split
 · split<;>simp
 · split
   · simp
   · split
     · simp
     · split<;>simp
theorem loadS_out (m:MS) (op a:Nat):(loadS m op a).2.2.out=m.out:=by
 unfold loadS
 split
 · split<;>rfl
 · split
   · split<;>rfl
   · split<;>rfl
theorem doI_out (m:MS) (i:I):(doI UA ⟨setBN⟩ m i).1.out.length≤m.out.length+1:=by
 unfold doI
 by_cases h5:i.kd=5
 · simp only [h5,if_true]
   split
   · exact storeS_out _ _ _ _
   · show (if _ then _ else _:MS).out.length≤_
     split
     · show (loadS _ _ _).2.2.out.length≤_
       rw [loadS_out];omega
     · rw [loadS_out];omega
 · simp only [if_neg h5]
   split
   · split
     · show (if _ then _ else _:MS).out.length≤_
       split<;>simp
     · simp
   · simp
theorem step_out (m:MS):(stepS UA ⟨setBN⟩ decI m).1.out.length≤m.out.length+1:=by
 unfold stepS
 split
 · simp
 · split
   · simp
   · split
     · simp
     · have:=doI_out m (by assumption)
       show (if _ then _ else _:MS).out.length≤_
       split<;>exact this
structure ShI (W0 wr:World) (gma gaa gmb gab T d i k n:Nat) (iba ibb oba obb:Option Nat) (ma mb:MS) (t:TG) (r c j:Nat):Prop where
 a:MW wr gma gaa iba oba ma
 b:MW wr gmb gab ibb obb mb
 oka:MOk ma
 okb:MOk mb
 F:Fix d i k n ma mb t
 S:Sim d i k n ma mb t
 tb:TB wr T t (.slice (some ⟨r,0,none⟩) n c)
 rd:RdB wr ⟨r,0,none⟩ c t.W
 da:∀x,(x=gmb∨x=gab∨x=T∨x=r∨ibb=some x∨obb=some x)→Ds gma gaa oba x
 db:∀x,(x=gma∨x=gaa∨x=T∨x=r∨iba=some x∨oba=some x)→Ds gmb gab obb x
 rl:r<wr.heap.size
 la:ma.out.length≤j
 bl:Bl W0 wr
 lo:W0.heap.size≤gma∧W0.heap.size≤gaa∧W0.heap.size≤gmb∧W0.heap.size≤gab∧W0.heap.size≤T
 loa:∀g,oba=some g→W0.heap.size≤g
 lob:∀g,obb=some g→W0.heap.size≤g
 rT:r≠T
 iT:iba≠some T∧ibb≠some T
section
variable {W0 wr w':World} {gma gaa gmb gab T d i k n:Nat} {iba ibb oba obb:Option Nat} {ma mb:MS} {t:TG} {r c j:Nat}
theorem ShI.quiet (h:ShI W0 wr gma gaa gmb gab T d i k n iba ibb oba obb ma mb t r c j) (q:Bl wr w'):ShI W0 w' gma gaa gmb gab T d i k n iba ibb oba obb ma mb t r c j :=
 ⟨h.a.keep q,h.b.keep q,h.oka,h.okb,h.F,h.S,h.tb.keep q,h.rd.keep q,h.da,h.db,Nat.lt_of_lt_of_le h.rl q.out.size,h.la,h.bl.trans q,h.lo,h.loa,h.lob,h.rT,h.iT⟩
theorem ShI.b_at (h:ShI W0 wr gma gaa gmb gab T d i k n iba ibb oba obb ma mb t r c j) {w1:World} (k1:Fr wr w1 gma gaa oba):MW w1 gmb gab ibb obb mb :=
 h.b.other k1 (fun g hg=>by
  have q:=h.da g (by rcases hg with h1 | h1 | h1 | h1<;>simp [h1])
  exact ⟨q.n1,q.n2,q.n3⟩)
end
theorem shi_start {W0 w3 w4 wr:World} {gma gaa gmb gab T i k m mem r c:Nat} {iba ibb:Option Nat} {ws S inp:List Nat}
 (hA:MW w3 gma gaa iba none (ms0 i mem ws S inp)) (hB:MW w4 gmb gab ibb none (ms0 k mem ws S inp)) (b34:Bl w3 w4) (b4r:Bl w4 wr) (b0:Bl W0 w3)
 (la:W0.heap.size≤gma) (la2:W0.heap.size≤gaa) (lb:w3.heap.size≤gmb) (lb2:w3.heap.size≤gab) (lb3:∀g,ibb=some g→w3.heap.size≤g)
 (hr:w4.heap.size≤r) (hrT:r<T) (htb:TB wr T (tg0 m S) (.slice (some ⟨r,0,none⟩) m c)) (hrd:RdB wr ⟨r,0,none⟩ c (tg0 m S).W)
 (hS:S.Pairwise (· < ·)) (hi:i≤124) (hk:k≤124) (i4:i%4=0) (k4:k%4=0) (hm:ws.length=m) (h1:i / 4+m≤mem) (h2:k / 4+m≤mem) (h4:mem≤4096) (hw:∀x∈ws,x<4294967296) (hin:∀x∈inp,x<4294967296) :
 ShI W0 wr gma gaa gmb gab T ((4294967296+k - i)%4294967296) i k m iba ibb none none (ms0 i mem ws S inp) (ms0 k mem ws S inp) (tg0 m S) r c 0:=by
 subst hm;obtain ⟨F,Sm⟩:=start_sim hS hi hk i4 k4 h1 h2 h4 hw hin;have a1:=hA.mlt;have a2:=hA.mem.lth;have b1:=hB.mlt;have b2:=hB.mem.lth;have s0:=b0.out.size;have s1:=b34.out.size;have s2:=b4r.out.size;have hTl:=htb.lt;refine ⟨hA.keep (b34.trans b4r),hB.keep b4r,ms0_ok hi h1 h4 hw hin,ms0_ok hk h2 h4 hw hin,F,Sm,htb,hrd,?_,?_,by omega,Nat.le_refl _,(b0.trans b34).trans b4r,⟨la,la2,by omega,by omega,by omega⟩,fun g e=>(by cases e),fun g e=>(by cases e),by omega,fun e=>by have:=hA.ilt _ e;omega,fun e=>by have:=hB.ilt _ e;omega⟩
 · intro x hx
   have:x≠gma∧x≠gaa:=by
    rcases hx with e | e | e | e | e | e
    · omega
    · omega
    · omega
    · omega
    · have:=lb3 x e;omega
    · cases e
   exact ⟨this.1,this.2,fun e=>by cases e⟩
 · intro x hx
   have:x≠gmb∧x≠gab:=by
    rcases hx with e | e | e | e | e | e
    · omega
    · omega
    · omega
    · omega
    · have:=hA.ilt x e;omega
    · cases e
   exact ⟨this.1,this.2,fun e=>by cases e⟩
structure To (w w':World) (T:Nat):Prop where
 os:w'.os=w.os
 tape:w'.tape=w.tape
 output:w'.output=w.output
 size:w'.heap.size=w.heap.size
 block:∀b,b≠T→w'.heap[b]? = w.heap[b]?
theorem To.refl (w:World) (T:Nat):To w w T:=⟨rfl,rfl,rfl,rfl,fun _ _=>rfl⟩
theorem To.row (w:World) (T:Nat) (X:Array Value):To w (w.setRow T X) T:=by
 have g:=grown_setRow w T X;exact ⟨g.os,g.tape,g.output,by simp [World.setRow],fun b hb=>setRow_other w T b X hb⟩
theorem MW.to {w w':World} {gm ga T:Nat} {ib ob:Option Nat} {m:MS} (h:MW w gm ga ib ob m) (k:To w w' T) (n1:gm≠T) (n2:ga≠T) (n3:ib≠some T) (n4:ob≠some T):MW w' gm ga ib ob m :=
 h.stay (Nat.le_of_eq k.size.symm) (k.block _ n1) (k.block _ n2) (fun g e=>k.block g (fun q=>n3 (q▸e))) (fun g e=>k.block g (fun q=>n4 (q▸e)))
theorem Bl.to {W w w':World} {T:Nat} (h:Bl W w) (k:To w w' T) (hT:W.heap.size≤T):Bl W w' :=
 ⟨k.os.trans h.out.os,k.tape.trans h.out.tape,k.output.trans h.out.output,Nat.le_trans h.out.size (Nat.le_of_eq k.size.symm),fun j hj=>(k.block j (by omega)).trans (h.out.block j hj)⟩
section
variable {W0 wr w1 w2 w3:World} {gma gaa gmb gab T d i k n:Nat} {iba ibb oba obb:Option Nat} {ma mb:MS} {t:TG} {r c j:Nat}
theorem ShI.a_at (h:ShI W0 wr gma gaa gmb gab T d i k n iba ibb oba obb ma mb t r c j) {oba':Option Nat} {m':MS} (A:MW w1 gma gaa iba oba' m') (ho:oba'=oba∨∃g,oba'=some g∧wr.heap.size≤g) (k2:Fr w1 w2 gmb gab obb):MW w2 gma gaa iba oba' m':=by
 refine A.other k2 (fun g hg=>?_)
 rcases hg with e | e | e | e
 · have q:=h.db g (.inl e);exact ⟨q.n1,q.n2,q.n3⟩
 · have q:=h.db g (.inr (.inl e));exact ⟨q.n1,q.n2,q.n3⟩
 · have q:=h.db g (.inr (.inr (.inr (.inr (.inl e)))));exact ⟨q.n1,q.n2,q.n3⟩
 · have e1:oba=some g∨wr.heap.size≤g:=by
    rcases ho with q | ⟨g',q,hg⟩
    · exact .inl (q▸e)
    · rw [q] at e;obtain rfl:=Option.some.inj e;exact .inr hg
   rcases e1 with e1 | e1
   · have q:=h.db g (.inr (.inr (.inr (.inr (.inr e1)))));exact ⟨q.n1,q.n2,q.n3⟩
   · have l1:=h.b.mlt
     have l2:=h.b.mem.lth;exact ⟨by omega,by omega,fun e2=>by have:=h.b.olt g e2;omega⟩
theorem ShI.tag_at (h:ShI W0 wr gma gaa gmb gab T d i k n iba ibb oba obb ma mb t r c j) (k1:Fr wr w1 gma gaa oba) (k2:Fr w1 w2 gmb gab obb) {x:Nat} (hx:x<wr.heap.size) (da:Ds gma gaa oba x) (db:Ds gmb gab obb x):w2.heap[x]? = wr.heap[x]? :=
 (k2.ds (Nat.lt_of_lt_of_le hx k1.size) db).trans (k1.ds hx da)
theorem ShI.step3 (h:ShI W0 wr gma gaa gmb gab T d i k n iba ibb oba obb ma mb t r c j) {oba' obb':Option Nat} (A:MW w1 gma gaa iba oba' (stepS UA ⟨setBN⟩ decI ma).1) (k1:Fr wr w1 gma gaa oba) (ho:oba'=oba∨∃g,oba'=some g∧wr.heap.size≤g)
 (B:MW w2 gmb gab ibb obb' (stepS UA ⟨setBN⟩ decI mb).1) (k2:Fr w1 w2 gmb gab obb) (ho2:obb'=obb∨∃g,obb'=some g∧w1.heap.size≤g) (k3:To w2 w3 T) {t':TG} {r' c':Nat} (hR:t'.R.length=16) (hW:t'.W.length=n)
 (S:Sim d i k n (stepS UA ⟨setBN⟩ decI ma).1 (stepS UA ⟨setBN⟩ decI mb).1 t') (htb:TB w3 T t' (.slice (some ⟨r',0,none⟩) n c')) (hrd:RdB w3 ⟨r',0,none⟩ c' t'.W)
 (hr:r'<wr.heap.size) (hra:Ds gma gaa oba r') (hrb:Ds gmb gab obb r') (hrT:r'≠T):ShI W0 w3 gma gaa gmb gab T d i k n iba ibb oba' obb' (stepS UA ⟨setBN⟩ decI ma).1 (stepS UA ⟨setBN⟩ decI mb).1 t' r' c' (j+1):=by
 have hTl:T<wr.heap.size:=h.tb.lt
 have ltb:∀x,(x=gmb∨x=gab∨x=T∨ibb=some x∨obb=some x)→x<wr.heap.size:=fun x hx=>by
  rcases hx with e | e | e | e | e
  · rw [e];exact h.b.mlt
  · rw [e];exact h.b.mem.lth
  · rw [e];exact hTl
  · exact h.b.ilt x e
  · exact h.b.olt x e
 have lta:∀x,(x=gma∨x=gaa∨x=T∨iba=some x∨oba=some x)→x<wr.heap.size:=fun x hx=>by
  rcases hx with e | e | e | e | e
  · rw [e];exact h.a.mlt
  · rw [e];exact h.a.mem.lth
  · rw [e];exact hTl
  · exact h.a.ilt x e
  · exact h.a.olt x e
 have newb:∀x,obb'=some x→obb=some x∨w1.heap.size≤x:=fun x e=>by
  rcases ho2 with q | ⟨g,q,hg⟩
  · exact .inl (q▸e)
  · rw [q] at e;obtain rfl:=Option.some.inj e;exact .inr hg
 have newa:∀x,oba'=some x→oba=some x∨wr.heap.size≤x:=fun x e=>by
  rcases ho with q | ⟨g,q,hg⟩
  · exact .inl (q▸e)
  · rw [q] at e;obtain rfl:=Option.some.inj e;exact .inr hg
 have sz1:=k1.size;have sz2:=k2.size;have sz3:=k3.size;have dTa:=h.da T (.inr (.inr (.inl rfl)));have dTb:=h.db T (.inr (.inr (.inl rfl)))
 have A3:MW w3 gma gaa iba oba' (stepS UA ⟨setBN⟩ decI ma).1:=(h.a_at A ho k2).to k3 dTa.n1.symm dTa.n2.symm h.iT.1 (fun e=>by
  rcases newa T e with e1 | e1
  · exact dTa.n3 e1
  · omega)
 have B3:MW w3 gmb gab ibb obb' (stepS UA ⟨setBN⟩ decI mb).1:=B.to k3 dTb.n1.symm dTb.n2.symm h.iT.2 (fun e=>by
  rcases newb T e with e1 | e1
  · exact dTb.n3 e1
  · omega)
 refine ⟨A3,B3,(step_ok good_ua decI h.oka).1,(step_ok good_ua decI h.okb).1,fix_next good_ua decI h.F h.oka h.okb hR hW,S,htb,hrd,?_,?_,by omega,?_,?_,h.lo,?_,?_,hrT,h.iT⟩
 · intro x hx
   have base:(x=gmb∨x=gab∨x=T∨x=r'∨ibb=some x∨obb=some x)→Ds gma gaa oba' x:=fun hx=>by
    have hd:Ds gma gaa oba x:=by
     rcases hx with e | e | e | e | e | e
     · exact h.da x (.inl e)
     · exact h.da x (.inr (.inl e))
     · exact h.da x (.inr (.inr (.inl e)))
     · rw [e];exact hra
     · exact h.da x (.inr (.inr (.inr (.inr (.inl e)))))
     · exact h.da x (.inr (.inr (.inr (.inr (.inr e)))))
    have hl:x<wr.heap.size:=by
     rcases hx with e | e | e | e | e | e
     · exact ltb x (.inl e)
     · exact ltb x (.inr (.inl e))
     · exact ltb x (.inr (.inr (.inl e)))
     · rw [e];exact hr
     · exact ltb x (.inr (.inr (.inr (.inl e))))
     · exact ltb x (.inr (.inr (.inr (.inr e))))
    exact hd.next hl ho
   rcases hx with e | e | e | e | e | e
   · exact base (.inl e)
   · exact base (.inr (.inl e))
   · exact base (.inr (.inr (.inl e)))
   · exact base (.inr (.inr (.inr (.inl e))))
   · exact base (.inr (.inr (.inr (.inr (.inl e)))))
   · rcases newb x e with e1 | e1
     · exact base (.inr (.inr (.inr (.inr (.inr e1)))))
     · have l1:=lta gma (.inl rfl)
       have l2:=lta gaa (.inr (.inl rfl))
       exact ⟨by omega,by omega,fun e2=>by
        have:=A.olt x e2
        omega⟩
 · intro x hx
   rcases hx with e | e | e | e | e | e
   · exact (h.db x (.inl e)).next (Nat.lt_of_lt_of_le (lta x (.inl e)) k1.size) ho2
   · exact (h.db x (.inr (.inl e))).next (Nat.lt_of_lt_of_le (lta x (.inr (.inl e))) k1.size) ho2
   · exact (h.db x (.inr (.inr (.inl e)))).next (Nat.lt_of_lt_of_le (lta x (.inr (.inr (.inl e)))) k1.size) ho2
   · rw [e];exact hrb.next (Nat.lt_of_lt_of_le hr k1.size) ho2
   · exact (h.db x (.inr (.inr (.inr (.inr (.inl e)))))).next (Nat.lt_of_lt_of_le (lta x (.inr (.inr (.inr (.inl e))))) k1.size) ho2
   · have hl:=A.olt x e
     rcases newa x e with e1 | e1
     · exact (h.db x (.inr (.inr (.inr (.inr (.inr e1)))))).next hl ho2
     · have l1:=ltb gmb (.inl rfl)
       have l2:=ltb gab (.inr (.inl rfl));have q:Ds gmb gab obb x:=⟨by omega,by omega,fun e2=>by have:=ltb x (.inr (.inr (.inr (.inr e2))));omega⟩;exact q.next hl ho2
 · have:=step_out ma;have:=h.la;omega
 · exact Bl.to (k2.to_bl (k1.to_bl h.bl h.lo.1 h.lo.2.1 h.loa) h.lo.2.2.1 h.lo.2.2.2.1 h.lob) k3 h.lo.2.2.2.2
 · intro g e
   rcases newa g e with e1 | e1
   · exact h.loa g e1
   · exact Nat.le_trans h.bl.out.size e1
 · intro g e
   rcases newb g e with e1 | e1
   · exact h.lob g e1
   · exact Nat.le_trans h.bl.out.size (Nat.le_trans k1.size e1)
end
theorem tb_rng {w:World} {g:Nat} {t:TG} {sl:Value} (h:TB w g t sl):w.rangeAt g 0 (tgL t sl):=fun j v hj=>by
 rw [cell_of_row w g (0+j) _ _ (0,0) h.h]
 show (tgL t sl).toArray[0+j]? = some v
 simpa using hj
structure IB (w:World) (g:Nat) (i:I):Prop where
 h:w.heap[g]? = some (.cells (iV i) 72 (0,0))
theorem IB.keep {w w':World} {g:Nat} {i:I} (h:IB w g i) (k:Bl w w'):IB w' g i:=⟨by rw [k.blk (Array.getElem?_eq_some_iff.1 h.h).1];exact h.h⟩
theorem IB.rng {w:World} {g:Nat} {i:I} (h:IB w g i):w.rangeAt g 0 (iV i).toList:=fun j v hj=>by
 rw [cell_of_row w g (0+j) _ _ (0,0) h.h]
 simpa using hj
structure ZB (w:World) (g:Nat):Prop where
 h:w.heap[g]? = some (.cells zT 62 (0,0))
theorem ZB.keep {w w':World} {g:Nat} (h:ZB w g) (k:Bl w w'):ZB w' g:=⟨by rw [k.blk (Array.getElem?_eq_some_iff.1 h.h).1];exact h.h⟩
structure UB (w9 wz:World) (gz r2 c2 m:Nat) (u:TG):Prop where
 tb:TB wz gz u (.slice (some ⟨r2,0,none⟩) m c2)
 rd:RdB wz ⟨r2,0,none⟩ c2 u.W
 len:u.W.length=m
 bl:Bl w9 wz
 gl:w9.heap.size≤gz
 rl:w9.heap.size≤r2
 rz:r2<wz.heap.size
 ne:r2≠gz
theorem ub_mk {w9 w11:World} {gz b r2 c2 m:Nat} {u:TG} (Z:ZB w11 gz) (hR:u.R.length=16) (O:OwB w11 b r2 m c2 u.W) (hb:w9.heap.size≤b) (ne:r2≠gz) (bl:Bl w9 w11) (gl:w9.heap.size≤gz) :
 UB w9 (w11.setRow gz (tgV u (.slice (some ⟨r2,0,none⟩) m c2))) gz r2 c2 m u:=by
 have k:=To.row w11 gz (tgV u (.slice (some ⟨r2,0,none⟩) m c2));refine ⟨⟨setRow_heap _ _ _ _ _ (0,0) Z.h,hR⟩,rdb_blk O.rd (k.block r2 ne),O.len,Bl.to bl k gl,gl,Nat.le_trans hb O.hb,?_,ne⟩;rw [k.size];exact O.lt
theorem i72s (i:I):(Tryz.prog.info? 72).map (·.size)=some (iV i).toList.length:=i72
theorem i_one (i:I):(iV i).all (·.oneCell')=true:=by simp [iV,Value.oneCell']
theorem at_word {i n p M:Nat} (h1:i≤p) (h2:p<i+4*n) (h3:(p - i)%4=0) (h4:i%4=0) (hm:i / 4+n≤M):i / 4+(p - i) / 4=p / 4∧(p - i) / 4<n∧p / 4<M:=by omega
section
variable {W0 wr w1 w2:World} {gma gaa gmb gab T d i k n:Nat} {iba ibb oba obb:Option Nat} {ma mb:MS} {t:TG} {r c j:Nat}
theorem ShI.fresh (h:ShI W0 wr gma gaa gmb gab T d i k n iba ibb oba obb ma mb t r c j) {x:Nat} (hx:wr.heap.size≤x):Ds gma gaa oba x∧Ds gmb gab obb x∧x≠T:=by
 have a1:=h.a.mlt;have a2:=h.a.mem.lth;have b1:=h.b.mlt;have b2:=h.b.mem.lth;have t1:=h.tb.lt;exact ⟨⟨by omega,by omega,fun e=>by have:=h.a.olt x e;omega⟩,⟨by omega,by omega,fun e=>by have:=h.b.olt x e;omega⟩,by omega⟩
theorem ShI.tbT (h:ShI W0 wr gma gaa gmb gab T d i k n iba ibb oba obb ma mb t r c j) (k1:Fr wr w1 gma gaa oba) (k2:Fr w1 w2 gmb gab obb):TB w2 T t (.slice (some ⟨r,0,none⟩) n c) :=
 ⟨by rw [h.tag_at k1 k2 h.tb.lt (h.da T (.inr (.inr (.inl rfl)))) (h.db T (.inr (.inr (.inl rfl))))];exact h.tb.h,h.tb.len⟩
theorem ShI.step_t (h:ShI W0 wr gma gaa gmb gab T d i k n iba ibb oba obb ma mb t r c j) {oba' obb':Option Nat} (A:MW w1 gma gaa iba oba' (stepS UA ⟨setBN⟩ decI ma).1) (k1:Fr wr w1 gma gaa oba) (ho:oba'=oba∨∃g,oba'=some g∧wr.heap.size≤g)
 (B:MW w2 gmb gab ibb obb' (stepS UA ⟨setBN⟩ decI mb).1) (k2:Fr w1 w2 gmb gab obb) (ho2:obb'=obb∨∃g,obb'=some g∧w1.heap.size≤g)
 (S:Sim d i k n (stepS UA ⟨setBN⟩ decI ma).1 (stepS UA ⟨setBN⟩ decI mb).1 t):ShI W0 w2 gma gaa gmb gab T d i k n iba ibb oba' obb' (stepS UA ⟨setBN⟩ decI ma).1 (stepS UA ⟨setBN⟩ decI mb).1 t r c (j+1) :=
 h.step3 A k1 ho B k2 ho2 (To.refl _ _) h.F.tR h.F.tW S (h.tbT k1 k2) (rdb_blk h.rd (h.tag_at k1 k2 h.rl (h.da r (.inr (.inr (.inr (.inl rfl))))) (h.db r (.inr (.inr (.inr (.inl rfl))))))) h.rl (h.da r (.inr (.inr (.inr (.inl rfl))))) (h.db r (.inr (.inr (.inr (.inl rfl))))) h.rT
theorem ShI.step_u (h:ShI W0 wr gma gaa gmb gab T d i k n iba ibb oba obb ma mb t r c j) {oba' obb':Option Nat} (A:MW w1 gma gaa iba oba' (stepS UA ⟨setBN⟩ decI ma).1) (k1:Fr wr w1 gma gaa oba) (ho:oba'=oba∨∃g,oba'=some g∧wr.heap.size≤g)
 (B:MW w2 gmb gab ibb obb' (stepS UA ⟨setBN⟩ decI mb).1) (k2:Fr w1 w2 gmb gab obb) (ho2:obb'=obb∨∃g,obb'=some g∧w1.heap.size≤g) {u:TG} {r2 c2:Nat} (hR:u.R.length=16) (hW:u.W.length=n)
 (S:Sim d i k n (stepS UA ⟨setBN⟩ decI ma).1 (stepS UA ⟨setBN⟩ decI mb).1 u) (hrd:RdB wr ⟨r2,0,none⟩ c2 u.W) (hr:r2<wr.heap.size) (hra:Ds gma gaa oba r2) (hrb:Ds gmb gab obb r2) (hrT:r2≠T) :
 ShI W0 (w2.setRow T (tgV u (.slice (some ⟨r2,0,none⟩) n c2))) gma gaa gmb gab T d i k n iba ibb oba' obb' (stepS UA ⟨setBN⟩ decI ma).1 (stepS UA ⟨setBN⟩ decI mb).1 u r2 c2 (j+1):=by
 have k3:=To.row w2 T (tgV u (.slice (some ⟨r2,0,none⟩) n c2));refine h.step3 A k1 ho B k2 ho2 k3 hR hW S ⟨setRow_heap _ _ _ _ _ (0,0) (h.tbT k1 k2).h,hR⟩ (rdb_blk hrd ((k3.block r2 hrT).trans (h.tag_at k1 k2 hr hra hrb))) hr hra hrb hrT
end
theorem w64 {x:Int} (h1 : -9223372036854775808≤x) (h2:x<9223372036854775808):wrap64 x=x:=by
 unfold wrap64;omega
theorem w_at {pc bi:Nat} (h:pc<4294967296) (hb:bi≤124):wrap64 (wrap64 (pc:Int) - (bi:Int))=(pc:Int) - (bi:Int):=by
 rw [w64 (x:=(pc:Int)) (by omega) (by omega),w64 (by omega) (by omega)]
theorem w_4m {m:Nat} (h:m≤40):wrap64 (4*(m:Int))=4*(m:Int):=w64 (by omega) (by omega)
theorem w_sum {b a p:Nat} (h:b+a=p) (hp:p<4096):wrap64 ((b:Int)+(a:Int))=(p:Int):=by
 rw [w64 (by omega) (by omega)];omega
theorem w_sum' {b a p:Nat} (h:b+a=p) (hp:p<4096):IntKind.i64.wrap ((b:Int)+(a:Int))=(p:Int):=by
 have:IntKind.i64.wrap ((b:Int)+(a:Int))=wrap64 ((b:Int)+(a:Int)):=by simp only [wrap64,IntKind.wrap,IntKind.bits,IntKind.signed];simp;omega
 rw [this];exact w_sum h hp
theorem w_nat {a:Nat} (h:a<40):IntKind.i64.wrap (a:Int)=(a:Int):=by
 have:IntKind.i64.wrap (a:Int)=wrap64 (a:Int):=by simp only [wrap64,IntKind.wrap,IntKind.bits,IntKind.signed];simp;omega
 rw [this];exact w64 (by omega) (by omega)
theorem w_nat' {a:Nat} (h:a<40):wrap64 (a:Int)=(a:Int):=w64 (by omega) (by omega)
theorem b4_lt {b:Nat} (h:b≤124):b / 4<40:=by omega
theorem w_4m' {m:Nat} (h:m≤40):IntKind.i64.wrap (4*(m:Int))=4*(m:Int):=by
 have:IntKind.i64.wrap (4*(m:Int))=wrap64 (4*(m:Int)):=by simp only [wrap64,IntKind.wrap,IntKind.bits,IntKind.signed];simp;omega
 rw [this];exact w_4m h
theorem add0 (g j:Nat):(⟨g,0,none⟩:Addr).add j=⟨g,j,none⟩:=by unfold Addr.add;split<;>simp_all
theorem tm4 {a q:Nat} (h:a%4=q):(a:Int).tmod 4=(q:Int)∧(a:Int)%4=(q:Int):=by
 have:(a:Int)%4=(q:Int):=by omega
 exact ⟨by rw [Int.tmod_eq_emod_of_nonneg (by omega)];exact this,this⟩
theorem td4 {a q:Nat} (h:a / 4=q):(a:Int).tdiv 4=(q:Int)∧(a:Int) / 4=(q:Int):=by
 have:(a:Int) / 4=(q:Int):=by omega
 exact ⟨by rw [Int.tdiv_eq_ediv_of_nonneg (by omega)];exact this,this⟩
theorem decI_iok (x:Nat) (i:I) (h:decI x=some i):IOk i:=by
 unfold decI at h
 split at h
 · rename_i ho
   obtain rfl:=Option.some.inj h;exact (toI_ok (ok_may ho)).1
 · cases h
end Go.Proofs.YtjmiaemabhlnjaaGreatDoor.Chains.Shifts
end
