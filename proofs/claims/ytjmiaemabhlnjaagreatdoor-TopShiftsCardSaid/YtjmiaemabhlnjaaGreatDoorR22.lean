/- A part of the proof of TopShifts. -/
import Derived.Test.YtjmiaemabhlnjaaGreatDoorR21
import Derived.Laws.IdiomStrings
import Derived.Laws.Tables
import Derived.Laws.CopyRow
import Derived.Great.BuildSlice
section
set_option linter.all false
set_option maxRecDepth 20000
namespace Go.Proofs.YtjmiaemabhlnjaaGreatDoor.Sym
open Go Go.RowKit
noncomputable section
section
variable {P:Program} {W:World} {σ:Env} {w0:World}
def asN:SV→Option Nat
 | .int _ (.ofNat n)=>some n
 | _=>none
def evBounds (len cap:Nat) (lo hi mx:Option SV):Option (Nat×Nat×Option Nat) :=
 match (match mx with
  | none=>some none
  | some v=>match asN v with
    | some m=>if m≤cap then some (some m) else none
    | none=>none:Option (Option Nat)) with
 | none=>none
 | some m=>match (match hi with
    | none=>match m with
      | none=>some len
      | some _=>none
    | some v=>match asN v with
      | some h=>if h≤m.getD cap then some h else none
      | none=>none:Option Nat) with
   | none=>none
   | some h=>match lo with
     | none=>some (0,h,m)
     | some v=>match asN v with
       | some l=>if l≤h then some (l,h,m) else none
       | none=>none
theorem asN_conc {x:SV} {n:Nat} {V:Value} (h:asN x=some n) (hx:conc σ x=some V):∃k,V=.int k (n:Int):=by
 unfold asN at h
 split at h
 · rename_i k m
   cases h;simp only [conc,Option.some.injEq] at hx;exact ⟨k,hx.symm⟩
 · cases h
theorem run_bound {k:IntKind} {n y:Nat} (code:BoundsCode) (h:n≤y) (w:World):(Instr.sliceBound (.int k (n:Int)) y code).run P w=.ok n w:=by
 have h1:(0:Int)≤(n:Int)∧(n:Int)≤(y:Int):=⟨Int.natCast_nonneg n,by exact_mod_cast h⟩;simp only [Instr.sliceBound,asIntOf,Sem.run_bind,Sem.run_pure,Result.andThen_ok,Sem.run_ite];rw [if_pos h1]
 rfl
theorem evBounds_ok {isS:Bool} {len cap cap':Nat} {lo hi mx:Option SV} {Lo Hi Mx:Option Value} {l h:Nat} {m:Option Nat} (hlen:hi=none→len≤cap) (hc:cap≤cap')
 (hlo:∀x,lo=some x→∃v,Lo=some v∧conc σ x=some v) (hlo0:lo=none→Lo=none)
 (hhi:∀x,hi=some x→∃v,Hi=some v∧conc σ x=some v) (hhi0:hi=none→Hi=none)
 (hmx:∀x,mx=some x→∃v,Mx=some v∧conc σ x=some v) (hmx0:mx=none→Mx=none)
 (he:evBounds len cap lo hi mx=some (l,h,m)) :
 (∀w,(Instr.sliceBounds isS len cap' Lo Hi Mx).run P w=.ok (l,h,m.getD cap') w)∧l≤h∧h≤m.getD cap∧m.getD cap≤m.getD cap'∧(lo=none→l=0)∧m.getD cap≤cap:=by
 unfold evBounds at he
 split at he
 · cases he
 · rename_i m' hm
   split at he
   · cases he
   · rename_i h' hh
     have hM:(∀w,(match Mx with | some v=>Instr.sliceBound v cap' (if isS then .slice3Acap else .slice3Alen) | none=>pure cap').run P w=.ok (m'.getD cap') w)∧m'.getD cap≤m'.getD cap'∧m'.getD cap≤cap∧(m'=none↔Mx=none):=by
      cases mx with
      | none =>
        rw [hmx0 rfl];simp only [Option.some.injEq] at hm;subst hm;exact ⟨fun w=>rfl,hc,Nat.le_refl _,by simp⟩
      | some v =>
        obtain ⟨V,rfl,hV⟩:=hmx v rfl;simp only at hm
        split at hm
        · rename_i m2 hm2
          split at hm
          · rename_i hle
            cases hm;obtain ⟨k,rfl⟩:=asN_conc hm2 hV;exact ⟨fun w=>run_bound _ (Nat.le_trans hle hc) w,Nat.le_refl _,hle,by simp⟩
          · cases hm
        · cases hm
     obtain ⟨hM1,hM2,hM3,hM4⟩:=hM
     have hH:(∀w,(match Hi,Mx with
      | some v,some _=>Instr.sliceBound v (m'.getD cap') .slice3B
      | some v,none=>Instr.sliceBound v (m'.getD cap') (if isS then .sliceAcap else .sliceAlen)
      | none,none=>pure len
      | none,some _=>stuck "Slice: max without high":Sem Nat).run P w=.ok h' w)∧h'≤m'.getD cap:=by
      cases hi with
      | none =>
        rw [hhi0 rfl];simp only at hh
        split at hh
        · rename_i hm0
          cases hh;rw [(hM4.1 rfl)];exact ⟨fun w=>rfl,hlen rfl⟩
        · cases hh
      | some v =>
        obtain ⟨V,rfl,hV⟩:=hhi v rfl;simp only at hh
        split at hh
        · rename_i h2 hh2
          split at hh
          · rename_i hle
            cases hh;obtain ⟨k,rfl⟩:=asN_conc hh2 hV;refine ⟨fun w=>?_,hle⟩
            cases Mx<;>exact run_bound _ (Nat.le_trans hle hM2) w
          · cases hh
        · cases hh
     obtain ⟨hH1,hH2⟩:=hH
     have hL:m=m'∧h=h'∧(∀w,(match Lo with
      | some v=>Instr.sliceBound v h' (if Mx.isSome then .slice3C else .sliceB)
      | none=>pure 0).run P w=.ok l w)∧l≤h'∧(lo=none→l=0):=by
      cases lo with
      | none =>
        rw [hlo0 rfl];simp only [Option.some.injEq,Prod.mk.injEq] at he;obtain ⟨rfl,rfl,rfl⟩:=he;exact ⟨rfl,rfl,fun w=>rfl,Nat.zero_le _,fun _=>rfl⟩
      | some v =>
        obtain ⟨V,rfl,hV⟩:=hlo v rfl;simp only at he
        split at he
        · rename_i l2 hl2
          split at he
          · rename_i hle
            simp only [Option.some.injEq,Prod.mk.injEq] at he;obtain ⟨rfl,rfl,rfl⟩:=he;obtain ⟨k,rfl⟩:=asN_conc hl2 hV;exact ⟨rfl,rfl,fun w=>run_bound _ hle w,hle,fun h=>by cases h⟩
          · cases he
        · cases he
     obtain ⟨rfl,rfl,hL1,hL2,hL3⟩:=hL;refine ⟨fun w=>?_,hL2,hH2,hM2,hL3,hM3⟩;have hM:=hM1 w;have hH:=hH1 w;have hL:=hL1 w;clear hlo hlo0 hhi hhi0 hmx hmx0 hm hh he hM1 hH1 hL1 hL3 hlen hM4;unfold Instr.sliceBounds
     cases Mx with
     | none =>
       simp only [Sem.run_pure,Result.ok.injEq,and_true] at hM
       cases Hi with
       | none =>
         simp only [Sem.run_pure,Result.ok.injEq,and_true] at hH;subst hH
         cases Lo with
         | none =>
           simp only [Sem.run_pure,Result.ok.injEq,and_true] at hL;subst hL;simp only [Sem.run_bind,Sem.run_pure,Result.andThen_ok,←hM]
         | some a =>
           simp only at hL;simp only [Sem.run_bind,Sem.run_pure,Result.andThen_ok,hL,←hM]
       | some a =>
         simp only at hH;rw [←hM] at hH ⊢
         cases Lo with
         | none =>
           simp only [Sem.run_pure,Result.ok.injEq,and_true] at hL;subst hL;simp only [Sem.run_bind,Sem.run_pure,Result.andThen_ok,hH]
         | some a =>
           simp only at hL;simp only [Sem.run_bind,Sem.run_pure,Result.andThen_ok,hL,hH]
     | some c =>
       simp only at hM
       cases Hi with
       | none=>simp at hH
       | some a =>
         simp only at hH
         cases Lo with
         | none =>
           simp only [Sem.run_pure,Result.ok.injEq,and_true] at hL;subst hL;simp only [Sem.run_bind,Sem.run_pure,Result.andThen_ok,hM,hH]
         | some a =>
           simp only at hL;simp only [Sem.run_bind,Sem.run_pure,Result.andThen_ok,hL,hM,hH]
def knownAt (h:Hp) (id off es:Nat):Option Nat :=
 match h.get id with
 | some (.row cells (some es'))=>if es'=es then some (cells.length / es - off) else none
 | _=>none
def evSlice (B:Tab) (hp:Hp) (t:TypeId) (x:SV) (lo hi mx:Option SV):Option SV :=
 match B.T t,x with
 | some ti,.str s=>match ti.d with
   | .string=>match mx with
     | some _=>none
     | none=>match evBounds s.length s.length lo hi none with
       | some (l,h,_)=>some (.str ((s.drop l).take (h - l)))
       | none=>none
   | _=>none
 | some ti,.nils=>match ti.d with
   | .slice elem=>match B.T elem,evBounds 0 0 lo hi mx with
     | some _,some _=>some .nils
     | _,_=>none
   | _=>none
 | some ti,.slice id off es len (some cap)=>match ti.d with
   | .slice elem=>match B.T elem with
     | some et=>if et.size=es∧len≤cap then match evBounds len cap lo hi mx with
        | some (l,h,m)=>some (.slice id (if m.getD cap=l then off else off+l) es (h - l) (some (m.getD cap - l)))
        | none=>none
       else none
     | none=>none
   | _=>none
 | some ti,.slice id off es len none=>match ti.d with
   | .slice elem=>match B.T elem,knownAt hp id off es with
     | some et,some kn=>if et.size=es∧len≤kn then match evBounds len kn lo hi mx with
        | some (l,h,some m)=>some (.slice id (if m=l then off else off+l) es (h - l) (some (m - l)))
        | some (l,h,none)=>if l=0∨l<kn then some (.slice id (off+l) es (h - l) none) else none
        | none=>none
       else none
     | _,_=>none
   | _=>none
 | some ti,.ptr id off=>match ti.d with
   | .array n elem=>match B.T elem with
     | some et=>if et.size=0 then none else match evBounds n n lo hi mx with
        | some (l,h,m)=>if off%et.size=0 then some (.slice id (if m.getD n=l then off / et.size else off / et.size+l) et.size (h - l) (some (m.getD n - l))) else none
        | none=>none
     | none=>none
   | _=>none
 | _,_=>none
theorem extract_str (s:List UInt8) (l h:Nat):(⟨⟨s⟩⟩:ByteArray).extract l h=⟨⟨(s.drop l).take (h - l)⟩⟩:=by
 have:((⟨⟨s⟩⟩:ByteArray).extract l h).data=(⟨(s.drop l).take (h - l)⟩:Array UInt8):=by
  rw [ByteArray.data_extract]
  apply Array.ext'
  simp [List.extract_eq_take_drop,List.drop_take]
 exact ByteArray.ext this
theorem evSlice_ok {B:Tab} {hp:Hp} {t:TypeId} {x y:SV} {lo hi mx:Option SV} {V:Value} {Lo Hi Mx:Option Value} (hB:TabOk P W σ.op B) (H:HRel W σ hp w0) (hx:conc σ x=some V)
 (hlo:∀x,lo=some x→∃v,Lo=some v∧conc σ x=some v) (hlo0:lo=none→Lo=none)
 (hhi:∀x,hi=some x→∃v,Hi=some v∧conc σ x=some v) (hhi0:hi=none→Hi=none)
 (hmx:∀x,mx=some x→∃v,Mx=some v∧conc σ x=some v) (hmx0:mx=none→Mx=none)
 (he:evSlice B hp t x lo hi mx=some y):Y P W σ w0 (Instr.sliceAt t V Lo Hi Mx) y []:=by
 unfold evSlice at he
 split at he
 · rename_i ti s ht
   have hd:=hB.under _ _ ht
   split at he
   · rename_i hti
     rw [hti] at hd
     split at he
     · cases he
     · split at he
       · rename_i l h m hb
         cases he;simp only [conc,Option.some.injEq] at hx;subst hx;obtain ⟨h1,h2,h3,h4,h5,h6⟩:=evBounds_ok (P:=P) (isS:=false) (fun _=>Nat.le_refl _) (Nat.le_refl _) hlo hlo0 hhi hhi0 (fun _ h=>by cases h) (fun _=>rfl) hb;refine Y.mk0 rfl fun w=>?_;simp only [Instr.sliceAt,Instr.slice,Sem.run_bind,run_underlying hd,Result.andThen_ok,hmx0 rfl,Option.isSome_none,Bool.false_eq_true,if_false,Sem.run_pure]
         rw [show (⟨⟨s⟩⟩:ByteArray).size=s.length from rfl,h1,Result.andThen_ok];simp only [extract_str,Sem.run_pure]
       · cases he
   · cases he
 · rename_i ti ht
   have hd:=hB.under _ _ ht
   split at he
   · rename_i elem hti
     rw [hti] at hd
     split at he
     · rename_i et b het hb
       obtain ⟨l,h,m⟩:=b;cases he;simp only [conc,Option.some.injEq] at hx;subst hx;obtain ⟨i,z,hi,hs,_⟩:=hB.info _ _ het;obtain ⟨h1,h2,h3,h4,h5,h6⟩:=evBounds_ok (P:=P) (isS:=true) (fun _=>Nat.le_refl _) (Nat.le_refl _) hlo hlo0 hhi hhi0 hmx hmx0 hb;refine Y.mk0 rfl fun w=>?_
       have hm0:m.getD 0=0:=by omega
       have hh0:h=0:=by omega
       have hl0:l=0:=by omega
       subst hh0;subst hl0;simp only [Instr.sliceAt,Instr.slice,Sem.run_bind,run_underlying hd,Result.andThen_ok];rw [h1,Result.andThen_ok];simp only [run_sizeOf' hi,Result.andThen_ok,Sem.run_pure,hm0]
       rfl
     · cases he
   · cases he
 · rename_i ti id off es len cap ht
   have hd:=hB.under _ _ ht
   split at he
   · rename_i elem hti
     rw [hti] at hd
     split at he
     · rename_i et het
       obtain ⟨i,z,hi,hs,_⟩:=hB.info _ _ het
       split at he
       · rename_i hc
         split at he
         · rename_i l h m hb
           cases he;simp only [conc,Option.map_eq_some_iff] at hx;obtain ⟨x,hx,rfl⟩:=hx;obtain ⟨h1,h2,h3,h4,h5,h6⟩:=evBounds_ok (P:=P) (isS:=true) (fun _=>hc.2) (Nat.le_refl _) hlo hlo0 hhi hhi0 hmx hmx0 hb;refine Y.mk0 (by simp only [conc,hx,Option.map_some];rfl) fun w=>?_;simp only [Instr.sliceAt,Instr.slice,Sem.run_bind,run_underlying hd,Result.andThen_ok,Option.getD_some];rw [h1,Result.andThen_ok]
           simp only [run_sizeOf' hi,Result.andThen_ok,Sem.run_pure,hs,hc.1,Option.map_some,addr_add]
           congr 2
           split<;>simp [Nat.add_mul]
         · cases he
       · cases he
     · cases he
   · cases he
 · rename_i ti id off es len ht
   have hd:=hB.under _ _ ht
   split at he
   · rename_i elem hti
     rw [hti] at hd
     split at he
     · rename_i et kn het hkn
       obtain ⟨i,z,hi,hs,_⟩:=hB.info _ _ het
       split at he
       · rename_i hc
         simp only [conc,Option.map_eq_some_iff] at hx;obtain ⟨x,hx,rfl⟩:=hx
         have hK:kn≤x.2 - off:=by
          unfold knownAt at hkn
          split at hkn
          · rename_i cells es' ho
            split at hkn
            · rename_i hes
              cases hkn;obtain ⟨b,K,c,el,vs,h1,h2,h3,h4,h5,h6,h7,h8⟩:=H.obj _ _ ho;rw [hx] at h1;cases h1;subst hes;rw [h6] at h8;have:=Nat.div_le_of_le_mul (by rw [Nat.mul_comm];exact h8);omega
            · cases hkn
          · cases hkn
         split at he
         · rename_i l h m hb
           cases he;obtain ⟨h1,h2,h3,h4,h5,h6⟩:=evBounds_ok (P:=P) (isS:=true) (fun _=>hc.2) hK hlo hlo0 hhi hhi0 hmx hmx0 hb;refine Y.mk0 (by simp only [conc,hx,Option.map_some];rfl) fun w=>?_;simp only [Instr.sliceAt,Instr.slice,Sem.run_bind,run_underlying hd,Result.andThen_ok,Option.getD_none];rw [h1,Result.andThen_ok];simp only [run_sizeOf' hi,Result.andThen_ok,Sem.run_pure,hs,hc.1,Option.map_some,addr_add,Option.getD_some]
           congr 2
           split<;>simp [Nat.add_mul]
         · rename_i l h hb
           split at he
           · rename_i hl
             cases he;obtain ⟨h1,h2,h3,h4,h5,h6⟩:=evBounds_ok (P:=P) (isS:=true) (fun _=>hc.2) hK hlo hlo0 hhi hhi0 hmx hmx0 hb;refine Y.mk0 (by simp only [conc,hx,Option.map_some];rfl) fun w=>?_;simp only [Instr.sliceAt,Instr.slice,Sem.run_bind,run_underlying hd,Result.andThen_ok,Option.getD_none];rw [h1,Result.andThen_ok];simp only [run_sizeOf' hi,Result.andThen_ok,Sem.run_pure,hs,hc.1,Option.map_some,addr_add,Option.getD_none]
             congr 2
             · rcases hl with rfl | hl
               · simp
               · rw [if_neg (by omega)]
                 simp [Nat.add_mul]
             · omega
           · cases he
         · cases he
       · cases he
     · cases he
   · cases he
 · rename_i ti id off ht
   have hd:=hB.under _ _ ht
   split at he
   · rename_i n elem hti
     rw [hti] at hd
     split at he
     · rename_i et het
       obtain ⟨i,z,hi,hs,_⟩:=hB.info _ _ het
       split at he
       · cases he
       · rename_i h0
         split at he
         · rename_i l h m hb
           split at he
           · rename_i hmod
             cases he;simp only [conc,Option.map_eq_some_iff] at hx;obtain ⟨x,hx,rfl⟩:=hx;obtain ⟨h1,h2,h3,h4,h5,h6⟩:=evBounds_ok (P:=P) (isS:=false) (fun _=>Nat.le_refl _) (Nat.le_refl _) hlo hlo0 hhi hhi0 hmx hmx0 hb;refine Y.mk0 (by simp only [conc,hx,Option.map_some];rfl) fun w=>?_;simp only [Instr.sliceAt,Sem.run_bind,run_underlying hd,Result.andThen_ok,Instr.sureAddr,Sem.run_pure];rw [h1,Result.andThen_ok]
             simp only [run_sizeOf' hi,Result.andThen_ok,Sem.run_pure,hs,addr_add,Option.getD_some]
             congr 2
             have hdiv:off / et.size*et.size=off:=by
              have:=Nat.div_add_mod off et.size;rw [Nat.mul_comm];omega
             split<;>simp [Nat.add_mul,hdiv]
           · cases he
         · cases he
     · cases he
   · cases he
 · cases he
end
end
noncomputable section
section
variable {P:Program} {W:World} {σ:Env} {w0:World}
def pureS (s:Sem Value):Option SV :=
 match s with
 | .pure v=>ofV1 v
 | _=>none
theorem pureS_ok {s:Sem Value} {x:SV} (h:pureS s=some x):Y P W σ w0 s x []:=by
 unfold pureS at h
 split at h
 · exact Y.mk0 (ofV1_conc h) fun w=>rfl
 · cases h
def eqB:List UInt8→List UInt8→Bool
 | [],[]=>true
 | a::x,b::y=>Nat.beq a.toNat b.toNat&&eqB x y
 | _,_=>false
theorem eqB_iff:∀{a b:List UInt8},eqB a b=decide (a=b)
 | [],[]=>by simp [eqB]
 | [],b::y=>by simp [eqB]
 | a::x,[]=>by simp [eqB]
 | a::x,b::y=>by
   simp only [eqB,eqB_iff (a:=x) (b:=y),List.cons.injEq]
   by_cases h:a=b
   · subst h;simp
   · have:Nat.beq a.toNat b.toNat=false:=by
      cases hb:Nat.beq a.toNat b.toNat with
      | false=>rfl
      | true=>exact absurd (UInt8.toNat_inj.1 (Nat.eq_of_beq_eq_true hb)) h
     simp [this,h]
theorem beqL (a b:List UInt8):(a==b)=decide (a=b):=by by_cases h:a=b<;>simp [h]
def eqCells:List SV→List SV→List Nat→Option Bool
 | [],[],[]=>some true
 | a::x,b::y,k::l =>
   match k,a,b with
   | 0,.int j m,.int j' n=>if j=j' then (if m=n then eqCells x y l else some false) else none
   | 1,.bool m,.bool n=>if m=n then eqCells x y l else some false
   | 2,.str m,.str n=>if eqB m n then eqCells x y l else some false
   | _,_,_=>none
 | _,_,_=>none
def evEq (B:Tab) (t:TypeId) (c:Bool) (x y:SV):Option Bool :=
 match B.T t with
 | none=>none
 | some ti =>
   match ti.d,x,y with
   | .bool,.bool a,.bool b=>some (a==b)
   | .pointer _,.nilp,.nilp=>some true
   | .pointer _,.nilp,.ptr _ _=>some false
   | .pointer _,.ptr _ _,.nilp=>some false
   | .pointer _,.nilp,.glob _ _=>some false
   | .pointer _,.glob _ _,.nilp=>some false
   | .slice _,.nils,.nils=>some true
   | .slice _,.nils,.slice _ _ _ _ _=>some false
   | .slice _,.slice _ _ _ _ _,.nils=>some false
   | .func _ _ _,.nilf,.nilf=>some true
   | .func _ _ _,.func _ _ _,.nilf=>some false
   | .interface _,.nili,.nili=>if c then some true else none
   | .interface _,.nili,.iface _ _=>some false
   | .interface _,.iface _ _,.nili=>some false
   | .interface _,.iface t1 v1,.iface t2 v2 =>
     if t1=t2 then match B.T t1 with
      | some t=>match t.d,t.cmp,v1,v2 with
        | .int _,true,.int k a,.int k' b=>if k=k' then some (a==b) else none
        | _,_,_,_=>none
      | none=>none
     else some false
   | .struct _,.agg a,.agg b=>match B.E t with
     | some l=>eqCells a b l
     | none=>none
   | _,_,_=>none
theorem eqCells_ok {fs:List Field} {l:List Nat} {off:Nat} (hl:fs.length=l.length) (hf:∀(i:Nat) (f:Field),fs[i]? = some f→f.name ≠ "_"∧f.offset=off+i∧∃k,l[i]? = some k∧kindIs P f.type k)
 {a b:List SV} {va vb xs ys:List Value} (ha:concL σ a=some va) (hb:concL σ b=some vb) (hxs:∀j,xs[off+j]? = va[j]?) (hys:∀j,ys[off+j]? = vb[j]?)
 {r:Bool} (he:eqCells a b l=some r) (d:Nat) (w:World):(Op.eqFields (d+1) xs.toArray ys.toArray fs).run P w=.ok r w:=by
 induction fs generalizing l off a b va vb with
 | nil =>
   have:l=[]:=List.length_eq_zero_iff.1 hl.symm;subst this;unfold eqCells at he
   split at he
   · cases he;rfl
   · rename_i h;cases h
   · cases he
 | cons f fs ih =>
   cases l with
   | nil=>simp at hl
   | cons k l =>
     obtain ⟨hn,ho,k',hk',hkind⟩:=hf 0 f rfl;simp only [List.getElem?_cons_zero,Option.some.injEq] at hk';subst hk'
     cases a with
     | nil=>simp [eqCells] at he
     | cons x a =>
       cases b with
       | nil=>simp [eqCells] at he
       | cons y b =>
         obtain ⟨vx,va',hx,ha',rfl⟩:=concL_cons ha;obtain ⟨vy,vb',hy,hb',rfl⟩:=concL_cons hb
         have e1:xs[off]? = some vx:=by have:=hxs 0;simpa using this
         have e2:ys[off]? = some vy:=by have:=hys 0;simpa using this
         have rest:eqCells a b l=some r→(Op.eqFields (d+1) xs.toArray ys.toArray fs).run P w=.ok r w:=fun h =>
          ih (l:=l) (off:=off+1) (by simpa using hl) (fun i f hi=>by
           obtain ⟨h1,h2,h3⟩:=hf (i+1) f (by simpa using hi)
           exact ⟨h1,by omega,by simpa using h3⟩)
           ha' hb' (fun j=>by have:=hxs (j+1);simpa [Nat.add_assoc,Nat.add_comm 1 j] using this) (fun j=>by have:=hys (j+1);simpa [Nat.add_assoc,Nat.add_comm 1 j] using this) h
         have part1:∀(zs:List Value) (v:Value),zs[off]? = some v→∀(dd:TypeDesc),P.underlying f.type=some dd→isAggD dd=false→(part f.type zs.toArray f.offset).run P w=.ok v w:=by
          intro zs v hz dd hd hag;rw [ho,Nat.add_zero];simp only [part,Sem.run_bind,run_isAgg hd,hag,Result.andThen_ok,Bool.false_eq_true,if_false,List.getElem?_toArray,hz,Sem.run_pure]
         simp only [Op.eqFields,hn,ne_eq,not_false_eq_true,if_true,Sem.run_bind];unfold eqCells at he
         split at he
         · rename_i j m j' n
           simp only [conc,Option.some.injEq] at hx hy;subst hx;subst hy;obtain ⟨kk,hkk⟩:=hkind;rw [part1 xs _ e1 _ hkk rfl,Result.andThen_ok,part1 ys _ e2 _ hkk rfl,Result.andThen_ok]
           split at he
           · rename_i hj
             subst hj;rw [run_equalIn_int w d f.type j kk m n hkk,Result.andThen_ok]
             split at he
             · rename_i hm
               subst hm
               simpa using rest he
             · rename_i hm
               cases he
               have:(m==n)=false:=by simpa using hm
               simp [this]
           · cases he
         · rename_i m n
           simp only [conc,Option.some.injEq] at hx hy;subst hx;subst hy;have hkk:P.underlying f.type=some .bool:=hkind;rw [part1 xs _ e1 _ hkk rfl,Result.andThen_ok,part1 ys _ e2 _ hkk rfl,Result.andThen_ok];rw [run_equalIn_bool' w d f.type m n hkk,Result.andThen_ok]
           split at he
           · rename_i hm
             subst hm
             simpa using rest he
           · rename_i hm
             cases he
             have:(m==n)=false:=by simpa using hm
             simp [this]
         · rename_i m n
           simp only [conc,Option.some.injEq] at hx hy;subst hx;subst hy;have hkk:P.underlying f.type=some .string:=hkind;rw [part1 xs _ e1 _ hkk rfl,Result.andThen_ok,part1 ys _ e2 _ hkk rfl,Result.andThen_ok];rw [run_equalIn_string w d f.type _ _ hkk,Result.andThen_ok];rw [ByteArray.toList_mk,ByteArray.toList_mk];rw [eqB_iff] at he
           split at he
           · rename_i hm
             have hm:m=n:=by simpa using hm
             subst hm
             simpa using rest he
           · rename_i hm
             cases he
             have:(m==n)=false:=by simpa using hm
             simp [this]
         · cases he
theorem evEq_ok {B:Tab} {t:TypeId} {c:Bool} {x y:SV} {V U:Value} {b:Bool} (hB:TabOk P W σ.op B) (hx:conc σ x=some V) (hy:conc σ y=some U) (he:evEq B t c x y=some b) :
 (∀w,(Op.equal t V U).run P w=.ok b w)∧(∀op (ox oy:Operand) w,(c=true→((ox matches .const _) || (oy matches .const _))=true)→(eqGuard op t ox oy V U).run P w=.ok () w) ∧
   binOp .eql t V U=(do pure (.bool (←Op.equal t V U)))∧binOp .neq t V U=(do pure (.bool (!(←Op.equal t V U)))):=by
 unfold evEq at he
 split at he
 · cases he
 · rename_i ti ht
   have hd:=hB.under _ _ ht
   split at he
   all_goals rename_i hti
   all_goals try rw [hti] at hd
   all_goals try simp only [conc,Option.some.injEq,Option.map_eq_some_iff,Option.bind_eq_some_iff] at hx hy
   · subst hx;subst hy;cases he
     refine ⟨fun w=>by (show (Op.equalIn (9999+1) t _ _).run P w=_;generalize 9999=d;simp only [Op.equalIn,Sem.run_bind,run_underlying hd,Result.andThen_ok,Sem.run_pure];try rfl),fun op ox oy w _=>?_,rfl,rfl⟩
     · cases op<;>rfl
   · subst hx;subst hy;cases he
     refine ⟨fun w=>by (show (Op.equalIn (9999+1) t _ _).run P w=_;generalize 9999=d;simp only [Op.equalIn,Sem.run_bind,run_underlying hd,Result.andThen_ok,Sem.run_pure];try rfl),fun op ox oy w _=>?_,rfl,rfl⟩
     · cases op<;>rfl
   · obtain ⟨y',_,rfl⟩:=hy
     subst hx;cases he;refine ⟨fun w=>by (show (Op.equalIn (9999+1) t _ _).run P w=_;generalize 9999=d;simp only [Op.equalIn,Sem.run_bind,run_underlying hd,Result.andThen_ok,Sem.run_pure];try rfl),fun op ox oy w _=>?_,rfl,rfl⟩
     · cases op<;>rfl
   · obtain ⟨y',_,rfl⟩:=hx
     subst hy;cases he;refine ⟨fun w=>by (show (Op.equalIn (9999+1) t _ _).run P w=_;generalize 9999=d;simp only [Op.equalIn,Sem.run_bind,run_underlying hd,Result.andThen_ok,Sem.run_pure];try rfl),fun op ox oy w _=>?_,rfl,rfl⟩
     · cases op<;>rfl
   · subst hx;subst hy;cases he
     refine ⟨fun w=>by (show (Op.equalIn (9999+1) t _ _).run P w=_;generalize 9999=d;simp only [Op.equalIn,Sem.run_bind,run_underlying hd,Result.andThen_ok,Sem.run_pure];try rfl),fun op ox oy w _=>?_,rfl,rfl⟩
     · cases op<;>rfl
   · subst hx;subst hy;cases he
     refine ⟨fun w=>by (show (Op.equalIn (9999+1) t _ _).run P w=_;generalize 9999=d;simp only [Op.equalIn,Sem.run_bind,run_underlying hd,Result.andThen_ok,Sem.run_pure];try rfl),fun op ox oy w _=>?_,rfl,rfl⟩
     · cases op<;>rfl
   · subst hx;subst hy;cases he
     refine ⟨fun w=>by (show (Op.equalIn (9999+1) t _ _).run P w=_;generalize 9999=d;simp only [Op.equalIn,Sem.run_bind,run_underlying hd,Result.andThen_ok,Sem.run_pure];try rfl),fun op ox oy w _=>?_,rfl,rfl⟩
     · cases op<;>rfl
   · obtain ⟨y',_,rfl⟩:=hy
     subst hx;cases he;refine ⟨fun w=>by (show (Op.equalIn (9999+1) t _ _).run P w=_;generalize 9999=d;simp only [Op.equalIn,Sem.run_bind,run_underlying hd,Result.andThen_ok,Sem.run_pure];try rfl),fun op ox oy w _=>?_,rfl,rfl⟩
     · cases op<;>rfl
   · obtain ⟨y',_,rfl⟩:=hx
     subst hy;cases he;refine ⟨fun w=>by (show (Op.equalIn (9999+1) t _ _).run P w=_;generalize 9999=d;simp only [Op.equalIn,Sem.run_bind,run_underlying hd,Result.andThen_ok,Sem.run_pure];try rfl),fun op ox oy w _=>?_,rfl,rfl⟩
     · cases op<;>rfl
   · subst hx;subst hy;cases he
     refine ⟨fun w=>by (show (Op.equalIn (9999+1) t _ _).run P w=_;generalize 9999=d;simp only [Op.equalIn,Sem.run_bind,run_underlying hd,Result.andThen_ok,Sem.run_pure];try rfl),fun op ox oy w _=>?_,rfl,rfl⟩
     · cases op<;>rfl
   · obtain ⟨_,_,_,_,rfl⟩:=hx
     subst hy;cases he;refine ⟨fun w=>by (show (Op.equalIn (9999+1) t _ _).run P w=_;generalize 9999=d;simp only [Op.equalIn,Sem.run_bind,run_underlying hd,Result.andThen_ok,Sem.run_pure];try rfl),fun op ox oy w _=>?_,rfl,rfl⟩
     · cases op<;>rfl
   · subst hx;subst hy
     split at he
     · rename_i hc
       cases he;refine ⟨fun w=>by (show (Op.equalIn (9999+1) t _ _).run P w=_;generalize 9999=d;simp only [Op.equalIn,Sem.run_bind,run_underlying hd,Result.andThen_ok,Sem.run_pure];try rfl),fun op ox oy w hk=>?_,rfl,rfl⟩
       · have:=hk hc
         cases op<;>first | rfl | (cases ox<;>cases oy<;>first | rfl | (simp at this;done))
     · cases he
   · obtain ⟨y',_,rfl⟩:=hy
     subst hx;cases he;refine ⟨fun w=>by (show (Op.equalIn (9999+1) t _ _).run P w=_;generalize 9999=d;simp only [Op.equalIn,Sem.run_bind,run_underlying hd,Result.andThen_ok,Sem.run_pure];try rfl),fun op ox oy w _=>?_,rfl,rfl⟩
     · cases op<;>rfl
   · obtain ⟨y',_,rfl⟩:=hx
     subst hy;cases he;refine ⟨fun w=>by (show (Op.equalIn (9999+1) t _ _).run P w=_;generalize 9999=d;simp only [Op.equalIn,Sem.run_bind,run_underlying hd,Result.andThen_ok,Sem.run_pure];try rfl),fun op ox oy w _=>?_,rfl,rfl⟩
     · cases op<;>rfl
   · obtain ⟨v1',hv1,rfl⟩:=hx
     obtain ⟨v2',hv2,rfl⟩:=hy;refine ⟨fun w=>?_,fun op ox oy w _=>?_,rfl,rfl⟩
     · split at he
       · rename_i ht12
         subst ht12
         split at he
         · rename_i tj htj
           obtain ⟨i,z,hi,hs,_,_,hcmp,_⟩:=hB.info _ _ htj;have hdj:=hB.under _ _ htj
           split at he
           · rename_i kk k a k' b' h1 h2
             rw [h1] at hdj;rw [h2] at hcmp;simp only [conc,Option.some.injEq] at hv1 hv2;subst hv1;subst hv2
             split at he
             · rename_i hkk
               subst hkk;cases he
               show (Op.equalIn (9998+1+1) t _ _).run P w=_
               generalize 9998=d;simp [Op.equalIn,run_underlying hd,run_typeInfo' hi,hcmp,run_underlying hdj]
             · cases he
           · cases he
         · cases he
       · rename_i ht12
         cases he
         show (Op.equalIn (9999+1) t _ _).run P w=_
         generalize 9999=d;simp [Op.equalIn,run_underlying hd,ht12]
     · cases op<;>rfl
   · obtain ⟨va,hva,rfl⟩:=hx
     obtain ⟨vb,hvb,rfl⟩:=hy
     split at he
     · rename_i l hl
       obtain ⟨fs,h1,h2,h3,h4,h5⟩:=hB.eqs _ _ hl
       have hfo:P.fieldsOf t=fs:=by simp [Program.fieldsOf,h1]
       have ht':P.underlying t=some (.struct (P.fieldsOf t)):=by rw [hfo];exact h1
       refine ⟨fun w=>?_,fun op ox oy w _=>?_,rfl,rfl⟩
       · have:=run_equalIn_struct (P:=P) w 9999 t va.toArray vb.toArray ht' h2
         show (Op.equalIn (9999+1) t _ _).run P w=_
         rw [this,hfo]
         exact eqCells_ok (off:=0) (by simpa using h4) (fun i f hi=>by
          obtain ⟨e1,e2,e3⟩:=h5 i f (by simpa using hi)
          exact ⟨e1,by omega,e3⟩) hva hvb (fun j=>by simp) (fun j=>by simp) he 9998 w
       · exact run_eqGuard_agg w op t ox oy _ _ h3
     · cases he
   · cases he
def evBin (B:Tab) (op:BinOp) (t:TypeId) (c:Bool) (x y:SV):Option SV :=
 match x,y with
 | .int k a,.int k' b=>pureS (binOp op t (.int k a) (.int k' b))
 | .str a,.str b =>
   match op with
   | .add=>if a.length+b.length≤1000000 then some (.str (a++b)) else none
   | .eql=>some (.bool (eqB a b))
   | .neq=>some (.bool (!eqB a b))
   | .lss=>some (.bool (Op.bytesLess a b))
   | _=>none
 | _,_ =>
   match op with
   | .eql=>(evEq B t c x y).map .bool
   | .neq=>(evEq B t c x y).map fun b=>.bool (!b)
   | _=>none
theorem evEqBin_ok {B:Tab} {op:BinOp} {t:TypeId} {c:Bool} {x y z:SV} {V U:Value} {ox oy:Operand} (hB:TabOk P W σ.op B) (hx:conc σ x=some V) (hy:conc σ y=some U)
 (hc:c=true→((ox matches .const _) || (oy matches .const _))=true) (he:(match op with
 | .eql=>(evEq B t c x y).map SV.bool
 | .neq=>(evEq B t c x y).map fun b=>SV.bool (!b)
 | _=>none)=some z):Y P W σ w0 (do eqGuard op t ox oy V U;binOp op t V U) z []:=by
 split at he
 · simp only [Option.map_eq_some_iff] at he
   obtain ⟨b,hb,rfl⟩:=he;obtain ⟨h1,h2,h3,h4⟩:=evEq_ok hB hx hy hb;refine Y.mk0 rfl fun w=>?_;rw [Sem.run_bind,h2 _ _ _ _ hc,Result.andThen_ok,h3];simp [h1]
 · simp only [Option.map_eq_some_iff] at he
   obtain ⟨b,hb,rfl⟩:=he;obtain ⟨h1,h2,h3,h4⟩:=evEq_ok hB hx hy hb;refine Y.mk0 rfl fun w=>?_;rw [Sem.run_bind,h2 _ _ _ _ hc,Result.andThen_ok,h4];simp [h1]
 · cases he
theorem evBin_ok {B:Tab} {op:BinOp} {t:TypeId} {c:Bool} {x y z:SV} {V U:Value} {ox oy:Operand} (hB:TabOk P W σ.op B) (hx:conc σ x=some V) (hy:conc σ y=some U)
 (hc:c=true→((ox matches .const _) || (oy matches .const _))=true) (he:evBin B op t c x y=some z) :
 Y P W σ w0 (do eqGuard op t ox oy V U;binOp op t V U) z []:=by
 unfold evBin at he
 split at he
 · rename_i k a k' b
   simp only [conc,Option.some.injEq] at hx hy;subst hx;subst hy
   have h1:(do eqGuard op t ox oy (.int k a) (.int k' b);binOp op t (.int k a) (.int k' b))=binOp op t (.int k a) (.int k' b):=by cases op<;>rfl
   rw [h1];exact pureS_ok he
 · rename_i a b
   simp only [conc,Option.some.injEq] at hx hy;subst hx;subst hy
   have h1:(do eqGuard op t ox oy (.string ⟨⟨a⟩⟩) (.string ⟨⟨b⟩⟩);binOp op t (.string ⟨⟨a⟩⟩) (.string ⟨⟨b⟩⟩))=binOp op t (.string ⟨⟨a⟩⟩) (.string ⟨⟨b⟩⟩):=by cases op<;>rfl
   rw [h1]
   split at he
   · split at he
     · rename_i hlen
       cases he;refine Y.mk0 rfl fun w=>?_
       have hs:((((⟨⟨a⟩⟩:ByteArray).size+(⟨⟨b⟩⟩:ByteArray).size:Nat)):Int)≤IntKind.i64.max:=by
        show ((a.length+b.length:Nat):Int)≤9223372036854775807
        omega
       simp only [binOp_string_add,Op.stringOp];rw [if_neg (by omega)];simp only [Sem.run_pure];have hab:(⟨⟨a⟩⟩:ByteArray)++⟨⟨b⟩⟩=⟨⟨a++b⟩⟩:=ByteArray.ext (by rw [ByteArray.data_append];simp);rw [hab]
     · cases he
   · cases he
     refine Y.mk0 rfl fun w=>?_;rw [binOp_string_eql,ByteArray.toList_mk,ByteArray.toList_mk,eqB_iff];rw [beqL a b];rfl
   · cases he
     refine Y.mk0 rfl fun w=>?_;rw [binOp_string_neq,ByteArray.toList_mk,ByteArray.toList_mk,eqB_iff];rw [beqL a b];rfl
   · cases he
     refine Y.mk0 rfl fun w=>?_;rw [binOp_string_lss,ByteArray.toList_mk,ByteArray.toList_mk]
     rfl
   · cases he
 · exact evEqBin_ok hB hx hy hc he
def bytesOf:List SV→Option (List UInt8)
 | []=>some []
 | x::l=>match x with
   | .int .u8 (.ofNat n)=>match bytesOf l with
     | some r=>some (UInt8.ofNat n::r)
     | none=>none
   | _=>none
def evConv (B:Tab) (h:Hp) (src dst:TypeId) (x:SV):Option (SV×List Rec) :=
 match B.T src,B.T dst with
 | some ts,some td =>
   match td.d,x with
   | .int k,.int _ n=>match pureS (Conv.intToInt k n) with
     | some v=>some (v,[])
     | none=>none
   | .string,.slice id off es len _=>match ts.d with
     | .slice e=>match B.T e with
       | some te=>match te.d with
         | .int .u8=>if es=1 then match cellsAt h id with
            | some cells=>match takeN len (cells.drop off) with
              | some l=>match bytesOf l with
                | some bs=>if l.all (fun x=>match x with | .int _ (.ofNat n)=>decide (n<256) | _=>false) then some (.str bs,[(id,off,l)]) else none
                | none=>none
              | none=>none
            | _=>none
           else none
         | _=>none
       | none=>none
     | _=>none
   | _,_=>none
 | _,_=>none
theorem bytesOf_ok:∀{l:List SV} {bs:List UInt8} {vs:List Value},bytesOf l=some bs→l.all (fun x=>match x with | .int _ (.ofNat n)=>decide (n<256) | _=>false)=true→concL σ l=some vs →
 bs.length=l.length∧vs=bs.map fun b=>Value.int .u8 (b.toNat:Int)
 | [],bs,vs,h,_,hc=>by
   cases h;cases hc;exact ⟨rfl,rfl⟩
 | x::l,bs,vs,h,ha,hc=>by
   simp only [bytesOf] at h
   split at h
   · rename_i n
     split at h
     · rename_i r hr
       cases h;obtain ⟨v,us,hv,hu,rfl⟩:=concL_cons hc;simp only [conc,Option.some.injEq] at hv;subst hv;simp only [List.all_cons,Bool.and_eq_true,decide_eq_true_eq] at ha;obtain ⟨e1,e2⟩:=bytesOf_ok hr ha.2 hu;refine ⟨by simp [e1],?_⟩;rw [e2];simp only [List.map_cons,List.cons.injEq,and_true];rw [UInt8.toNat_ofNat_of_lt' (by exact ha.1)]
       rfl
     · cases h
   · cases h
theorem evConv_ok {B:Tab} {h:Hp} {src dst:TypeId} {x y:SV} {L:List Rec} {V:Value} (hB:TabOk P W σ.op B) (H:HRel W σ h w0) (hx:conc σ x=some V) (he:evConv B h src dst x=some (y,L)) :
 Y P W σ w0 (convert src dst V) y L:=by
 unfold evConv at he
 split at he
 · rename_i ts td hts htd
   have hs:=hB.under _ _ hts;have hd:=hB.under _ _ htd
   split at he
   · rename_i k k' n hk
     rw [hk] at hd;simp only [conc,Option.some.injEq] at hx;subst hx
     split at he
     · rename_i v hv
       cases he;obtain ⟨_,V',h1,h2⟩:=pureS_ok (P:=P) (W:=W) (σ:=σ) (w0:=w0) hv;refine ⟨fun r hr=>absurd hr (by simp),V',h1,fun w hb hr=>?_⟩;rw [←h2 w hb hr];simp [convert,run_underlying hs,run_underlying hd]
     · cases he
   · rename_i id off es len cap hk
     rw [hk] at hd
     split at he
     · rename_i e hse
       rw [hse] at hs
       split at he
       · rename_i te hte
         have hee:=hB.under _ _ hte
         split at he
         · rename_i h8
           rw [h8] at hee
           split at he
           · rename_i h1
             subst h1
             split at he
             · rename_i cells ho
               split at he
               · rename_i l hl
                 split at he
                 · rename_i bs hbs
                   split at he
                   · rename_i hall
                     cases he;obtain ⟨e1,e2⟩:=takeN_spec hl
                     have hrd:Reads σ w0 (id,off,l):=by rw [e1];exact H.readsC ho off len
                     refine ⟨fun r hr=>by simp only [List.mem_singleton] at hr;subst hr;exact hrd,_,rfl,fun w _ hw=>?_⟩;obtain ⟨b',K',vs',h1',h2',h3'⟩:=hw _ (List.mem_singleton.2 rfl);simp only at h1' h2' h3';simp only [conc,h1',Option.map_some,Option.some.injEq] at hx;subst hx;obtain ⟨f1,f2⟩:=bytesOf_ok hbs hall h2'
                     have hlen:len=bs.length:=by
                      rw [f1,e1,List.length_take];omega
                     rw [hlen]
                     have:=run_convert_bytes_back (P:=P) w src dst e ⟨b',off*1,none⟩ (cap.getD (K' - off)) bs hs hee hd (fun j hj=>by
                      rw [addr_add,Nat.mul_one];refine h3' j _ ?_;rw [f2,List.getElem?_map,List.getElem?_eq_getElem hj]
                      rfl)
                     rw [this]
                   · cases he
                 · cases he
               · cases he
             · cases he
           · cases he
         · cases he
       · cases he
     · cases he
   · cases he
 · cases he
end
end
noncomputable section
section
variable {P:Program} {W:World} {σ:Env} {w0:World}
def setRange (cells:List SV) (off:Nat) (l:List SV):List SV:=cells.take off++(l++cells.drop (off+l.length))
def setV {α:Type} (cells:List α) (off:Nat) (l:List α):List α:=cells.take off++(l++cells.drop (off+l.length))
theorem setV_length {α:Type} (cells:List α) (off:Nat) (l:List α) (h:off+l.length≤cells.length):(setV cells off l).length=cells.length:=by
 simp [setV];omega
theorem setV_get {α:Type} (cells:List α) (off:Nat) (l:List α) (h:off+l.length≤cells.length) (j:Nat) :
 (setV cells off l)[j]? = if off≤j∧j<off+l.length then l[j - off]? else cells[j]? := by
 unfold setV;rw [List.getElem?_append,List.getElem?_append,List.length_take,Nat.min_eq_left (by omega)]
 by_cases h1:j<off
 · rw [if_pos h1,if_neg (by omega),List.getElem?_take,if_pos h1]
 · rw [if_neg h1]
   by_cases h2:j - off<l.length
   · rw [if_pos h2,if_pos (by omega)]
   · rw [if_neg h2,if_neg (by omega),List.getElem?_drop]
     congr 1
     omega
theorem concL_setRange {cells l:List SV} {vs us:List Value} (off:Nat) (hc:concL σ cells=some vs) (hl:concL σ l=some us):concL σ (setRange cells off l)=some (setV vs off us):=by
 unfold setRange setV;refine concL_append (concL_take _ hc) (concL_append hl ?_);rw [concL_length hl];exact concL_drop _ hc
theorem foldl_fill:∀(l:List Value) (cs:Array Value) (off i:Nat),off+i+l.length≤cs.size →
 ((l.zipIdx i).foldl (fun cs (c,j)=>cs.setIfInBounds (off+j) c) cs).toList=setV cs.toList (off+i) l
 | [],cs,off,i,h=>by simp [setV]
 | v::l,cs,off,i,h=>by
   simp only [List.zipIdx_cons,List.foldl_cons];rw [foldl_fill l _ off (i+1) (by simp only [List.length_cons,Array.size_setIfInBounds] at h ⊢;omega)]
   apply List.ext_getElem?
   intro j;rw [setV_get _ _ _ (by simp only [List.length_cons,Array.length_toList,Array.size_setIfInBounds] at h ⊢;omega),setV_get _ _ _ (by simp only [List.length_cons,Array.length_toList] at h ⊢;omega)];simp only [Array.toList_setIfInBounds,List.length_cons,List.getElem?_set];simp only [List.length_cons] at h
   by_cases h1:j=off+i
   · subst h1
     have hlt:off+i<cs.toList.length:=by rw [Array.length_toList];omega
     rw [if_neg (by omega),if_pos rfl,if_pos hlt,if_pos (by omega)];simp
   · by_cases h2:off+i≤j∧j<off+i+(l.length+1)
     · rw [if_pos (by omega),if_pos h2]
       have:j - (off+i)=(j - (off+(i+1)))+1:=by omega
       rw [this,List.getElem?_cons_succ]
     · rw [if_neg (by omega),if_neg h2,if_neg (by omega)]
def fillS (place:Nat→Option (Nat×Nat)):List SV→List (Nat×SV)→Option (List SV)
 | cells,[]=>some cells
 | cells,(i,x)::rest =>
   match place i with
   | some (off,size) =>
     let l:=x.cells
     if l.all SV.one&&Nat.beq l.length size&&Nat.ble (off+l.length) cells.length then fillS place (setRange cells off l) rest else none
   | none=>none
theorem fillS_ok {place:Nat→Option (Nat×Nat)}:∀{parts:List (Nat×SV)} {vparts:List (Nat×Value)} {cells r:List SV} {cs:Array Value},
 parts.length=vparts.length→(∀(k:Nat) (p:Nat×SV) (q:Nat×Value),parts[k]? = some p→vparts[k]? = some q→p.1=q.1∧conc σ p.2=some q.2) →
 concL σ cells=some cs.toList→fillS place cells parts=some r→∃rs:Array Value,concL σ r=some rs.toList∧Instr.fill place cs vparts=some rs
 | [],[],cells,r,cs,_,_,hc,h=>by
   simp only [fillS,Option.some.injEq] at h;subst h;exact ⟨cs,hc,rfl⟩
 | [],_::_,_,_,_,hl,_,_,_=>by simp at hl
 | _::_,[],_,_,_,hl,_,_,_=>by simp at hl
 | (i,x)::parts,(j,v)::vparts,cells,r,cs,hl,hp,hc,h=>by
  obtain ⟨h1,h2⟩:=hp 0 _ _ rfl rfl;simp only at h1 h2;subst h1;simp only [fillS] at h
  split at h
  · rename_i off size hpl
    split at h
    · rename_i hcond
      simp only [Bool.and_eq_true] at hcond;obtain ⟨⟨ha,hb⟩,hd⟩:=hcond;have hb:=Nat.eq_of_beq_eq_true hb;have hd:=Nat.le_of_ble_eq_true hd;have hx:=SV.cells_conc h2 ha;have hlen:=concL_length hx;have hclen:=concL_length hc;simp only [Array.length_toList] at hlen hclen;have hfold:=foldl_fill v.cells.toList cs off 0 (by simp only [Array.length_toList];omega);rw [Nat.add_zero] at hfold
      obtain ⟨rs,e1,e2⟩:=fillS_ok (parts:=parts) (vparts:=vparts) (cells:=setRange cells off x.cells) (r:=r)
       (cs:=(v.cells.toList.zipIdx.foldl (fun cs (c,j)=>cs.setIfInBounds (off+j) c) cs)) (by simpa using hl)
       (fun k p q hk1 hk2=>hp (k+1) p q (by simpa using hk1) (by simpa using hk2))
       (by rw [hfold];exact concL_setRange off hc hx) h
      refine ⟨rs,e1,?_⟩;simp only [Instr.fill,hpl];rw [if_neg (by simp;omega)];rw [←e2]
      congr 1
      rw [←Array.foldl_toList,Array.toList_zipIdx]
    · cases h
  · cases h
def evOperands (t:PT SV):List Operand→Option (List SV)
 | []=>some []
 | o::l=>match evOperand t o,evOperands t l with
   | some x,some r=>some (x::r)
   | _,_=>none
theorem evOperands_conc {t:PT SV} {a:Act} (h:TRel σ t a.tmps):∀{l:List Operand} {r:List SV},evOperands t l=some r→concL σ r=some (l.map a.eval)
 | [],r,e=>by cases e;rfl
 | o::l,r,e=>by
   simp only [evOperands] at e
   split at e
   · rename_i x r' hx hr
     cases e;exact concL_mk (evOperand_conc h hx) (evOperands_conc h hr)
   · cases e
def evParts (t:PT SV):List (Nat×Operand)→Option (List (Nat×SV))
 | []=>some []
 | (i,o)::l=>match evOperand t o,evParts t l with
  | some x,some r=>some ((i,x)::r)
  | _,_=>none
theorem evParts_conc {t:PT SV} {a:Act} (h:TRel σ t a.tmps):∀{l:List (Nat×Operand)} {r:List (Nat×SV)},evParts t l=some r →
 r.length=(l.map fun (i,x)=>(i,a.eval x)).length∧∀(k:Nat) (p:Nat×SV) (q:Nat×Value),r[k]? = some p→(l.map fun (i,x)=>(i,a.eval x))[k]? = some q→p.1=q.1∧conc σ p.2=some q.2
 | [],r,e=>by cases e;simp
 | (i,o)::l,r,e=>by
  simp only [evParts] at e
  split at e
  · rename_i x r' hx hr
    cases e;obtain ⟨h1,h2⟩:=evParts_conc h hr;refine ⟨by simpa using h1,fun k p q hp hq=>?_⟩
    cases k with
    | zero =>
      simp only [List.getElem?_cons_zero,Option.some.injEq,List.map_cons] at hp hq;subst hp;subst hq;exact ⟨rfl,evOperand_conc h hx⟩
    | succ k=>exact h2 k p q (by simpa using hp) (by simpa using hq)
  · cases e
def placesOf (B:Tab):List Field→Option (List (Nat×Nat))
 | []=>some []
 | f::l=>match B.T f.type,placesOf B l with
   | some ti,some r=>some ((f.offset,ti.size)::r)
   | _,_=>none
theorem placesOf_ok {B:Tab} (hB:TabOk P W σ.op B):∀{l:List Field} {r:List (Nat×Nat)},placesOf B l=some r→l.mapM (fun f=>(P.info? f.type).map fun i=>(f.offset,i.size))=some r
 | [],r,e=>by cases e;rfl
 | f::l,r,e=>by
   simp only [placesOf] at e
   split at e
   · rename_i ti r' ht hr
     cases e;obtain ⟨i,z,hi,hs,_⟩:=hB.info _ _ ht;simp [List.mapM_cons,hi,hs,placesOf_ok hB hr]
   · cases e
def evBuild (B:Tab) (t:TypeId) (parts:List (Nat×SV)):Option SV :=
 match B.T t with
 | some ti=>match ti.d with
   | .struct fields=>match placesOf B fields.toList with
     | some places=>(fillS (places[·]?) ti.zero parts).map .agg
     | none=>none
   | .array _ e=>match B.T e with
     | some te=>(fillS (fun i=>some (i*te.size,te.size)) ti.zero parts).map .agg
     | none=>none
   | _=>none
 | none=>none
theorem evBuild_ok {B:Tab} {t:TypeId} {parts:List (Nat×SV)} {vparts:Array (Nat×Value)} {y:SV} (hB:TabOk P W σ.op B) (hl:parts.length=vparts.toList.length)
 (hp:∀(k:Nat) (p:Nat×SV) (q:Nat×Value),parts[k]? = some p→vparts.toList[k]? = some q→p.1=q.1∧conc σ p.2=some q.2) (he:evBuild B t parts=some y) :
 Y P W σ w0 (Instr.build t vparts) y []:=by
 unfold evBuild at he
 split at he
 · rename_i ti ht
   obtain ⟨i,z,hi,hs,_,hz,_,hzero⟩:=hB.info _ _ ht;have hd:=hB.under _ _ ht
   split at he
   · rename_i fields hf
     rw [hf] at hd
     split at he
     · rename_i places hpl
       simp only [Option.map_eq_some_iff] at he;obtain ⟨r,hr,rfl⟩:=he;obtain ⟨rs,h1,h2⟩:=fillS_ok hl hp (hzero σ) hr;refine Y.mk0 (V:=.agg rs) (by simp [conc,h1]) fun w=>run_build w t vparts rs ?_;unfold Program.built;simp only [hi,hd,hz,placesOf_ok hB hpl];rw [←h2]
       congr 1
       funext k
       simp
     · cases he
   · rename_i n e hf
     rw [hf] at hd
     split at he
     · rename_i te hte
       obtain ⟨ie,ze,hie,hse,_⟩:=hB.info _ _ hte;simp only [Option.map_eq_some_iff] at he;obtain ⟨r,hr,rfl⟩:=he;obtain ⟨rs,h1,h2⟩:=fillS_ok hl hp (hzero σ) hr;refine Y.mk0 (V:=.agg rs) (by simp [conc,h1]) fun w=>run_build w t vparts rs ?_;unfold Program.built;simp only [hi,hd,hz,hie,hse];exact h2
     · cases he
   · cases he
 · cases he
def evOpt (t:PT SV):Option Operand→Option (Option SV)
 | none=>some none
 | some o=>match evOperand t o with
   | some x=>some (some x)
   | none=>none
theorem evOpt_conc {t:PT SV} {a:Act} (h:TRel σ t a.tmps) {o:Option Operand} {r:Option SV} (e:evOpt t o=some r) :
 (∀x,r=some x→∃v,o.map a.eval=some v∧conc σ x=some v)∧(r=none→o.map a.eval=none):=by
 cases o with
 | none =>
   simp only [evOpt,Option.some.injEq] at e;subst e;exact ⟨fun x h=>(by cases h),fun _=>rfl⟩
 | some o =>
   simp only [evOpt] at e
   split at e
   · rename_i x hx
     cases e;exact ⟨fun y hy=>by cases hy;exact ⟨_,rfl,evOperand_conc h hx⟩,fun h=>by cases h⟩
   · cases e
def isConstO:Operand→Bool
 | .const _=>true
 | _=>false
theorem isConstO_is (o:Operand):isConstO o=(o matches .const _):=by cases o<;>rfl
def noL (x:Option SV):Option (SV×List Rec) :=
 match x with
 | some v=>some (v,[])
 | none=>none
def evLen (B:Tab) (t:TypeId) (x:SV):Option SV :=
 match B.T t with
 | some ti=>match ti.d,x with
   | .string,.str l=>some (.int .i64 l.length)
   | .slice _,.nils=>some (.int .i64 0)
   | .slice _,.slice _ _ _ len _=>some (.int .i64 len)
   | .array n _,_=>some (.int .i64 n)
   | _,_=>none
 | none=>none
theorem evLen_ok {B:Tab} {t ty:TypeId} {x y:SV} {V:Value} (hB:TabOk P W σ.op B) (hx:conc σ x=some V) (he:evLen B t x=some y):Y P W σ w0 (Builtin.len_ #[t] ty #[V]) y []:=by
 unfold evLen at he
 split at he
 · rename_i ti ht
   have hd:=hB.under _ _ ht
   split at he
   · rename_i l hti
     rw [hti] at hd;cases he;simp only [conc,Option.some.injEq] at hx;subst hx
     exact Y.mk0 rfl fun w=>by (simp only [Builtin.len_];simp [run_underlying hd];rfl)
   · rename_i e hti
     rw [hti] at hd;cases he;simp only [conc,Option.some.injEq] at hx;subst hx
     exact Y.mk0 rfl fun w=>by (simp only [Builtin.len_];simp [run_underlying hd,goInt])
   · rename_i e id off es len cap hti
     rw [hti] at hd;cases he;simp only [conc,Option.map_eq_some_iff] at hx;obtain ⟨x,hx,rfl⟩:=hx
     exact Y.mk0 rfl fun w=>by (simp only [Builtin.len_];simp [run_underlying hd,goInt])
   · rename_i n e hti
     rw [hti] at hd;cases he
     exact Y.mk0 rfl fun w=>by (simp only [Builtin.len_];simp [run_underlying hd,goInt])
   · cases he
 · cases he
def evBuiltin (B:Tab) (b:Builtin) (ts:List TypeId) (xs:List SV):Option SV :=
 match b,ts,xs with
 | .len,[t],[x]=>evLen B t x
 | .max,_,[.int k x,.int _ y]=>some (.int k (if y > x then y else x))
 | .min,_,[.int k x,.int _ y]=>some (.int k (if y<x then y else x))
 | .cap,[t],[.slice _ _ _ _ (some c)]=>match B.T t with
   | some ti=>match ti.d with
     | .slice _=>some (.int .i64 c)
     | _=>none
   | none=>none
 | _,_,_=>none
theorem evBuiltin_ok {B:Tab} {b:Builtin} {ts:Array TypeId} {ty:TypeId} {cs:Array Bool} {xs:List SV} {vs:List Value} {y:SV} (hB:TabOk P W σ.op B) (hx:concL σ xs=some vs) (he:evBuiltin B b ts.toList xs=some y) :
 (∀r∈([]:List Rec),Reads σ w0 r)∧∃V,conc σ y=some V∧∀w,Below W.heap.size W w→(∀r∈([]:List Rec),Reads σ w r)→(builtin b ts ty cs vs.toArray).run P w=.ok (.value V) w:=by
 have lift:∀{s:Sem Value} {y:SV},Y P W σ w0 s y []→(∀r∈([]:List Rec),Reads σ w0 r)∧∃V,conc σ y=some V∧∀w,Below W.heap.size W w→(∀r∈([]:List Rec),Reads σ w r)→(do pure (Next.value (←s)):Sem Next).run P w=.ok (.value V) w:=by
  intro s y ⟨h1,V,h2,h3⟩;exact ⟨h1,V,h2,fun w hb hr=>by simp [h3 w hb hr]⟩
 unfold evBuiltin at he
 split at he
 · rename_i t x hts
   obtain ⟨v,us,hv,hu,rfl⟩:=concL_cons hx;cases hu
   have:ts=#[t]:=by cases ts;simp_all
   subst this;exact lift (evLen_ok hB hv he)
 · rename_i k x k' y'
   cases he;simp only [concL,conc,Option.bind_some,Option.map_some,Option.some.injEq] at hx;subst hx;refine lift (s:=Builtin.max_ ts ty _) (Y.mk0 rfl fun w=>run_max_int2 w ts ty _ _ _ _)
 · rename_i k x k' y'
   cases he;simp only [concL,conc,Option.bind_some,Option.map_some,Option.some.injEq] at hx;subst hx;refine lift (s:=Builtin.min_ ts ty _) (Y.mk0 rfl fun w=>run_min_int2 w ts ty _ _ _ _)
 · rename_i t id off es len c hts
   obtain ⟨v,us,hv,hu,rfl⟩:=concL_cons hx;cases hu
   have:ts=#[t]:=by cases ts;simp_all
   subst this
   split at he
   · rename_i ti ht
     have hd:=hB.under _ _ ht
     split at he
     · rename_i e hti
       rw [hti] at hd;cases he;simp only [conc,Option.map_eq_some_iff] at hv;obtain ⟨x,hx,rfl⟩:=hv;exact lift (s:=Builtin.cap_ #[t] ty _) (Y.mk0 rfl fun w=>by simp [Builtin.cap_,run_underlying hd,goInt])
     · cases he
   · cases he
 · cases he
def fOff (B:Tab) (s:TypeId) (f:Nat):Option Nat :=
 match B.T s with
 | some ti=>match ti.d with
   | .struct fields=>match fields[f]? with
     | some fld=>match B.T fld.type with
       | some ft=>if ft.size=0 then none else some fld.offset
       | none=>none
     | none=>none
   | _=>none
 | none=>none
def addOff (n:Option Nat) (x:SV):Option SV :=
 match n with
 | some n=>match x with
   | .ptr id off=>some (.ptr id (off+n))
   | .glob g off=>some (.glob g (off+n))
   | _=>none
 | none=>none
theorem addOff_ok {B:Tab} {s:TypeId} {f:Nat} {x y:SV} (h:addOff (fOff B s f) x=some y):evFieldAddr B s x f=some y:=by
 unfold addOff at h
 split at h
 · rename_i n hn
   unfold fOff at hn;unfold evFieldAddr
   split at hn
   · rename_i ti hti
     split at hn
     · rename_i fields hf
       split at hn
       · rename_i fld hfld
         split at hn
         · rename_i ft hft
           split at hn
           · cases hn
           · rename_i h0
             cases hn;simp only [hti,hf,hfld,hft,h0,if_false];exact h
         · cases hn
       · cases hn
     · cases hn
   · cases hn
 · cases h
inductive IxK where
 | arr (len es:Nat)
 | sl (es:Nat)
def ixK (B:Tab) (t:TypeId):Option IxK :=
 match B.T t with
 | some ti=>match ti.d with
   | .array len elem=>match B.T elem with
     | some et=>some (.arr len et.size)
     | none=>none
   | .slice elem=>match B.T elem with
     | some et=>some (.sl et.size)
     | none=>none
   | _=>none
 | none=>none
def ixSl (es:Nat) (x:SV) (n:Nat):Option SV :=
 match x with
 | .slice id off es' len _=>if n<len then some (.ptr id (off*es'+n*es)) else none
 | _=>none
def ixAt (k:Option IxK) (x i:SV):Option SV :=
 match i with
 | .int _ (.ofNat n)=>match k with
   | some (.arr len es)=>if n<len then addOff (some (n*es)) x else none
   | some (.sl es)=>ixSl es x n
   | none=>none
 | _=>none
theorem ixAt_ok {B:Tab} {t:TypeId} {x i y:SV} (h:ixAt (ixK B t) x i=some y):evIndexAddr B t x i=some y:=by
 unfold ixAt at h
 split at h
 · rename_i k n
   unfold evIndexAddr
   split at h
   · rename_i len es hk
     unfold ixK at hk
     split at hk
     · rename_i ti hti
       split at hk
       · rename_i len' elem hd
         split at hk
         · rename_i et het
           cases hk;simp only [hti,hd]
           split at h
           · rename_i hn
             unfold addOff at h;simp only at h
             split at h
             · cases h
               simp only [het,hn,if_true]
             · cases h
               simp only [het,hn,if_true]
             · cases h
           · cases h
         · cases hk
       · split at hk<;>cases hk
       · cases hk
     · cases hk
   · rename_i es hk
     unfold ixK at hk
     split at hk
     · rename_i ti hti
       split at hk
       · split at hk<;>cases hk
       · rename_i elem hd
         split at hk
         · rename_i et het
           cases hk;simp only [hti,hd];unfold ixSl at h
           split at h
           · split at h
             · rename_i hn
               cases h;simp only [het,hn,if_true]
             · cases h
           · cases h
         · cases hk
       · cases hk
     · cases hk
   · cases h
 · cases h
def ldK (B:Tab) (t:TypeId):Option (Nat×Bool) :=
 match B.T t with
 | some ti=>some (ti.size,isAggD ti.d)
 | none=>none
def ldAt (B:Tab) (h:Hp) (k:Option (Nat×Bool)) (x:SV):Option (SV×List Rec) :=
 match k with
 | some (size,agg)=>match x with
   | .ptr id off=>match cellsAt h id with
     | some cells=>match rowAt size agg off cells with
       | some (v,l)=>some (v,[(id,off,l)])
       | none=>none
     | none=>none
   | .glob g off=>match B.G g with
     | some cells=>match rowAt size agg off cells with
       | some (v,_)=>some (v,[])
       | none=>none
     | none=>none
   | _=>none
 | none=>none
theorem ldAt_ok {B:Tab} {h:Hp} {t:TypeId} {x:SV} {r:SV×List Rec} (he:ldAt B h (ldK B t) x=some r):evLoad B h t x=some r:=by
 unfold ldAt at he
 split at he
 · rename_i size agg hk
   unfold ldK at hk
   split at hk
   · rename_i ti hti
     cases hk;unfold evLoad
     split at he
     · simp only [hti]
       exact he
     · simp only [hti]
       exact he
     · cases he
   · cases hk
 · cases he
def intBin (op:BinOp) (k k':IntKind) (a b:Int):Option SV :=
 match op with
 | .add=>if k=k' then some (.int k (k.wrap (a+b))) else none
 | .sub=>if k=k' then some (.int k (k.wrap (a - b))) else none
 | .mul=>if k=k' then some (.int k (k.wrap (a*b))) else none
 | .quo=>if k=k' then (if b=0 then none else some (.int k (k.wrap (a.tdiv b)))) else none
 | .rem=>if k=k' then (if b=0 then none else some (.int k (a.tmod b))) else none
 | .and=>if k=k' then pureS (Op.intBits .and k a b) else none
 | .or=>if k=k' then pureS (Op.intBits .or k a b) else none
 | .xor=>if k=k' then pureS (Op.intBits .xor k a b) else none
 | .andNot=>if k=k' then pureS (Op.intBits .andNot k a b) else none
 | .shl=>if b<0 then none else some (.int k (k.wrap (a*2 ^ (min b.toNat k.bits))))
 | .shr=>if b<0 then none else some (.int k (a.fdiv (2 ^ (min b.toNat k.bits))))
 | .eql=>if k=k' then some (.bool (decide (a=b))) else none
 | .neq=>if k=k' then some (.bool (!decide (a=b))) else none
 | .lss=>if k=k' then some (.bool (decide (a<b))) else none
 | .leq=>if k=k' then some (.bool (decide (a≤b))) else none
 | .gtr=>if k=k' then some (.bool (decide (b<a))) else none
 | .geq=>if k=k' then some (.bool (decide (b≤a))) else none
theorem intBin_ok {op:BinOp} {k k':IntKind} {a b:Int} {t:TypeId} {x:SV} (h:intBin op k k' a b=some x):pureS (binOp op t (.int k a) (.int k' b))=some x:=by
 unfold intBin at h
 cases op<;>simp only at h
 all_goals split at h
 all_goals first
  | (cases h;done)
  | skip
 all_goals try (rename_i hk;subst hk)
 all_goals simp only [binOp,ne_eq,not_true,if_false,Op.intArith,Op.intDiv,Op.intCmp,Op.shift]
 all_goals try (split at h)
 all_goals first
  | (cases h;done)
  | skip
 all_goals try simp only [*,if_false]
 all_goals first
  | exact h
  | (cases h;rfl)
  | skip
def binK (B:Tab) (t:TypeId):Option Nat :=
 match B.T t with
 | some ti=>match ti.d with
   | .int _=>some 0
   | .string=>some 1
   | _=>some 2
 | none=>none
def strBin (op:BinOp) (a b:List UInt8):Option SV :=
 match op with
 | .add=>if a.length+b.length≤1000000 then some (.str (a++b)) else none
 | .eql=>some (.bool (eqB a b))
 | .neq=>some (.bool (!eqB a b))
 | .lss=>some (.bool (Op.bytesLess a b))
 | _=>none
def binAt0 (op:BinOp) (x y:SV):Option SV :=
 match x with
 | .int k a=>match y with
   | .int k' b=>intBin op k k' a b
   | _=>none
 | _=>none
def binAt1 (op:BinOp) (x y:SV):Option SV :=
 match x with
 | .str a=>match y with
   | .str b=>strBin op a b
   | _=>none
 | _=>none
def binAt (B:Tab) (k:Option Nat) (op:BinOp) (t:TypeId) (c:Bool) (x y:SV):Option SV :=
 match k with
 | some 0=>binAt0 op x y
 | some 1=>binAt1 op x y
 | some _=>evBin B op t c x y
 | none=>none
theorem binAt_ok {B:Tab} {op:BinOp} {t:TypeId} {c:Bool} {x y z:SV} (h:binAt B (binK B t) op t c x y=some z):evBin B op t c x y=some z:=by
 unfold binAt at h
 split at h
 · unfold binAt0 at h
   split at h
   · split at h
     · exact intBin_ok h
     · cases h
   · cases h
 · unfold binAt1 at h
   split at h
   · split at h
     · exact h
     · cases h
   · cases h
 · exact h
 · cases h
def unAt (op:UnOp) (x:SV):Option SV :=
 match x with
 | .int k n=>match op with
   | .neg=>some (.int k (k.wrap (0 - n)))
   | .xor=>pureS (Op.unary .xor (.int k n))
   | _=>none
 | .bool b=>match op with
   | .not=>some (.bool (!b))
   | _=>none
 | _=>none
theorem unAt_ok {op:UnOp} {x y:SV} {V:Value} (hx:conc σ x=some V) (h:unAt op x=some y):Y P W σ w0 (Op.unary op V) y []:=by
 unfold unAt at h
 split at h
 · simp only [conc,Option.some.injEq] at hx
   subst hx
   split at h
   · cases h
     exact Y.mk0 rfl fun w=>rfl
   · exact pureS_ok h
   · cases h
 · simp only [conc,Option.some.injEq] at hx
   subst hx
   split at h
   · cases h
     exact Y.mk0 rfl fun w=>rfl
   · cases h
 · cases h
def qMove (t:PT SV) (x:Operand):Option (SV×List Rec):=noL (evOperand t x)
def qPick (t:PT SV) (c a b:Operand):Option (SV×List Rec) :=
 match evOperand t c with
 | some (.bool s)=>noL (evOperand t (if s then a else b))
 | _=>none
def qLoad (B:Tab) (h:Hp) (t:PT SV) (ty:TypeId) (a:Operand):Option (SV×List Rec) :=
 match evOperand t a with
 | some x=>ldAt B h (ldK B ty) x
 | none=>none
def qNil (t:PT SV) (x:Operand):Option (SV×List Rec) :=
 match evOperand t x with
 | some (.ptr i f)=>some (.ptr i f,[])
 | some (.glob g f)=>some (.glob g f,[])
 | _=>none
def qBin (B:Tab) (t:PT SV) (op:BinOp) (ty:TypeId) (x y:Operand):Option (SV×List Rec) :=
 match evOperand t x,evOperand t y with
 | some a,some b=>noL (binAt B (binK B ty) op ty (isConstO x || isConstO y) a b)
 | _,_=>none
def qUn (t:PT SV) (op:UnOp) (x:Operand):Option (SV×List Rec) :=
 match evOperand t x with
 | some a=>noL (unAt op a)
 | none=>none
def qConv (B:Tab) (h:Hp) (t:PT SV) (s d:TypeId) (x:Operand):Option (SV×List Rec) :=
 match evOperand t x with
 | some a=>evConv B h s d a
 | none=>none
def qMkI (B:Tab) (t:PT SV) (ty:TypeId) (x:Operand):Option (SV×List Rec) :=
 match evOperand t x,B.T ty with
 | some a,some ti=>match ti.d with
   | .interface _=>none
   | _=>some (.iface ty a,[])
 | _,_=>none
def qMkF (t:PT SV) (f:FuncId) (first captured:Array Operand):Option (SV×List Rec) :=
 match evOperands t first.toList,evOperands t captured.toList with
 | some a,some b=>some (.func f a b,[])
 | _,_=>none
def qSlice (B:Tab) (h:Hp) (t:PT SV) (ty:TypeId) (x:Operand) (lo hi mx:Option Operand):Option (SV×List Rec) :=
 match evOperand t x,evOpt t lo,evOpt t hi,evOpt t mx with
 | some a,some l,some g,some m=>noL (evSlice B h ty a l g m)
 | _,_,_,_=>none
def qFA (B:Tab) (t:PT SV) (s:TypeId) (x:Operand) (f:Nat):Option (SV×List Rec) :=
 match evOperand t x with
 | some a=>noL (addOff (fOff B s f) a)
 | none=>none
def qF (B:Tab) (t:PT SV) (s:TypeId) (x:Operand) (f:Nat):Option (SV×List Rec) :=
 match evOperand t x with
 | some a=>noL (evField B s a f)
 | none=>none
def qIA (B:Tab) (t:PT SV) (ty:TypeId) (x i:Operand):Option (SV×List Rec) :=
 match evOperand t x,evOperand t i with
 | some a,some b=>noL (ixAt (ixK B ty) a b)
 | _,_=>none
def qI (B:Tab) (t:PT SV) (ty:TypeId) (x i:Operand):Option (SV×List Rec) :=
 match evOperand t x,evOperand t i with
 | some a,some b=>noL (evIndex B ty a b)
 | _,_=>none
def qEx (t:PT SV) (x:Operand) (i:Nat):Option (SV×List Rec) :=
 match evOperand t x with
 | some (.tup l)=>noL (l[i]?)
 | _=>none
def qBuild (B:Tab) (t:PT SV) (ty:TypeId) (parts:Array (Nat×Operand)):Option (SV×List Rec) :=
 match evParts t parts.toList with
 | some ps=>noL (evBuild B ty ps)
 | none=>none
def qCall (B:Tab) (t:PT SV) (b:Builtin) (args:Array Operand) (ts:Array TypeId):Option (SV×List Rec) :=
 match evOperands t args.toList with
 | some xs=>noL (evBuiltin B b ts.toList xs)
 | none=>none
def evQ (B:Tab) (h:Hp) (t:PT SV) (o:Oper):Option (SV×List Rec) :=
 match o.op with
 | .move x | .assign x=>qMove t x
 | .pick c a b=>qPick t c a b
 | .load ty a=>qLoad B h t ty a
 | .nilCheck x=>qNil t x
 | .binOp op ty x y _=>qBin B t op ty x y
 | .unOp op _ x=>qUn t op x
 | .convert s d x=>qConv B h t s d x
 | .makeInterface ty x=>qMkI B t ty x
 | .makeFunc (.func f) first captured=>qMkF t f first captured
 | .slice ty x lo hi mx=>qSlice B h t ty x lo hi mx
 | .fieldAddr s x f=>qFA B t s x f
 | .field s x f=>qF B t s x f
 | .indexAddr ty x i=>qIA B t ty x i
 | .index ty x i=>qI B t ty x i
 | .extract x i=>qEx t x i
 | .build ty parts=>qBuild B t ty parts
 | .call {callee:=.builtin b,args,argTypes}=>qCall B t b args argTypes
 | _=>none
def Qok (P:Program) (W:World) (σ:Env) (w0:World) (s:Sem Next) (x:SV) (L:List Rec):Prop :=
 (∀r∈L,Reads σ w0 r)∧∃V,conc σ x=some V∧∀w,Below W.heap.size W w→(∀r∈L,Reads σ w r)→s.run P w=.ok (.value V) w
theorem Y.q {s:Sem Value} {x:SV} {L:List Rec} (h:Y P W σ w0 s x L):Qok P W σ w0 (do pure (Next.value (←s))) x L :=
 ⟨h.1,h.2.choose,h.2.choose_spec.1,fun w hb hr=>by simp [h.2.choose_spec.2 w hb hr]⟩
theorem noL_some {x:Option SV} {y:SV} {L:List Rec} (h:noL x=some (y,L)):x=some y∧L=[]:=by
 unfold noL at h
 split at h
 · cases h;exact ⟨rfl,rfl⟩
 · cases h
theorem evQ_ok {B:Tab} {h:Hp} {t:PT SV} {o:Oper} {a:Act} {x:SV} {L:List Rec} (hB:TabOk P W σ.op B) (H:HRel W σ h w0) (ht:TRel σ t a.tmps) (he:evQ B h t o=some (x,L)) :
 Qok P W σ w0 (execOp a.eval o) x L:=by
 unfold evQ at he;unfold execOp
 split at he<;>rename_i ho<;>simp only [ho]<;>(try simp only [qMove,qPick,qLoad,qNil,qBin,qUn,qConv,qMkI,qMkF,qSlice,qFA,qF,qIA,qI,qEx,qBuild,qCall] at he)
 · obtain ⟨hk,rfl⟩:=noL_some he
   exact ⟨fun r hr=>absurd hr (by simp),_,evOperand_conc ht hk,fun w _ _=>rfl⟩
 · obtain ⟨hk,rfl⟩:=noL_some he
   exact ⟨fun r hr=>absurd hr (by simp),_,evOperand_conc ht hk,fun w _ _=>rfl⟩
 · split at he
   · rename_i s hs
     obtain ⟨hk,rfl⟩:=noL_some he;have hc:=evOperand_conc ht hs;simp only [conc,Option.some.injEq] at hc;refine ⟨fun r hr=>absurd hr (by simp),_,evOperand_conc ht hk,fun w _ _=>?_⟩;rw [←hc]
     cases s<;>simp [asBool]
   · cases he
 · split at he
   · rename_i y hy
     exact (evLoad_ok hB H (evOperand_conc ht hy) (ldAt_ok he)).q
   · cases he
 · split at he
   · rename_i i f hy
     cases he;have hc:=evOperand_conc ht hy;refine ⟨fun r hr=>absurd hr (by simp),_,hc,fun w _ _=>?_⟩;simp only [conc,Option.map_eq_some_iff] at hc;obtain ⟨z,_,hz⟩:=hc;rw [←hz]
     rfl
   · rename_i i f hy
     cases he;have hc:=evOperand_conc ht hy;refine ⟨fun r hr=>absurd hr (by simp),_,hc,fun w _ _=>?_⟩;simp only [conc,Option.some.injEq] at hc;rw [←hc]
     rfl
   · cases he
 · split at he
   · rename_i u v hu hv
     obtain ⟨hk,rfl⟩:=noL_some he;refine (evBin_ok hB (evOperand_conc ht hu) (evOperand_conc ht hv) (fun hc=>?_) (binAt_ok hk)).q;rw [isConstO_is,isConstO_is] at hc;exact hc
   · cases he
 · split at he
   · rename_i b hy
     obtain ⟨hk,rfl⟩:=noL_some he;exact (unAt_ok (evOperand_conc ht hy) hk).q
   · cases he
 · split at he
   · rename_i y hy
     exact (evConv_ok hB H (evOperand_conc ht hy) he).q
   · cases he
 · split at he
   · rename_i y ti hy hti
     have hd:=hB.under _ _ hti
     split at he
     · cases he
     · rename_i hni
       cases he;have hc:=evOperand_conc ht hy;refine Y.q ⟨fun r hr=>absurd hr (by simp),_,by simp [conc,hc];rfl,fun w _ _=>?_⟩;simp only [Instr.makeInterface,Sem.run_bind,run_underlying hd,Result.andThen_ok,Sem.run_pure]
   · cases he
 · split at he
   · rename_i u v hu hv
     cases he;have h1:=evOperands_conc ht hu;have h2:=evOperands_conc ht hv;refine Y.q (Y.mk0 (V:=.func _ _ _) (by simp only [conc,h1,h2,Option.bind_some,Option.map_some];rfl) fun w=>?_);simp only [Instr.makeFunc,Sem.run_pure]
     congr 2<;>(apply Array.ext';simp)
   · cases he
 · split at he
   · rename_i u l g m hu hl hg hm
     obtain ⟨hk,rfl⟩:=noL_some he;obtain ⟨l1,l2⟩:=evOpt_conc ht hl;obtain ⟨g1,g2⟩:=evOpt_conc ht hg;obtain ⟨m1,m2⟩:=evOpt_conc ht hm;exact (evSlice_ok hB H (evOperand_conc ht hu) l1 l2 g1 g2 m1 m2 hk).q
   · cases he
 · split at he
   · rename_i y hy
     obtain ⟨hk,rfl⟩:=noL_some he;exact (evFieldAddr_ok hB (evOperand_conc ht hy) (addOff_ok hk)).q
   · cases he
 · split at he
   · rename_i y hy
     obtain ⟨hk,rfl⟩:=noL_some he;exact (evField_ok hB (evOperand_conc ht hy) hk).q
   · cases he
 · split at he
   · rename_i u v hu hv
     obtain ⟨hk,rfl⟩:=noL_some he;exact (evIndexAddr_ok hB (evOperand_conc ht hu) (evOperand_conc ht hv) (ixAt_ok hk)).q
   · cases he
 · split at he
   · rename_i u v hu hv
     obtain ⟨hk,rfl⟩:=noL_some he;exact (evIndex_ok hB (evOperand_conc ht hu) (evOperand_conc ht hv) hk).q
   · cases he
 · split at he
   · rename_i l hy
     obtain ⟨hk,rfl⟩:=noL_some he;have hc:=evOperand_conc ht hy;simp only [conc,Option.map_eq_some_iff] at hc;obtain ⟨vs,hvs,hc⟩:=hc;obtain ⟨v,h1,h2⟩:=concL_get hvs hk;refine Y.q (Y.mk0 h2 fun w=>?_);rw [←hc];simp [Instr.extract,h1]
   · cases he
 · split at he
   · rename_i ps hps
     obtain ⟨hk,rfl⟩:=noL_some he;obtain ⟨h1,h2⟩:=evParts_conc ht hps;exact (evBuild_ok hB (by simpa using h1) (fun k p q hp hq=>h2 k p q hp (by simpa using hq)) hk).q
   · cases he
 · split at he
   · rename_i xs hxs
     obtain ⟨hk,rfl⟩:=noL_some he;have h1:=evOperands_conc ht hxs
     rename_i b args ts _
     have:=fun cs=>evBuiltin_ok (P:=P) (w0:=w0) (cs:=cs) (ty:=o.type) hB h1 hk;obtain ⟨g1,V,g2,g3⟩:=this (args.map fun | .const _=>true | _=>false);refine ⟨g1,V,g2,fun w hb hr=>?_⟩;simp only [resolve,Sem.run_bind,Sem.run_pure,Result.andThen_ok,invoke]
     have e:(List.map a.eval args.toList).toArray=Array.map a.eval args:=by apply Array.ext';simp
     rw [e] at g3;exact g3 w hb hr
   · cases he
 · cases he
end
end
noncomputable section
section
variable {P:Program} {W:World} {σ:Env} {w:World}
def Aok (P:Program) (W:World) (σ:Env) (w:World) (s:Sem Next) (x:SV) (h':Hp) (n':Nat):Prop :=
 ∃σ' w',σ.le σ'∧σ'.bl.length=n'∧HRel W σ' h' w'∧((∃V,conc σ' x=some V∧s.run P w=.ok (.value V) w')∨(x=.undef∧s.run P w=.ok .skip w'))
theorem HRel.row {h:Hp} (H:HRel W σ h w) (l:List SV) (vs:List Value) (el:TypeId) (hl:concL σ l=some vs) :
 HRel W ⟨σ.bl++[(w.heap.size,0)],σ.op⟩ (h.set σ.bl.length (.row l none)) (w.alloc (.cells vs.toArray el)):=by
 refine H.alloc _ _ 0 fun τ hle hb=>?_;refine ⟨w.heap.size,0,vs.toArray,el,vs,hb,?_,concL_le hle hl,fun j v hv=>by simpa using hv,by simp [concL_length hl]⟩
 show (w.heap.push _)[w.heap.size]? = _
 simp
theorem HRel.openRow {h:Hp} (H:HRel W σ h w) (l:List SV) (vs rest:List Value) (el:TypeId) (K es:Nat) (hl:concL σ l=some vs) (hes:0<es) (hK:vs.length+rest.length=K*es) (hm:K≤maxLen) :
 HRel W ⟨σ.bl++[(w.heap.size,K)],σ.op⟩ (h.set σ.bl.length (.row l (some es))) (w.alloc (.cells (vs++rest).toArray el)):=by
 refine H.alloc _ _ K fun τ hle hb=>?_;refine ⟨w.heap.size,K,(vs++rest).toArray,el,vs,hb,?_,concL_le hle hl,fun j v hv=>?_,hes,by simp [←hK],hm,by rw [←concL_length hl];simp⟩
 · show (w.heap.push _)[w.heap.size]? = _
   simp
 · have hj:=(List.getElem?_eq_some_iff.1 hv).1
   simp only [List.getElem?_toArray];rw [List.getElem?_append_left hj,hv]
theorem snoc_le (σ:Env) (x:Nat×Nat):σ.le ⟨σ.bl++[x],σ.op⟩:=⟨⟨[x],rfl⟩,rfl⟩
theorem snoc_get (σ:Env) (x:Nat×Nat):(σ.bl++[x])[σ.bl.length]? = some x:=by simp
theorem HRel.write {h:Hp} (H:HRel W σ h w) {id:Nat} {cells:List SV} {op:Option Nat} (ho:h.get id=some (.row cells op)) {off:Nat} {l:List SV} {us:List Value}
 (hl:concL σ l=some us) (ha:l.all SV.one=true) (hoff:off+l.length≤cells.length) :
 ∃b K w',σ.bl[id]? = some (b,K)∧(∀i,i≤off→(storeCells ⟨b,off - i,none⟩ us i).run P w=.ok () w')∧HRel W σ (h.set id (.row (setRange cells off l) op)) w':=by
 obtain ⟨b,K,c,el,vs,h1,h2,h3,h4,h5⟩:=H.obj id _ ho;have hvl:=concL_length h3;have hul:=concL_length hl
 have hcs:cells.length≤c.size:=by
  cases op with
  | none=>simp only at h5;omega
  | some es=>exact h5.2.2.2
 have hone:∀v∈us,v.oneCell'=true:=by
  intro v hv;obtain ⟨i,hi⟩:=List.getElem?_of_mem hv;have hi':=(List.getElem?_eq_some_iff.1 hi).1;have hx:l[i]? = some (l[i]'(by omega)):=List.getElem?_eq_getElem (by omega);obtain ⟨v',e1,e2⟩:=concL_get hl hx;rw [hi] at e1;cases e1;exact SV.one_cell (List.all_eq_true.1 ha _ (List.getElem_mem _)) e2
 refine ⟨b,K,w.setRow b (c.toList.take off++us++c.toList.drop (off+us.length)).toArray,h1,fun i hi=>?_,?_⟩
 · have:=run_storeCells_at P b (off - i) el us i c w h2 (by omega) hone
   rw [show off - i+i=off by omega] at this;exact this
 · have hW:=H.own id _ b K ho h1
   refine H.turn ho h1 ⟨rfl,rfl,rfl,by simp,fun k hk=>setRow_other w b k _ (by omega)⟩ (fun k hk=>setRow_other w b k _ hk) ?_;refine ⟨b,K,_,el,setV vs off us,h1,setRow_heap w b c _ el (0,0) h2,concL_setRange off h3 hl,fun j v hv=>?_,?_⟩
   · rw [setV_get _ _ _ (by omega)] at hv
     have:(setV c.toList off us)[j]? = some v:=by
      rw [setV_get _ _ _ (by have:c.toList.length=c.size:=Array.length_toList;omega)]
      split at hv
      · rename_i hj;rw [if_pos hj];exact hv
      · rename_i hj;rw [if_neg hj];simpa using h4 j v hv
     simpa [setV] using this
   · have hsz:(c.toList.take off++us++c.toList.drop (off+us.length)).toArray.size=c.size:=by
      simp only [List.size_toArray,List.length_append,List.length_take,List.length_drop,Array.length_toList];omega
     have hln:(setRange cells off l).length=cells.length:=setV_length cells off l hoff
     cases op with
     | none=>simp only at h5 ⊢;rw [hsz,hln];exact h5
     | some es=>simp only at h5 ⊢;rw [hsz,hln];exact h5
def evStore (B:Tab) (h:Hp) (t:TypeId) (x v:SV):Option Hp :=
 match x,B.T t with
 | .ptr id off,some ti =>
   let l:=v.cells
   if l.all SV.one&&Nat.beq l.length ti.size then match h.get id with
    | some (.row cells op)=>if Nat.ble (off+l.length) cells.length then some (h.set id (.row (setRange cells off l) op)) else none
    | _=>none
   else none
 | _,_=>none
theorem evStore_ok {B:Tab} {h h':Hp} {t:TypeId} {x v:SV} {X V:Value} (hB:TabOk P W σ.op B) (H:HRel W σ h w) (hx:conc σ x=some X) (hv:conc σ v=some V) (he:evStore B h t x v=some h') :
 ∃w',(Instr.storeAt t X V).run P w=.ok () w'∧HRel W σ h' w':=by
 unfold evStore at he
 split at he
 · rename_i id off ti ht
   obtain ⟨i,z,hi,hs,_⟩:=hB.info _ _ ht;simp only at he
   split at he
   · rename_i hc
     simp only [Bool.and_eq_true] at hc;have hlen:=Nat.eq_of_beq_eq_true hc.2
     split at he
     · rename_i cells op ho
       split at he
       · rename_i hle
         cases he;have hl:=SV.cells_conc hv hc.1;obtain ⟨b,K,w',h1,h2,h3⟩:=H.write (P:=P) ho hl hc.1 (Nat.le_of_ble_eq_true hle);simp only [conc,h1,Option.map_some,Option.some.injEq] at hx;subst hx;refine ⟨w',?_,h3⟩
         have hsz:V.cells.size=i.size:=by
          have:=concL_length hl;simp only [Array.length_toList] at this;omega
         simp only [Instr.storeAt,Instr.sureAddr,storeVar,Sem.run_bind,Sem.run_pure,Result.andThen_ok,run_sizeOf' hi,hsz,ne_eq,not_true,if_false];have:=h2 0 (Nat.zero_le _)
         simpa using this
       · cases he
     · cases he
   · cases he
 · cases he
def sliceCells (h:Hp) (es:Nat):SV→Option (Nat×List SV)
 | .nils=>some (0,[])
 | .slice id off es' len _=>if es'=es then match cellsAt h id with
    | some cells=>match takeN (len*es) (cells.drop (off*es)) with
      | some l=>some (len,l)
      | none=>none
    | _=>none
   else none
 | _=>none
theorem sliceCells_ok {h:Hp} (H:HRel W σ h w) {es:Nat} {x:SV} {X:Value} {n:Nat} {l:List SV} (hx:conc σ x=some X) (he:sliceCells h es x=some (n,l)) :
 ∃base cap vs,X=.slice base n cap∧concL σ l=some vs∧vs.length=n*es∧(∀w',(∀k,k<w.heap.size→w'.heap[k]? = w.heap[k]?)→∀m,m≤n→(Builtin.firstCells es m X).run P w'=.ok (vs.take (m*es)).toArray w') ∧
  (base=none→n=0∧cap=0)∧(∀a,base=some a→∀(j:Nat) (v:Value),vs[j]? = some v→w.cell? (a.add j)=some v):=by
 unfold sliceCells at he
 split at he
 · cases he
   simp only [conc,Option.some.injEq] at hx;subst hx;exact ⟨none,0,[],rfl,rfl,by simp,fun w' _ m hm=>by simp [run_firstCells_none],fun _=>⟨rfl,rfl⟩,fun a h=>(by cases h)⟩
 · rename_i id off es' len cap
   split at he
   · rename_i hes
     subst hes
     split at he
     · rename_i cells ho
       split at he
       · rename_i l' hl'
         cases he;obtain ⟨e1,e2⟩:=takeN_spec hl'
         have hrd:Reads σ w (id,off*es',l):=by rw [e1];exact H.readsC ho (off*es') (n*es')
         obtain ⟨b,K,vs,h1,h2,h3⟩:=hrd;simp only at h1 h2 h3;simp only [conc,h1,Option.map_some,Option.some.injEq] at hx;subst hx
         have hlen:vs.length=n*es':=by
          rw [concL_length h2,e1,List.length_take];omega
         refine ⟨_,_,vs,rfl,h2,hlen,fun w' hw' m hm=>?_,fun h=>(by cases h),fun a ha j v hv=>?_⟩
         · refine run_firstCells_some w' es' m _ _ _ _ (by rw [List.length_take,hlen,Nat.min_eq_left (Nat.mul_le_mul_right _ hm)]) fun j v hj=>?_
           rw [List.getElem?_take] at hj
           split at hj
           · rw [addr_add]
             have:=h3 j v hj;have hlt:=World.block_lt_of_cell? w _ this;rw [←this];exact World.cell?_of_block (hw' _ hlt)
           · cases hj
         · cases ha
           rw [addr_add];exact h3 j v hv
       · cases he
     · cases he
   · cases he
 · cases he
theorem HRel.over {h:Hp} (H:HRel W σ h w) {id:Nat} {cells:List SV} {es b K:Nat} (ho:h.get id=some (.row cells (some es))) (hb:σ.bl[id]? = some (b,K)) {w':World} {u:AObj}
 (hg:Below W.heap.size w w') (hk:∀k,k≠b→w'.heap[k]? = w.heap[k]?) (hu:ORel ⟨σ.bl++[(b,K)],σ.op⟩ w' σ.bl.length u):HRel W ⟨σ.bl++[(b,K)],σ.op⟩ ((h.del id).set σ.bl.length u) w':=by
 have hle:=snoc_le σ (b,K);have hid:id<σ.bl.length:=(List.getElem?_eq_some_iff.1 hb).1;have hnew:=snoc_get σ (b,K)
 have key:∀i o,(h.del id).get i=some o→i≠id∧h.get i=some o∧∃b' K',σ.bl[i]? = some (b',K')∧b'<w.heap.size∧i<σ.bl.length:=by
  intro i o hi;rw [PT.get_del] at hi
  split at hi
  · cases hi
  · rename_i hne
    obtain ⟨b',K',h1,h2⟩:=(H.obj i o hi).block;exact ⟨hne,hi,b',K',h1,h2,(List.getElem?_eq_some_iff.1 h1).1⟩
 refine ⟨fun i o hi=>?_,fun i j o v b1 K1 b2 K2 hi hj hij h1 h2=>?_,fun i o b1 K1 hi h1=>?_,H.below.trans hg⟩
 · rw [PT.get_set] at hi
   split at hi
   · rename_i he;cases hi;subst he;exact hu
   · obtain ⟨hne,hi',b',K',e1,e2,e3⟩:=key i o hi
     refine (H.obj i o hi').le hle fun b1 K1 h1=>hk b1 ?_;exact H.apart i id o _ b1 K1 b K hi' ho hne h1 hb
 · rw [PT.get_set] at hi hj
   split at hi
   · rename_i he;cases hi;subst he
     rw [if_neg (Ne.symm hij)] at hj;obtain ⟨hne,hj',b',K',e1,e2,e3⟩:=key j v hj;rw [hnew] at h1;cases h1;rw [hle.get e1] at h2;cases h2;exact H.apart id j _ _ _ _ _ _ ho hj' (Ne.symm hne) hb e1
   · obtain ⟨hne,hi',b',K',e1,e2,e3⟩:=key i o hi
     rw [hle.get e1] at h1;cases h1
     split at hj
     · rename_i he;cases hj;subst he
       rw [hnew] at h2;cases h2;exact H.apart i id _ _ _ _ _ _ hi' ho hne e1 hb
     · obtain ⟨hne2,hj',b3,K3,f1,f2,f3⟩:=key j v hj
       rw [hle.get f1] at h2;cases h2;exact H.apart i j _ _ _ _ _ _ hi' hj' hij e1 f1
 · rw [PT.get_set] at hi
   split at hi
   · rename_i he;cases hi;subst he
     rw [hnew] at h1;cases h1;exact H.own id _ _ _ ho hb
   · obtain ⟨hne,hi',b',K',e1,e2,e3⟩:=key i o hi
     rw [hle.get e1] at h1;cases h1;exact H.own i o _ _ hi' e1
theorem HRel.drop {h:Hp} (H:HRel W σ h w) (id:Nat):HRel W σ (h.del id) w:=by
 have key:∀i o,(h.del id).get i=some o→h.get i=some o:=by
  intro i o hi;rw [PT.get_del] at hi
  split at hi
  · cases hi
  · exact hi
 exact ⟨fun i o hi=>H.obj i o (key i o hi),fun i j o v b1 K1 b2 K2 hi hj=>H.apart i j o v b1 K1 b2 K2 (key i o hi) (key j v hj),fun i o b K hi=>H.own i o b K (key i o hi),H.below⟩
end
end
noncomputable section
section
variable {P:Program} {W:World} {σ:Env} {w:World}
theorem run_append_fit (t ty e:TypeId) (i:TypeInfo) (ht:P.underlying t=some (.slice e)) (hi:P.info? e=some i) (b:Addr) (sLen sCap n:Nat) (xb:Option Addr) (xc:Nat) (news:List Value)
 (hroom:sLen+n≤sCap) (hf:(Builtin.firstCells i.size n (.slice xb n xc)).run P w=.ok news.toArray w) {w':World} (hst:(storeCells (b.add (sLen*i.size)) news).run P w=.ok () w') :
 (Builtin.append_ #[t,t] ty #[.slice (some b) sLen sCap,.slice xb n xc]).run P w=.ok (.slice (some b) (sLen+n) sCap) w':=by
 simp [Builtin.append_,run_underlying ht,sizeOf,typeInfo,hi,Builtin.lenOf,hroom,hf,hst]
theorem run_append_nils (t ty e:TypeId) (i:TypeInfo) (ht:P.underlying t=some (.slice e)) (hi:P.info? e=some i) (xb:Option Addr) (xc:Nat) (hf:(Builtin.firstCells i.size 0 (.slice xb 0 xc)).run P w=.ok #[] w) :
 (Builtin.append_ #[t,t] ty #[.slice none 0 0,.slice xb 0 xc]).run P w=.ok (.slice none 0 0) w:=by
 simp [Builtin.append_,run_underlying ht,sizeOf,typeInfo,hi,Builtin.lenOf,hf]
def evAppend (B:Tab) (h:Hp) (nx:Nat) (t:TypeId) (s x:SV):Option (SV×Hp×Nat) :=
 match B.T t with
 | some ti=>match ti.d with
   | .slice e=>match B.T e with
     | some te=>match te.size with
       | 0=>none
       | es0+1 =>
         let es:=es0+1
         if Nat.beq te.zero.length es then match sliceCells h es x with
          | some (n,l)=>if l.all SV.one then match s with
             | .nils=>match n with
               | 0=>some (.nils,h,nx)
               | _=>if Nat.ble (n*te.bytes) 1000000000&&Nat.ble n 1000000000 then some (.slice nx 0 es n none,h.set nx (.row l (some es)),nx+1) else none
             | .slice id off es' len cap=>if Nat.beq es' es then match h.get id with
                | some (.row cells op) =>
                  let need:=len+n
                  match cap,op with
                  | some c,_=>if Nat.ble need c then
                     (if Nat.ble ((off+need)*es) cells.length then some (.slice id off es need (some c),h.set id (.row (setRange cells ((off+len)*es) l) op),nx) else none)
                     else match takeN (len*es) (cells.drop (off*es)) with
                      | some o=>if Nat.ble (need*te.bytes) 1000000000&&Nat.ble need 1000000000&&Nat.ble 1 n then some (.slice nx 0 es need none,h.set nx (.row (o++l) (some es)),nx+1) else none
                      | none=>none
                  | none,some es''=>if Nat.beq es'' es then
                     (if Nat.ble ((off+need)*es) cells.length then some (.slice id off es need none,h.set id (.row (setRange cells ((off+len)*es) l) op),nx)
                     else match off,takeN (len*es) cells with
                      | 0,some o=>if Nat.ble (need*te.bytes) 1000000000&&Nat.ble need 1000000000&&Nat.ble 1 n then some (.slice nx 0 es need none,(h.del id).set nx (.row (o++l) (some es)),nx+1) else none
                      | _,_=>none)
                     else none
                  | none,none=>none
                | _=>none
               else none
             | _=>none
            else none
          | none=>none
         else none
     | none=>none
   | _=>none
 | none=>none
theorem maxLen_le {n:Nat} (h:n≤1000000000):n≤maxLen:=by
 have:maxLen=2 ^ 63 - 1:=rfl;omega
theorem append3 (a b:List Value) (c:Array Value):a.toArray++b.toArray++c=((a++b)++c.toList).toArray:=by
 apply Array.ext'
 simp
theorem grow_ok {h:Hp} (H:HRel W σ h w) {t ty e:TypeId} {i:TypeInfo} {z:Value} (ht:P.underlying t=some (.slice e)) (hi:P.info? e=some i) (hz:i.zero=some z) (hzs:z.cells.size=i.size) (hes:0<i.size)
 {b:Addr} {sLen sCap:Nat} {o l:List SV} {vo vl:List Value} (ho:concL σ o=some vo) (hl:concL σ l=some vl) (hvo:vo.length=sLen*i.size) (hold:∀(j:Nat) (v:Value),vo[j]? = some v→w.cell? (b.add j)=some v)
 {a:Addr} {n c:Nat} (hvl:vl.length=n*i.size) (hnew:∀(j:Nat) (v:Value),vl[j]? = some v→w.cell? (a.add j)=some v) (hg:sCap<sLen+n) (hb1:(sLen+n)*i.bytes≤1000000000) (hb2:sLen+n≤1000000000) :
 ∃σ' w',σ.le σ'∧σ'.bl.length=σ.bl.length+1∧HRel W σ' (h.set σ.bl.length (.row (o++l) (some i.size))) w' ∧
  ∃V,conc σ' (.slice σ.bl.length 0 i.size (sLen+n) none)=some V∧(Builtin.append_ #[t,t] ty #[.slice (some b) sLen sCap,.slice (some a) n c]).run P w=.ok V w':=by
 have hrun:=run_append_grow (P:=P) w t ty e i z ht hi hz b sLen sCap vo hvo hold a n c vl hvl hnew hg (by omega) (growslice_fits hg (by omega));have hcap:=grownCap_ge w (sLen+n) sCap e;have hcap2:=grownCap_le_maxLen w (sLen+n) sCap e (maxLen_le hb2);refine ⟨_,_,snoc_le σ (w.heap.size,grownCap w (sLen+n) sCap e),by simp,?_,.slice (some ⟨w.heap.size,0,none⟩) (sLen+n) (grownCap w (sLen+n) sCap e),by simp [conc,snoc_get],hrun⟩
 rw [append3];refine H.drew.openRow (o++l) (vo++vl) _ e (grownCap w (sLen+n) sCap e) i.size (concL_append ho hl) hes ?_ hcap2
 have hzc:(Builtin.zeroCells z.cells (grownCap w (sLen+n) sCap e - (sLen+n))).toList.length=(grownCap w (sLen+n) sCap e - (sLen+n))*i.size:=by rw [Array.length_toList,size_zeroCells,hzs]
 rw [hzc,List.length_append,hvo,hvl,←Nat.add_mul,←Nat.add_mul]
 congr 1
 omega
theorem evAppend_ok {B:Tab} {h h':Hp} {nx n':Nat} {t ty:TypeId} {s x y:SV} {S X:Value} (hB:TabOk P W σ.op B) (H:HRel W σ h w) (hn:σ.bl.length=nx) (hs:conc σ s=some S) (hx:conc σ x=some X)
 (he:evAppend B h nx t s x=some (y,h',n')):∃σ' w',σ.le σ'∧σ'.bl.length=n'∧HRel W σ' h' w'∧∃V,conc σ' y=some V∧(Builtin.append_ #[t,t] ty #[S,X]).run P w=.ok V w':=by
 subst hn;unfold evAppend at he
 split at he
 · rename_i ti hti
   have hd:=hB.under _ _ hti
   split at he
   · rename_i e htd
     rw [htd] at hd
     split at he
     · rename_i te hte
       obtain ⟨i,z,hi,hsz,hby,hz,_,hzero⟩:=hB.info _ _ hte
       split at he
       · cases he
       · rename_i es0 hes
         simp only at he
         split at he
         · rename_i hzl
           have hzl:=Nat.eq_of_beq_eq_true hzl
           have hes':es0+1=i.size:=by rw [hsz,hes]
           have hzs:z.cells.size=i.size:=by
            have:=concL_length (hzero σ);simp only [Array.length_toList] at this;omega
           have hpos:0<i.size:=by omega
           rw [hes'] at he
           split at he
           · rename_i n l hsl
             obtain ⟨xb,xc,vl,rfl,hvl,hvlen,hfirst,hnone,hcells⟩:=sliceCells_ok (P:=P) H hx hsl
             split at he
             · rename_i hone
               split at he
               · simp only [conc,Option.some.injEq] at hs
                 subst hs
                 split at he
                 · cases he
                   refine ⟨σ,w,.refl σ,rfl,H,_,rfl,run_append_nils t ty e i hd hi xb xc ?_⟩;have:=hfirst w (fun k _=>rfl) 0 (Nat.le_refl _)
                   simpa using this
                 · rename_i n0 hn0
                   split at he
                   · rename_i hb
                     simp only [Bool.and_eq_true] at hb;have hb1:=Nat.le_of_ble_eq_true hb.1;have hb2:=Nat.le_of_ble_eq_true hb.2;rw [←hby] at hb1;cases he;have h0:0<n:=Nat.pos_of_ne_zero hn0
                     cases xb with
                     | none=>have:=(hnone rfl).1;omega
                     | some a =>
                       have hrun:=run_append_nil (P:=P) w t ty e i z hd hi hz a n xc vl hvlen (hcells a rfl) h0 (by omega) (by omega);have hcap:=grownCap_ge w n 0 e;have hcap2:=grownCap_le_maxLen w n 0 e (maxLen_le hb2);refine ⟨_,_,snoc_le σ (w.heap.size,grownCap w n 0 e),by simp,?_,.slice (some ⟨w.heap.size,0,none⟩) n (grownCap w n 0 e),by simp [conc,snoc_get],hrun⟩
                       have e3:vl.toArray++Builtin.zeroCells z.cells (grownCap w n 0 e - n)=(vl++(Builtin.zeroCells z.cells (grownCap w n 0 e - n)).toList).toArray:=by apply Array.ext';simp
                       rw [e3];refine H.drew.openRow l vl _ e (grownCap w n 0 e) i.size hvl hpos ?_ hcap2
                       have hzc:(Builtin.zeroCells z.cells (grownCap w n 0 e - n)).toList.length=(grownCap w n 0 e - n)*i.size:=by rw [Array.length_toList,size_zeroCells,hzs]
                       rw [hzc,hvlen,←Nat.add_mul]
                       congr 1
                       omega
                   · cases he
               · rename_i id off es' len cap
                 split at he
                 · rename_i hese
                   have hese:=Nat.eq_of_beq_eq_true hese;subst hese
                   split at he
                   · rename_i cells op ho
                     obtain ⟨b,K,c0,el,vs,h1,h2,h3,h4,h5⟩:=H.obj id _ ho;have hvs:=concL_length h3;simp only [conc,h1,Option.map_some,Option.some.injEq] at hs;subst hs
                     have hold:∀(o:List SV),takeN (len*i.size) (cells.drop (off*i.size))=some o→∃vo,concL σ o=some vo∧vo.length=len*i.size∧∀(j:Nat) (v:Value),vo[j]? = some v→w.cell? ((⟨b,off*i.size,none⟩:Addr).add j)=some v:=by
                      intro o hto;obtain ⟨e1,e2⟩:=takeN_spec hto;obtain ⟨b',K',vo,f1,f2,f3⟩:=H.reads ho (off*i.size) (len*i.size);simp only at f1 f2 f3;rw [h1] at f1;cases f1;rw [←e1] at f2;refine ⟨vo,f2,by rw [concL_length f2,e1,List.length_take];omega,fun j v hv=>?_⟩;rw [addr_add];exact f3 j v hv
                     have fit:∀cap':Option Nat,len+n≤cap'.getD (K - off)→(off+(len+n))*i.size≤cells.length→∃σ' w',σ.le σ'∧σ'.bl.length=σ.bl.length∧HRel W σ' (h.set id (.row (setRange cells ((off+len)*i.size) l) op)) w' ∧
                      ∃V,conc σ' (.slice id off i.size (len+n) cap')=some V∧(Builtin.append_ #[t,t] ty #[.slice (some ⟨b,off*i.size,none⟩) len (cap'.getD (K - off)),.slice xb n xc]).run P w=.ok V w':=by
                      intro cap' hroom hle
                      have hll:l.length=n*i.size:=by rw [←concL_length hvl,hvlen]
                      obtain ⟨b',K',w',g1,g2,g3⟩:=H.write (P:=P) ho (off:=(off+len)*i.size) hvl hone (by rw [hll,←Nat.add_mul];rw [Nat.add_assoc];exact hle);rw [h1] at g1;cases g1;refine ⟨σ,w',.refl σ,rfl,g3,.slice (some ⟨b,off*i.size,none⟩) (len+n) (cap'.getD (K - off)),by simp [conc,h1],?_⟩;refine run_append_fit t ty e i hd hi _ len _ n xb xc vl hroom ?_ ?_
                      · have:=hfirst w (fun k _=>rfl) n (Nat.le_refl _)
                        rw [this,List.take_of_length_le (by omega)]
                      · rw [addr_add,←Nat.add_mul]
                        have:=g2 0 (Nat.zero_le _)
                        simpa using this
                     split at he
                     · rename_i c
                       split at he
                       · rename_i hnc
                         have hnc:=Nat.le_of_ble_eq_true hnc
                         split at he
                         · rename_i hle
                           cases he;exact fit (some c) hnc (Nat.le_of_ble_eq_true hle)
                         · cases he
                       · rename_i hnc
                         have hnc:c<len+n:=by
                          rcases Nat.lt_or_ge c (len+n) with h | h
                          · exact h
                          · exact absurd (Nat.ble_eq_true_of_le h) hnc
                         split at he
                         · rename_i o hto
                           split at he
                           · rename_i hb
                             simp only [Bool.and_eq_true] at hb;have hb1:=Nat.le_of_ble_eq_true hb.1.1;have hb2:=Nat.le_of_ble_eq_true hb.1.2;rw [←hby] at hb1;cases he;obtain ⟨vo,k1,k2,k3⟩:=hold o hto
                             cases xb with
                             | none =>
                               obtain ⟨hn0,_⟩:=hnone rfl;have:=Nat.le_of_ble_eq_true hb.2;omega
                             | some a=>exact grow_ok H hd hi hz hzs hpos k1 hvl k2 k3 hvlen (hcells a rfl) hnc hb1 hb2
                           · cases he
                         · cases he
                     · rename_i es''
                       split at he
                       · rename_i hes2
                         have hes2:=Nat.eq_of_beq_eq_true hes2;subst hes2;simp only at h5;obtain ⟨q1,q2,q3,q4⟩:=h5
                         split at he
                         · rename_i hle
                           have hle:=Nat.le_of_ble_eq_true hle;cases he;refine fit none ?_ hle
                           have:(off+(len+n))*i.size≤K*i.size:=by omega
                           have:=Nat.le_of_mul_le_mul_right this q1;simp only [Option.getD_none];omega
                         · rename_i hle
                           split at he
                           · rename_i o hto
                             split at he
                             · rename_i hb
                               simp only [Bool.and_eq_true] at hb;have hb1:=Nat.le_of_ble_eq_true hb.1.1;have hb2:=Nat.le_of_ble_eq_true hb.1.2;rw [←hby] at hb1;cases he;obtain ⟨vo,k1,k2,k3⟩:=hold o (by simpa using hto);have hll:vl.length=n*i.size:=hvlen
                               rcases Nat.lt_or_ge K (len+n) with hK | hK
                               ·
                                cases xb with
                                | none =>
                                  obtain ⟨hn0,_⟩:=hnone rfl;have:=Nat.le_of_ble_eq_true hb.2;omega
                                | some a =>
                                  have:=grow_ok (ty:=ty) (c:=xc) (H.drop id) hd hi hz hzs hpos k1 hvl k2 k3 hvlen (hcells a rfl) hK hb1 hb2
                                  simpa using this
                               ·
                                obtain ⟨e1,e2⟩:=takeN_spec hto
                                have hsz:len*i.size+vl.length≤c0.size:=by
                                 rw [hll,←Nat.add_mul,q2];exact Nat.mul_le_mul_right _ hK
                                have honeV:∀v∈vl,v.oneCell'=true:=by
                                 intro v hv;obtain ⟨k,hk⟩:=List.getElem?_of_mem hv;have hk':=(List.getElem?_eq_some_iff.1 hk).1;have hll2:=concL_length hvl;have hx':l[k]? = some (l[k]'(by omega)):=List.getElem?_eq_getElem (by omega);obtain ⟨v',r1,r2⟩:=concL_get hvl hx';rw [hk] at r1;cases r1;exact SV.one_cell (List.all_eq_true.1 hone _ (List.getElem_mem _)) r2
                                have hst:=run_storeCells_at P b (len*i.size) el vl 0 c0 w h2 (by omega) honeV;simp only [Nat.add_zero] at hst
                                refine ⟨_,w.setRow b (c0.toList.take (len*i.size)++vl++c0.toList.drop (len*i.size+vl.length)).toArray,snoc_le σ (b,K),by simp,H.over ho h1 ⟨rfl,rfl,rfl,by simp,fun k hk=>setRow_other w b k _ (by have:=H.own id _ b K ho h1;omega)⟩ (fun k hk=>setRow_other w b k _ hk) ?_,
                                 .slice (some ⟨b,0,none⟩) (len+n) K,by simp [conc,snoc_get],?_⟩
                                · refine ⟨b,K,_,el,vo++vl,snoc_get σ (b,K),setRow_heap w b c0 _ el (0,0) h2,concL_le (snoc_le σ (b,K)) (concL_append k1 hvl),fun j v hv=>?_,q1,?_,q3,?_⟩
                                  · have hov:vo=vs.take (len*i.size):=by
                                     have:=concL_take (len*i.size) h3;rw [←e1] at this;rw [this] at k1;cases k1
                                     rfl
                                    have hvo:vo.length=len*i.size:=k2
                                    have hct:(c0.toList.take (len*i.size)).length=len*i.size:=by
                                     rw [List.length_take,Array.length_toList];omega
                                    simp only [List.getElem?_toArray];rw [List.append_assoc]
                                    rcases Nat.lt_or_ge j (len*i.size) with hj | hj
                                    · rw [List.getElem?_append_left (by omega)] at hv
                                      rw [List.getElem?_append_left (by omega),List.getElem?_take,if_pos hj];rw [hov,List.getElem?_take,if_pos hj] at hv
                                      simpa using h4 j v hv
                                    · rw [List.getElem?_append_right (by omega),hvo] at hv
                                      have hj2:=(List.getElem?_eq_some_iff.1 hv).1;rw [List.getElem?_append_right (by omega),hct,List.getElem?_append_left hj2];exact hv
                                  · simp only [List.size_toArray,List.length_append,List.length_take,List.length_drop,Array.length_toList]
                                    omega
                                  · have r1:=concL_length k1
                                    have r2:=concL_length hvl;simp only [List.size_toArray,List.length_append,List.length_take,List.length_drop,Array.length_toList];omega
                                · have f1:=hfirst w (fun k _=>rfl) n (Nat.le_refl _)
                                  rw [List.take_of_length_le (by omega)] at f1;have f2:=run_append_fit (P:=P) (w:=w) t ty e i hd hi ⟨b,0,none⟩ len K n xb xc vl hK f1 (by rw [addr_add,Nat.zero_add];exact hst)
                                  simpa using f2
                             · cases he
                           · cases he
                       · cases he
                     · cases he
                   · cases he
                 · cases he
               · cases he
             · cases he
           · cases he
         · cases he
     · cases he
   · cases he
 · cases he
end
end
noncomputable section
section
variable {P:Program} {W:World} {σ:Env} {w:World}
def rep {α:Type}:Nat→List α→List α
 | 0,_=>[]
 | n+1,l=>l++rep n l
theorem concL_rep {l:List SV} {vs:List Value} (h:concL σ l=some vs):∀n,concL σ (rep n l)=some (rep n vs)
 | 0=>rfl
 | n+1=>concL_append h (concL_rep h n)
theorem rep_length {α:Type} (l:List α):∀n,(rep n l).length=n*l.length
 | 0=>by simp [rep]
 | n+1=>by simp [rep,rep_length l n,Nat.add_mul];omega
theorem rep_get {α:Type} (l:List α):∀n i,i<n*l.length→(rep n l)[i]? = l[i%l.length]?
 | 0,i,h=>by omega
 | n+1,i,h=>by
   simp only [rep]
   rcases Nat.lt_or_ge i l.length with hi | hi
   · rw [List.getElem?_append_left hi,Nat.mod_eq_of_lt hi]
   · rw [List.getElem?_append_right hi,rep_get l n (i - l.length) (by rw [Nat.add_mul] at h;omega)]
     congr 1
     exact (Nat.mod_eq_sub_mod hi).symm
theorem zeros_eq (z:Array Value) (n s:Nat) (hs:z.size=s) (h0:0<s):(Array.range (n*s)).map (z[·%z.size]!)=(rep n z.toList).toArray:=by
 subst hs
 apply Array.ext'
 apply List.ext_getElem?
 intro i;simp only [Array.toList_map,Array.toList_range,List.getElem?_map]
 rcases Nat.lt_or_ge i (n*z.size) with hi | hi
 · rw [List.getElem?_range hi,rep_get _ _ _ (by simpa using hi)]
   have hm:i%z.size<z.size:=Nat.mod_lt _ h0;simp [hm]
 · rw [List.getElem?_eq_none (by simpa using hi),List.getElem?_eq_none (by simp [rep_length];exact hi)]
   rfl
def evNew (h:Hp) (nx:Nat) (l:List SV):SV×Hp×Nat:=(.ptr nx 0,h.set nx (.row l none),nx+1)
theorem evNew_ok {h:Hp} (H:HRel W σ h w) {l:List SV} {cs:Array Value} (el:TypeId) (hl:concL σ l=some cs.toList) :
 ∃σ' w',σ.le σ'∧σ'.bl.length=σ.bl.length+1∧HRel W σ' (evNew h σ.bl.length l).2.1 w'∧∃V,conc σ' (evNew h σ.bl.length l).1=some V∧(do pure (.pointer (some (←newRow el cs))):Sem Value).run P w=.ok V w':=by
 have:=H.row l cs.toList el hl;refine ⟨_,_,snoc_le σ (w.heap.size,0),by simp,this,.pointer (some ⟨w.heap.size,0,none⟩),by simp [evNew,conc,snoc_get],?_⟩;simp [newRow]
def evBuildSlice (B:Tab) (h:Hp) (nx:Nat) (t:TypeId) (len:Nat) (parts:List (Nat×SV)):Option (SV×Hp×Nat) :=
 match B.T t with
 | some ti=>match ti.d with
   | .slice e=>match B.T e with
     | some te=>match len,parts with
       | 0,[]=>some (.slice nx 0 te.size 0 (some 0),h.set nx (.row [] none),nx+1)
       | _,_=>if Nat.beq te.zero.length te.size&&Nat.ble 1 (len*te.size)&&Nat.ble (len*te.size) 1000000 then
         match fillS (fun i=>some (i*te.size,te.size)) (rep len te.zero) parts with
         | some r=>some (.slice nx 0 te.size len (some len),h.set nx (.row r none),nx+1)
         | none=>none
       else none
     | none=>none
   | _=>none
 | none=>none
theorem evBuildSlice_ok {B:Tab} {h h':Hp} {nx n':Nat} {t:TypeId} {len:Nat} {parts:List (Nat×SV)} {vparts:Array (Nat×Value)} {y:SV} (hB:TabOk P W σ.op B) (H:HRel W σ h w) (hn:σ.bl.length=nx) (hl:parts.length=vparts.toList.length)
 (hp:∀(k:Nat) (p:Nat×SV) (q:Nat×Value),parts[k]? = some p→vparts.toList[k]? = some q→p.1=q.1∧conc σ p.2=some q.2) (he:evBuildSlice B h nx t len parts=some (y,h',n')) :
 ∃σ' w',σ.le σ'∧σ'.bl.length=n'∧HRel W σ' h' w'∧∃V,conc σ' y=some V∧(Instr.buildSlice t len vparts).run P w=.ok V w':=by
 subst hn;unfold evBuildSlice at he
 split at he
 · rename_i ti hti
   have hd:=hB.under _ _ hti
   split at he
   · rename_i e htd
     rw [htd] at hd
     split at he
     · rename_i te hte
       obtain ⟨i,z,hi,hsz,hby,hz,_,hzero⟩:=hB.info _ _ hte
       split at he
       · cases he
         have hv0:vparts=#[]:=by
          apply Array.ext'
          exact List.length_eq_zero_iff.1 hl.symm
         subst hv0;refine ⟨_,_,snoc_le σ (w.heap.size,0),by simp,H.row [] [] e rfl,.slice (some ⟨w.heap.size,0,none⟩) 0 0,by simp [conc,snoc_get],?_⟩
         have hz0:∀f:Nat→Value,Array.map f (Array.range 0)=#[]:=fun f=>by apply Array.ext';simp
         simp [Instr.buildSlice,run_underlying hd,run_sizeOf' hi,newRow,Instr.fill,hz0]
       split at he
       · rename_i hc
         simp only [Bool.and_eq_true] at hc;have c1:=Nat.eq_of_beq_eq_true hc.1.1;have c2:=Nat.le_of_ble_eq_true hc.1.2;have c3:=Nat.le_of_ble_eq_true hc.2
         split at he
         · rename_i r hr
           cases he
           have hzs:z.cells.size=i.size:=by
            have:=concL_length (hzero σ);simp only [Array.length_toList] at this;omega
           have hpos:0<te.size:=Nat.pos_of_ne_zero fun h0=>by rw [h0] at c2;omega
           rw [←hsz] at hr c2 c3 hpos;have hzz:=zeros_eq z.cells len i.size hzs hpos;obtain ⟨rs,f1,f2⟩:=fillS_ok (σ:=σ) (place:=fun j=>some (j*i.size,i.size)) (cs:=(Array.range (len*i.size)).map (z.cells[·%z.cells.size]!)) hl hp (by rw [hzz];exact concL_rep (hzero σ) len) hr;have hrun:=run_buildSlice (P:=P) w t e len vparts rs i z hd hi hz (by omega) (by omega) f2;refine ⟨_,_,snoc_le σ (w.heap.size,0),by simp,?_,.slice (some ⟨w.heap.size,0,none⟩) len len,by simp [conc,snoc_get],hrun⟩
           have:=H.row r rs.toList e f1
           simpa using this
         · cases he
       · cases he
     · cases he
   · cases he
 · cases he
def evMakeSlice (B:Tab) (h:Hp) (nx:Nat) (t:TypeId) (len cap:SV):Option (SV×Hp×Nat) :=
 match len,cap,B.T t with
 | .int _ (.ofNat l),.int _ (.ofNat c),some ti=>match ti.d with
   | .slice e=>match B.T e with
     | some te=>if Nat.beq te.zero.length te.size&&Nat.ble 1 te.size&&Nat.ble l c&&Nat.ble (te.bytes*c) 1000000000&&Nat.ble c 1000000&&Nat.ble 1 c then
        some (.slice nx 0 te.size l (some c),h.set nx (.row (rep c te.zero) none),nx+1)
       else none
     | none=>none
   | _=>none
 | _,_,_=>none
theorem wrap_small {n:Nat} (h:n≤1000000):IntKind.i64.wrap (n:Int)=n:=by
 have h1:(n:Int)%(2 ^ IntKind.i64.bits:Int)=n:=by
  show (n:Int)%18446744073709551616=n
  omega
 have h2:¬((n:Int)≥(2 ^ (IntKind.i64.bits - 1):Int)):=by
  show ¬((n:Int)≥9223372036854775808)
  omega
 unfold IntKind.wrap;simp only [h1];rw [if_neg];simp only [Bool.and_eq_true,decide_eq_true_eq];exact fun h=>h2 h.2
theorem evMakeSlice_ok {B:Tab} {h h':Hp} {nx n':Nat} {t:TypeId} {len cap:SV} {L C:Value} {y:SV} (hB:TabOk P W σ.op B) (H:HRel W σ h w) (hn:σ.bl.length=nx) (hl:conc σ len=some L) (hc:conc σ cap=some C)
 (he:evMakeSlice B h nx t len cap=some (y,h',n')) :
 ∃σ' w',σ.le σ'∧σ'.bl.length=n'∧HRel W σ' h' w'∧∃V,conc σ' y=some V∧(Instr.makeSlice t L C).run P w=.ok V w':=by
 subst hn;unfold evMakeSlice at he
 split at he
 · rename_i k1 l k2 c ti hti
   have hd:=hB.under _ _ hti;simp only [conc,Option.some.injEq] at hl hc;subst hl;subst hc
   split at he
   · rename_i e htd
     rw [htd] at hd
     split at he
     · rename_i te hte
       obtain ⟨i,z,hi,hsz,hby,hz,_,hzero⟩:=hB.info _ _ hte
       split at he
       · rename_i hcc
         simp only [Bool.and_eq_true] at hcc;have c1:=Nat.eq_of_beq_eq_true hcc.1.1.1.1.1;have c2:=Nat.le_of_ble_eq_true hcc.1.1.1.1.2;have c3:=Nat.le_of_ble_eq_true hcc.1.1.1.2;have c4:=Nat.le_of_ble_eq_true hcc.1.1.2;have c5:=Nat.le_of_ble_eq_true hcc.1.2;have c6:=Nat.le_of_ble_eq_true hcc.2;cases he
         have hzs:z.cells.size=i.size:=by
          have:=concL_length (hzero σ);simp only [Array.length_toList] at this;omega
         have hzz:=zeros_eq z.cells c i.size hzs (by omega);have hw1:IntKind.i64.wrap (Int.ofNat l)=l:=wrap_small (by omega);have hw2:IntKind.i64.wrap (Int.ofNat c)=c:=wrap_small c5;refine ⟨_,w.alloc (.cells (rep c z.cells.toList).toArray e),snoc_le σ (w.heap.size,0),by simp,?_,.slice (some ⟨w.heap.size,0,none⟩) l c,by simp [conc,snoc_get],?_⟩
         · exact H.row (rep c te.zero) (rep c z.cells.toList) e (concL_rep (hzero σ) c)
         · have hbig:¬((i.bytes:Int)*(c:Int) > 2 ^ 48):=by
            rw [hby];have:=Int.ofNat_le.2 c4;rw [Int.natCast_mul] at this;omega
           simp only [Instr.makeSlice,Sem.run_bind,run_underlying hd,Result.andThen_ok,asInt,asIntOf,Sem.run_pure,run_typeInfo' hi,hw1,hw2]
           have t1:(decide ((c:Int)<0) || decide ((i.bytes:Int)*(c:Int) > 2 ^ 48))=false:=by
            simp only [Bool.or_eq_false_iff,decide_eq_false_iff_not];exact ⟨by omega,hbig⟩
           rw [t1]
           have t2:(false || decide ((l:Int)<0) || decide ((l:Int) > (c:Int)))=false:=by
            rw [decide_eq_false (by omega),decide_eq_false (by omega)]
            rfl
           simp only [t2,Bool.false_eq_true,if_false,Sem.run_bind,run_askRoom,Result.andThen_ok,run_sizeOf' hi,Int.toNat_natCast]
           have h0:¬c*i.size=0:=by
            intro h
            rcases Nat.mul_eq_zero.1 h with h | h<;>omega
           simp only [h0,if_false,Sem.run_bind,run_zeroValue' hi hz,Result.andThen_ok,Sem.run_pure,newRow,run_newObj];rw [hzz]
           rfl
       · cases he
     · cases he
   · cases he
 · cases he
def noKey (k:IntKind) (a:Int):List (SV×SV)→Bool
 | []=>true
 | (.int j b,_)::l=>if k=j then (if a=b then false else noKey k a l) else false
 | _=>false
theorem entsOf_snoc:∀{l:List (SV×SV)} {n:Nat} {es:List MapEntry} {k v:SV} {K V:Value},entsOf σ l n=some es→conc σ k=some K→conc σ v=some V→entsOf σ (l++[(k,v)]) n=some (es++[⟨K,V,n+l.length⟩])
 | [],n,es,k,v,K,V,h,hk,hv=>by
   simp only [entsOf,Option.some.injEq] at h;subst h;simp [entsOf,hk,hv]
 | (k0,v0)::l,n,es,k,v,K,V,h,hk,hv=>by
  simp only [entsOf,Option.bind_eq_some_iff,Option.map_eq_some_iff] at h;obtain ⟨k1,hk1,v1,hv1,es1,hes1,rfl⟩:=h;have:=entsOf_snoc hes1 hk hv;simp only [List.cons_append,entsOf,hk1,hv1,Option.bind_some,this,Option.map_some,List.length_cons,Option.some.injEq];simp;omega
theorem findNow_noKey {d:TypeDesc} (k':IntKind) (hd:d=.int k') {k:IntKind} {a:Int}:∀{l:List (SV×SV)} {n i:Nat} {es:List MapEntry},entsOf σ l n=some es→noKey k a l=true→Instr.findNow d (.int k a) es i=some none
 | [],n,i,es,h,_=>by
   simp only [entsOf,Option.some.injEq] at h;subst h
   rfl
 | (x,v)::l,n,i,es,h,hk=>by
  simp only [entsOf,Option.bind_eq_some_iff,Option.map_eq_some_iff] at h;obtain ⟨k1,hk1,v1,hv1,es1,hes1,rfl⟩:=h;subst hd;unfold noKey at hk
  split at hk
  · rename_i heq;cases heq
  · rename_i j b v' l' heq
    cases heq;simp only [conc,Option.some.injEq] at hk1;subst hk1
    split at hk
    · rename_i hj
      subst hj
      split at hk
      · cases hk
      · rename_i hab
        have:(a==b)=false:=by simpa using hab
        simp only [Instr.findNow,Instr.sameNow,if_true,this];exact findNow_noKey k' rfl hes1 hk
    · cases hk
  · cases hk
def evInsert (B:Tab) (h:Hp) (t:TypeId) (m k v:SV):Option Hp :=
 match m,k,B.T t with
 | .map id,.int j a,some ti=>match ti.d with
   | .map kt _=>match B.T kt with
     | some tk=>match tk.d with
       | .int _=>match h.get id with
         | some (.map ents)=>if noKey j a ents then some (h.set id (.map (ents++[(.int j a,v)]))) else none
         | _=>none
       | _=>none
     | none=>none
   | _=>none
 | _,_,_=>none
theorem evInsert_ok {B:Tab} {h h':Hp} {t:TypeId} {m k v:SV} {M K V:Value} (hB:TabOk P W σ.op B) (H:HRel W σ h w) (hm:conc σ m=some M) (hk:conc σ k=some K) (hv:conc σ v=some V)
 (he:evInsert B h t m k v=some h'):∃w',(Instr.mapUpdate t M K V).run P w=.ok () w'∧HRel W σ h' w':=by
 unfold evInsert at he
 split at he
 · rename_i id j a ti hti
   have hd:=hB.under _ _ hti
   split at he
   · rename_i kt vt htd
     rw [htd] at hd
     split at he
     · rename_i tk htk
       have hkd:=hB.under _ _ htk
       split at he
       · rename_i kk hkk
         rw [hkk] at hkd
         split at he
         · rename_i ents ho
           split at he
           · rename_i hno
             cases he;obtain ⟨b,K0,es,h1,h2,h3⟩:=H.obj id _ ho;simp only [conc,h1,Option.map_some,Option.some.injEq] at hm hk;subst hm;subst hk;refine ⟨{w with heap:=w.heap.setIfInBounds b (.map (es.toArray.push {key:=.int j a,val:=V,born:=ents.length}) (ents.length+1))},?_,?_⟩
             · have hfind:=findNow_noKey (i:=0) kk rfl h3 hno
               have hck:∀n,(Instr.checkKey false (n+1) kt (.int j a)).run P w=.ok () w:=by
                intro n;simp [Instr.checkKey,run_underlying hkd]
               have hck':=hck 9999;simp only [Instr.mapUpdate,Sem.run_bind,run_underlying hd,Result.andThen_ok]
               have hg:(getObj b).run P w=.ok (.map es.toArray ents.length) w:=by
                simp [getObj,Sem.run,h2]
               rw [hg];simp only [Result.andThen_ok,Sem.run_bind];rw [show (10000:Nat)=9999+1 from rfl,hck'];simp only [Result.andThen_ok,Instr.findKey,Sem.run_bind,run_underlying hkd,hfind,Sem.run_pure];simp [setObj,Sem.run,h2]
             · have hlt:=(Array.getElem?_eq_some_iff.1 h2).1
               have hW:=H.own id _ b K0 ho h1;refine H.turn ho h1 ⟨rfl,rfl,rfl,by simp,fun k hk=>?_⟩ (fun k hk=>?_) ?_
               · simp only [Array.getElem?_setIfInBounds]
                 rw [if_neg (by omega)]
               · simp only [Array.getElem?_setIfInBounds]
                 rw [if_neg (Ne.symm hk)]
               · refine ⟨b,K0,es++[⟨.int j a,V,0+ents.length⟩],h1,?_,entsOf_snoc h3 rfl hv⟩
                 simp [hlt]
           · cases he
         · cases he
       · cases he
     · cases he
   · cases he
 · cases he
def evCopy (B:Tab) (h:Hp) (t:TypeId) (d s:SV):Option (SV×Hp) :=
 match B.T t with
 | some ti=>match ti.d with
   | .slice e=>match B.T e with
     | some te=>match sliceCells h te.size s,d with
       | some (n,l),.slice id off es len _=>if Nat.beq es te.size then match h.get id with
          | some (.row cells op) =>
            let m:=Nat.min n len
            let l':=l.take (m*es)
            if l'.all SV.one&&Nat.ble (off*es+l'.length) cells.length then some (.int .i64 m,h.set id (.row (setRange cells (off*es) l') op)) else none
          | _=>none
         else none
       | _,_=>none
     | none=>none
   | _=>none
 | none=>none
theorem evCopy_ok {B:Tab} {h h':Hp} {t u ty:TypeId} {d s y:SV} {D S:Value} (hB:TabOk P W σ.op B) (H:HRel W σ h w) (hd:conc σ d=some D) (hs:conc σ s=some S) (he:evCopy B h t d s=some (y,h')) :
 ∃w' V,conc σ y=some V∧HRel W σ h' w'∧(Builtin.copy_ #[t,u] ty #[D,S]).run P w=.ok V w':=by
 unfold evCopy at he
 split at he
 · rename_i ti hti
   have htd':=hB.under _ _ hti
   split at he
   · rename_i e htd
     rw [htd] at htd'
     split at he
     · rename_i te hte
       obtain ⟨i,z,hi,hsz,hby,hz,_,hzero⟩:=hB.info _ _ hte
       split at he
       · rename_i n l id off es len cap hsl
         obtain ⟨xb,xc,vl,rfl,hvl,hvlen,hfirst,hnone,hcells⟩:=sliceCells_ok (P:=P) H hs hsl
         split at he
         · rename_i hes
           have hes:=Nat.eq_of_beq_eq_true hes
           split at he
           · rename_i cells op ho
             simp only at he
             split at he
             · rename_i hc
               simp only [Bool.and_eq_true] at hc;have hle:=Nat.le_of_ble_eq_true hc.2;cases he;obtain ⟨b,K,w',g1,g2,g3⟩:=H.write (P:=P) ho (off:=off*es) (concL_take (Nat.min n len*es) hvl) hc.1 hle;simp only [conc,g1,Option.map_some,Option.some.injEq] at hd;subst hd;refine ⟨w',.int .i64 (Nat.min n len),rfl,g3,?_⟩;have hf:=hfirst w (fun k _=>rfl) (Nat.min n len) (Nat.min_le_left _ _);rw [←hes] at hf
               have hst:=g2 0 (Nat.zero_le _);rw [Nat.sub_zero] at hst
               have hsz':i.size=es:=by omega
               simp only [Builtin.copy_,List.getElem?_toArray,List.getElem?_cons_zero,List.getElem?_cons_succ,Sem.run_bind,run_underlying htd',Result.andThen_ok,Builtin.lenOf,Sem.run_pure,run_sizeOf' hi,hsz'];rw [hf];simp only [Result.andThen_ok,Sem.run_bind];rw [hst];simp [goInt]
             · cases he
           · cases he
         · cases he
       · cases he
     · cases he
   · cases he
 · cases he
end
end
end Go.Proofs.YtjmiaemabhlnjaaGreatDoor.Sym
end
