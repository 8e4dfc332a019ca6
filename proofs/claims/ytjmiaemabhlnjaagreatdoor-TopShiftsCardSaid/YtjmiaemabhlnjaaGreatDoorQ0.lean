/- A part of the proof of TopShifts. -/
import Derived.Test.YtjmiaemabhlnjaaGreatDoorProg
import Derived.WalkKit
import Derived.KernelRfl
import Derived.OwnWalk
import Derived.Maps.AppendAt
import Derived.Laws.OwnMore
import Derived.Deep.QuietTactic
import Derived.BigQuiet
import Derived.Laws.StructEq
import Derived.Shelf.Slices.Reverse
import Derived.Lib.OwnBridge
import Derived.Lib.Walk
import Derived.Lib.SliceRun
import Derived.Deep.RegionHeld3
import Derived.Laws.CopyOwn
import Derived.Laws.IdiomCopy
import Derived.Deep.RegionLaw
section
set_option linter.all false
set_option maxRecDepth 20000
namespace Go.Proofs.YtjmiaemabhlnjaaGreatDoor.Chains
open Go Go.RowKit
structure Aside (p:Prop):Prop where
 out:p
def intOf:Value→Int | .int _ n=>n | _=>0
theorem infoI:(Tryz.prog.info? 3).map (fun i=>(i.zero,i.size,i.bytes))=some (some (.int .i64 0),1,8):=by kernel_rfl
theorem own_made (w:World) (T:TypeId) (size:Nat) (base:Nat) (hb:base≤w.heap.size):(w.alloc (.cells #[] T)).ownsRow base T size (.slice (some ⟨w.heap.size,0,none⟩) 0 0) 0 [] :=
 ⟨by simp,.inr ⟨w.heap.size,0,#[],rfl,hb,heap_alloc_new w _,Nat.le_refl _,by decide,by simp,by simp⟩⟩
def sitesTo (b:List Nat) (k:Nat):List Nat:=(List.range k).filter fun i=>b.getD i 0%2==1
theorem sitesTo_succ (b:List Nat) (k:Nat):sitesTo b (k+1)=if b.getD k 0%2=1 then sitesTo b k++[k] else sitesTo b k:=by
 unfold sitesTo;rw [List.range_succ,List.filter_append]
 by_cases h:b.getD k 0%2=1
 · simp only [List.filter_cons,List.filter_nil,if_pos h,h,beq_self_eq_true,if_true]
 · have:(b.getD k 0%2==1)=false:=by simpa using h
   simp only [List.filter_cons,List.filter_nil,if_neg h,this,Bool.false_eq_true,if_false,List.append_nil]
theorem sitesTo_le (b:List Nat) (k:Nat):(sitesTo b k).length≤k:=by
 have:=List.length_filter_le (fun i=>b.getD i 0%2==1) (List.range k)
 simpa [sitesTo] using this
def ints (l:List Nat):List Value:=l.map fun (n:Nat)=>.int .i64 (n:Int)
theorem and1:((List.range 256).all fun x=>bits .and .u8 (x:Int) 1==((x%2:Nat):Int))=true:=by kernel_rfl
theorem and1_at {x:Nat} (h:x<256):bits .and .u8 (x:Int) 1=((x%2:Nat):Int):=eq_of_beq (List.all_eq_true.1 and1 x (List.mem_range.2 h))
theorem sites_any (w:World) (A:Option Addr) (lb cb n:Nat) (b:List Nat) (hn:n≤40) (hl:b.length=lb) (hlc:lb≤cb) (h63:lb≤9223372036854775807)
 (hb:∀ad,A=some ad→∀(i x:Nat),b[i]? = some x→w.cell? (ad.add i)=some (.int .u8 (x:Int))) (hnil:A=none→lb=0) (h256:∀x∈b,x<256) :
 Calls Tryz.prog 28 #[.slice A lb cb,.int .i64 n] w fun e w'=>∃v,e=.returned v∧w'.ownsRow w.heap.size 3 1 v (sitesTo b (min n lb)).length (ints (sitesTo b (min n lb)))∧Below w.heap.size w w':=by
 obtain ⟨i0,hi,hz0,hz1,hz2⟩:=info_parts infoI;have HB:=Aside.mk hb;have HL:=Aside.mk hl;have H256:=Aside.mk h256;clear hb h256;have o0:=own_made w 3 1 w.heap.size (Nat.le_refl _);have b0:=(Below.refl w.heap.size w).alloc (Nat.le_refl _) (.cells #[] 3);have HO:=Aside.mk o0;have HBW:=Aside.mk b0;clear o0 b0;go_enter Tryz.func28,Tryz.ntmps28
 go_wp2_with fail
 go_loopw [5,6] (fun v i wr=>∃k:Nat,i=.int .i64 k∧k≤min n lb∧Aside (wr.ownsRow w.heap.size 3 1 v (sitesTo b k).length (ints (sitesTo b k)))∧Aside (Below w.heap.size w wr)) (fun _ i _=>min n lb - (intOf i).toNat)
 case atStart=>exact ⟨0,rfl,Nat.zero_le _,⟨by simpa [sitesTo,ints] using HO.out⟩,HBW⟩
 case round =>
  obtain ⟨k,rfl,hk,HK,HW⟩:=hrel
  by_cases hlt:k<min n lb
  · obtain ⟨x,hx⟩:∃x,b[k]? = some x:=⟨_,List.getElem?_eq_getElem (by omega)⟩
    obtain ⟨ad,rfl⟩:∃ad,A=some ad:=by
     cases A with
     | some ad=>exact ⟨ad,rfl⟩
     | none=>have:=hnil rfl;omega
    have hc:=HB.out ad rfl k x hx
    have hkn:k<n:=by omega
    have hkl:k<lb:=by omega
    have hkc:k<cb:=by omega
    have hcell:wr.cell? (ad.add k)=some (.int .u8 (x:Int)):=by
     rw [HW.out.cell (World.block_lt_of_cell? _ _ hc)];exact hc
    have HX:=Aside.mk hx;have HLT:=Aside.mk hlt;have HKK:=Aside.mk hk;clear hc hx hlt hk hl
    by_cases hodd:x%2=1
    · have hle:=sitesTo_le b k
      have hws:=HW.out.size
      have hk40:k<40:=by omega
      have hbit:bits .and .u8 (x:Int) 1=1:=by
       rw [and1_at (H256.out x (List.mem_of_getElem? HX.out)),hodd];rfl
      have hgd:b.getD k 0=x:=by rw [List.getD_eq_getElem?_getD,HX.out];rfl
      have hS:sitesTo b (k+1)=sitesTo b k++[k]:=by rw [sitesTo_succ,hgd,if_pos hodd]
      have HS:=Aside.mk hS;clear hS hgd
      go_wp2_with (first
       | (at_builtin;refine wpList_append_own_at _ rfl _ _ 31 rfl w.heap.size 3 i0 (.int .i64 0) 1 8 Tryz.underlying31 hi hz0 hz1 hz2 rfl (by decide) _ _ _ rfl (HK.out.alloc _) ⟨wr.heap.size,0,none⟩ 1 1 [.int .i64 (k:Int)] rfl rfl (cell_one_new _ _ _) (ints_oneCell .i64 [(k:Int)]) (by unfold maxLen;omega) (by omega) (by simp;omega) ?_;intro v' w1 hown' hgrow hnil hloc)
       | go_in)
      have hm:=HLT.out;refine ⟨⟨k+1,by simp,by omega,⟨?_⟩,⟨(HW.out.alloc hws _).grown hgrow (by simp;omega) (fun g hg=>?_)⟩⟩,?_⟩
      · rw [HS.out]
        simpa [ints] using hown'
      · exact (HK.out.lt g hg).1
      · simp only [intOf]
        omega
    · have hbit:bits .and .u8 (x:Int) 1=0:=by
       have h0:x%2=0:=by omega
       rw [and1_at (H256.out x (List.mem_of_getElem? HX.out)),h0];rfl
      have hgd:b.getD k 0=x:=by rw [List.getD_eq_getElem?_getD,HX.out];rfl
      have hS:sitesTo b (k+1)=sitesTo b k:=by rw [sitesTo_succ,hgd,if_neg hodd]
      have HS:=Aside.mk hS;clear hS hgd;go_wp2;have hm:=HLT.out;refine ⟨⟨k+1,by simp,by omega,⟨by rw [HS.out];exact HK.out⟩,HW⟩,?_⟩;simp only [intOf];omega
  · have hkm:k=min n lb:=by omega
    have HKM:=Aside.mk hkm
    have hor:¬(k<n)∨(k<n∧¬(k<lb)):=by omega
    clear hkm hlt hk
    rcases hor with h | ⟨h0,h⟩
    · go_wp2
      go_ret;rw [←HKM.out];exact ⟨_,rfl,HK.out,HW.out⟩
    · go_wp2
      go_ret;rw [←HKM.out];exact ⟨_,rfl,HK.out,HW.out⟩
structure Bl (W w:World):Prop where mk::(out:Below W.heap.size W w)
theorem Bl.then {W w w':World} (h:Bl W w) (k:Below w.heap.size w w'):Bl W w' :=
 ⟨h.out.trans ⟨k.os,k.tape,k.output,k.size,fun i hi=>k.block i (Nat.lt_of_lt_of_le hi h.out.size)⟩⟩
theorem Bl.trans {W w w':World} (h:Bl W w) (k:Bl w w'):Bl W w':=h.then k.out
theorem Bl.drew {W w:World} (h:Bl W w):Bl W w.drew:=⟨h.out.drew⟩
theorem Bl.alloc {W w:World} (h:Bl W w) (o:Obj):Bl W (w.alloc o):=⟨h.out.alloc h.out.size o⟩
theorem Bl.refl (W:World):Bl W W:=⟨Below.refl _ _⟩
theorem Bl.cell {W w:World} (h:Bl W w) {a:Addr} {v:Value} (hc:W.cell? a=some v):w.cell? a=some v :=
 (h.out.cell (World.block_lt_of_cell? W a hc)).trans hc
theorem Bl.puts {W w:World} (h:Bl W w) {p:Addr} (hp:W.heap.size≤p.block) (v:Value):Bl W (w.setCell p v):=⟨h.out.setCell hp v⟩
theorem Bl.grow {W wr w2:World} {row:Option Nat} (h:Bl W wr) (hg:wr.grownBy w2 row) (hr:∀g,row=some g→W.heap.size≤g):Bl W w2 :=
 ⟨h.out.grown hg h.out.size hr⟩
theorem own_bl {w w':World} {base:Nat} {e:TypeId} {size n:Nat} {v:Value} {xs:List Value} (h:w.ownsRow base e size v n xs) (k:Bl w w'):w'.ownsRow base e size v n xs:=by
 obtain ⟨h1,h2⟩:=h;refine ⟨h1,?_⟩
 rcases h2 with h2 | ⟨g,cap,cur,hv,hg,hh,r⟩
 · exact .inl h2
 · refine .inr ⟨g,cap,cur,hv,hg,?_,r⟩
   have hlt:g<w.heap.size:=by
    rcases Nat.lt_or_ge g w.heap.size with h | h
    · exact h
    · rw [Array.getElem?_eq_none h] at hh;cases hh
   rw [k.out.block g hlt];exact hh
def u32s (l:List Int):List Value:=l.map (Value.int .u32)
structure Rd (w:World) (A:Option Addr) (c:Nat) (l:List Int):Prop where
 le:l.length≤c
 mx:c≤maxLen
 nil:A=none→l=[]∧c=0
 cells:∀ad,A=some ad→∀j x,l[j]? = some x→w.cell? (ad.add j)=some (.int .u32 x)
theorem Rd.keep {w w':World} {A:Option Addr} {c:Nat} {l:List Int} (h:Rd w A c l) (k:Bl w w'):Rd w' A c l :=
 ⟨h.le,h.mx,h.nil,fun ad ha j u hj=>k.cell (h.cells ad ha j u hj)⟩
theorem Rd.take {w:World} {A:Option Addr} {c:Nat} {l:List Int} (h:Rd w A c l) (k:Nat):Rd w A c (l.take k) :=
 ⟨Nat.le_trans (by simp;omega) h.le,h.mx,fun e=>by obtain ⟨rfl,hc⟩:=h.nil e;exact ⟨by simp,hc⟩,fun ad ha j u hj=>h.cells ad ha j u (by
   rw [List.getElem?_take] at hj
   split at hj
   · exact hj
   · cases hj)⟩
structure Ow (w:World) (base g n cap:Nat) (l:List Int):Prop where
 len:l.length=n
 le:n≤cap
 mx:cap≤maxLen
 own:0<n→base≤g∧w.ownsRow base 56 1 (.slice (some ⟨g,0,none⟩) n cap) n (u32s l)
theorem Ow.keep {w w':World} {base g n cap:Nat} {l:List Int} (h:Ow w base g n cap l) (k:Bl w w'):Ow w' base g n cap l :=
 ⟨h.len,h.le,h.mx,fun hn=>⟨(h.own hn).1,own_bl (h.own hn).2 k⟩⟩
theorem Ow.down {w:World} {base b2 g n cap:Nat} {l:List Int} (h:Ow w base g n cap l) (hb:b2≤base):Ow w b2 g n cap l :=
 ⟨h.len,h.le,h.mx,fun hn=>⟨Nat.le_trans hb (h.own hn).1,by
   obtain ⟨h1,h2⟩:=(h.own hn).2;refine ⟨h1,?_⟩
   rcases h2 with h2 | ⟨g',cap',cur,hv,hg,r⟩
   · exact .inl h2
   · exact .inr ⟨g',cap',cur,hv,Nat.le_trans hb hg,r⟩⟩⟩
theorem Ow.at {w:World} {base g n cap:Nat} {l:List Int} (h:Ow w base g n cap l) {j:Nat} {x:Int} (hx:l[j]? = some x):w.cell? ⟨g,j,none⟩=some (.int .u32 x)∧w.frozen? ⟨g,j,none⟩=false∧base≤g:=by
 have hj:j<n:=by rw [←h.len];exact (List.getElem?_eq_some_iff.1 hx).1
 obtain ⟨hb,ho⟩:=h.own (by omega);refine ⟨?_,ho.frozenAt j,hb⟩;rw [ho.cellAt j (by omega)];simp [u32s,List.getElem?_map,hx]
theorem Ow.put {w:World} {base g n cap:Nat} {l:List Int} (h:Ow w base g n cap l) (j:Nat) (x:Int):Ow (w.setCell ⟨g,j,none⟩ (.int .u32 x)) base g n cap (l.set j x) :=
 ⟨by simpa using h.len,h.le,h.mx,fun hn=>⟨(h.own hn).1,by
   have:=((h.own hn).2.stored j (.int .u32 x)).1
   simpa [u32s,List.map_set] using this⟩⟩
theorem Ow.rd {w:World} {base g n cap:Nat} {l:List Int} (h:Ow w base g n cap l):Rd w (some ⟨g,0,none⟩) cap l :=
 ⟨by rw [h.len];exact h.le,h.mx,fun e=>(by cases e),fun ad ha j x hx=>by
   obtain rfl:=Option.some.inj ha
   have e:(⟨g,0,none⟩:Addr).add j=⟨g,j,none⟩:=by unfold Addr.add;split<;>simp_all
   rw [e]
   exact (h.at hx).1⟩
theorem or16:((List.range 161).all fun x=>(List.range 41).all fun h=>bits .or .u32 ((x:Int)*65536) (h:Int)==(x:Int)*65536+(h:Int))=true:=by kernel_rfl
theorem or16_at {x:Int} {h:Nat} (h0:0≤x) (h1:x≤160) (h2:h≤40):bits .or .u32 (x*65536) (h:Int)=x*65536+(h:Int):=by
 obtain ⟨n,rfl⟩:∃n:Nat,x=n:=⟨x.toNat,by omega⟩;exact eq_of_beq (List.all_eq_true.1 (List.all_eq_true.1 or16 n (List.mem_range.2 (by omega))) h (List.mem_range.2 (by omega)))
structure RdI (w:World) (A:Option Addr) (c:Nat) (l:List Nat):Prop where
 le:l.length≤c
 nil:A=none→l=[]∧c=0
 cells:∀ad,A=some ad→∀j (x:Nat),l[j]? = some x→w.cell? (ad.add j)=some (.int .i64 (x:Int))
theorem RdI.keep {w w':World} {A:Option Addr} {c:Nat} {l:List Nat} (h:RdI w A c l) (k:Bl w w'):RdI w' A c l :=
 ⟨h.le,h.nil,fun ad ha j u hj=>k.cell (h.cells ad ha j u hj)⟩
theorem RdI.own {w:World} {base:Nat} {v:Value} {l:List Nat} (h:w.ownsRow base 3 1 v l.length (ints l)):∃A c,v=.slice A l.length c∧RdI w A c l:=by
 obtain ⟨h1,h2⟩:=h
 rcases h2 with ⟨rfl,h0⟩ | ⟨g,cap,cur,rfl,hg,hh,hl,hm,hs,ht⟩
 · have:l=[]:=List.eq_nil_of_length_eq_zero h0
   subst this;exact ⟨none,0,rfl,⟨by simp,fun _=>⟨rfl,rfl⟩,fun _ h=>(by cases h)⟩⟩
 · refine ⟨_,cap,rfl,⟨hl,fun h=>(by cases h),fun ad ha j u hj=>?_⟩⟩
   obtain rfl:=Option.some.inj ha;have ho:w.ownsRow base 3 1 (.slice (some ⟨g,0,none⟩) l.length cap) l.length (ints l):=⟨h1,.inr ⟨g,cap,cur,rfl,hg,hh,hl,hm,hs,ht⟩⟩;exact ho.cells (g:=g) rfl j _ (by simp [ints,List.getElem?_map,hj])
theorem Bl.dN {W w:World} (h:Bl W w) {n:Nat}:Bl W (w.drewN n):=⟨⟨h.out.os,h.out.tape,h.out.output,h.out.size,h.out.block⟩⟩
def flat (l:List (ByteArray×Int)):List Value:=l.flatMap fun x=>[.string x.1,.int .i64 x.2]
theorem flat_len:∀l:List (ByteArray×Int),(flat l).length=l.length*2
 | []=>rfl
 | x::l=>by
   have:=flat_len l;simp only [flat,List.flatMap_cons,List.length_append,List.length_cons,List.length_nil] at *;omega
theorem flat_append (a b:List (ByteArray×Int)):flat (a++b)=flat a++flat b:=by simp [flat]
theorem flat_at:∀(l:List (ByteArray×Int)) (i:Nat) (x:ByteArray×Int),l[i]? = some x→(flat l)[i*2]? = some (.string x.1)∧(flat l)[i*2+1]? = some (.int .i64 x.2)
 | [],i,x,h=>by simp at h
 | y::l,0,x,h=>by
   simp at h;subst h;exact ⟨rfl,rfl⟩
 | y::l,i+1,x,h=>by
   have ih:=flat_at l i x (by simpa using h);have e:flat (y::l)=.string y.1::.int .i64 y.2::flat l:=rfl;rw [e,show (i+1)*2=i*2+1+1 by omega];exact ih
theorem flat_one (l:List (ByteArray×Int)):∀u∈flat l,u.oneCell'=true:=by
 intro u hu;obtain ⟨x,_,hx⟩:=List.mem_flatMap.1 hu;simp at hx
 rcases hx with rfl | rfl<;>rfl
theorem add_one (ad:Addr) (m:Nat):ad.add (m+1)=⟨(ad.add m).block,(ad.add m).off+1,none⟩:=by
 unfold Addr.add
 by_cases h:m=0
 · subst h;simp
 · rw [if_neg (by omega),if_neg h]
   simp [Nat.add_assoc]
structure RdS (w:World) (A:Option Addr) (c:Nat) (l:List (ByteArray×Int)):Prop where
 le:l.length≤c
 nil:A=none→l=[]∧c=0
 cells:∀ad,A=some ad→∀j u,(flat l)[j]? = some u→w.cell? (ad.add j)=some u
theorem RdS.keep {w w':World} {A:Option Addr} {c:Nat} {l:List (ByteArray×Int)} (h:RdS w A c l) (k:Bl w w'):RdS w' A c l :=
 ⟨h.le,h.nil,fun ad ha j u hj=>k.cell (h.cells ad ha j u hj)⟩
theorem RdS.at {w:World} {ad:Addr} {c:Nat} {l:List (ByteArray×Int)} (h:RdS w (some ad) c l) {i:Nat} {x:ByteArray×Int} (hi:l[i]? = some x) :
 w.cell? (ad.add (i*2))=some (.string x.1)∧w.cell? ⟨(ad.add (i*2)).block,(ad.add (i*2)).off+1,none⟩=some (.int .i64 x.2):=by
 obtain ⟨h1,h2⟩:=flat_at l i x hi;exact ⟨h.cells ad rfl _ _ h1,by rw [←add_one];exact h.cells ad rfl _ _ h2⟩
end Go.Proofs.YtjmiaemabhlnjaaGreatDoor.Chains
end
section
set_option linter.all false
set_option maxRecDepth 100000
namespace Go.Proofs
open Go.Shelf
def Tryz.lays112_ren:Go.Shelf.Ren:=⟨fun | 112=>40 | n=>n,fun | 28=>31 | 3=>3 | 4=>4 | 0=>0 | n=>n,fun | n=>n⟩
end Go.Proofs
namespace Go.Proofs.YtjmiaemabhlnjaaGreatDoor.Chains
open Go Go.RowKit
theorem infoU:(Tryz.prog.info? 56).map (fun i=>(i.zero,i.size,i.bytes))=some (some (.int .u32 0),1,4):=by kernel_rfl
theorem u32s_one (l:List Int):∀u∈u32s l,u.oneCell'=true:=by
 intro u hu;obtain ⟨x,_,rfl⟩:=List.mem_map.1 hu
 rfl
theorem Rd.vals {w:World} {ad:Addr} {c:Nat} {l:List Int} (h:Rd w (some ad) c l):∀j u,(u32s l)[j]? = some u→w.cell? (ad.add j)=some u:=by
 intro j u hj;rw [u32s,List.getElem?_map] at hj
 cases hq:l[j]? with
 | none=>rw [hq] at hj;cases hj
 | some x =>
   rw [hq] at hj;obtain rfl:=Option.some.inj hj;exact h.cells ad rfl j x hq
theorem own_ow {w:World} {base n:Nat} {v:Value} {l:List Int} (h:w.ownsRow base 56 1 v n (u32s l)) (hv:v≠.slice none 0 0):∃g cap,v=.slice (some ⟨g,0,none⟩) n cap∧Ow w base g n cap l:=by
 obtain ⟨h1,h2⟩:=h
 rcases h2 with ⟨rfl,h0⟩ | ⟨g,cap,cur,rfl,hg,hh,hl,hm,hs,ht⟩
 · exact absurd rfl hv
 · exact ⟨g,cap,rfl,by simpa [u32s] using h1,hl,hm,fun _=>⟨hg,⟨h1,.inr ⟨g,cap,cur,rfl,hg,hh,hl,hm,hs,ht⟩⟩⟩⟩
set_option maxHeartbeats 2000000 in
theorem clone_any {w:World} {ad:Addr} {c:Nat} {l:List Int} (n:Nat) (hn:Aside (l.length=n)) (h:Aside (Rd w (some ad) c l)) (h63:n≤1000) :
 Calls Tryz.prog 39 #[.slice (some ad) n c] w fun e w'=>∃g cap,e=.returned (.slice (some ⟨g,0,none⟩) n cap)∧Ow w' w.heap.size g n cap l∧Bl w w':=by
 obtain ⟨i0,hi,hz0,hz1,hz2⟩:=info_parts infoU;have q22:∀(w:World) (a:Option Addr) (n c n' c':Nat),(binOp .eql 22 (.slice a n c) (.slice none n' c')).run Tryz.prog w=.ok (.bool a.isNone) w:=fun w a n c n' c'=>Lib.run_eql_slice_nil w _ _ a n c n' c' Tryz.underlying22;go_enter Tryz.func39,Tryz.ntmps39
 go_wp2_with (at_builtin;refine wpList_append_own_at _ rfl _ _ 22 rfl w.heap.size 56 i0 (.int .u32 0) 1 4 Tryz.underlying22 hi hz0 hz1 hz2 rfl (by decide) _ _ _ rfl (own_made w 56 1 w.heap.size (Nat.le_refl _)) ad n c (u32s l) rfl (by simp [u32s,hn.out]) (h.out.keep ((Bl.refl _).alloc _)).vals (u32s_one l) (by unfold maxLen;omega) (by omega) (by simp) ?_;intro v' w1 hown hgrow hnil hloc)
 go_wp2;go_ret;obtain ⟨g,cap,rfl,how⟩:=own_ow (by simpa using hown) (fun e=>by have:=(hnil.1 e).1;cases this);exact ⟨g,cap,rfl,how,((Bl.refl w).alloc _).grow hgrow (by intro k hk;have e:w.heap.size=k:=Option.some.inj hk;omega)⟩
end Go.Proofs.YtjmiaemabhlnjaaGreatDoor.Chains
end
section
set_option linter.all false
set_option maxRecDepth 20000
namespace Go.Proofs.YtjmiaemabhlnjaaGreatDoor.Chains
theorem snocInd {α:Type} {P:List α→Prop} (h0:P []) (h1:∀S s,P S→P (S++[s])) (S:List α):P S:=by
 have h:∀T:List α,P T.reverse:=by
  intro T
  induction T with
  | nil=>exact h0
  | cons a T ih=>rw [List.reverse_cons];exact h1 _ _ ih
 have:=h S.reverse
 rwa [List.reverse_reverse] at this
def step (p:List Int×Nat) (s:Nat):List Int×Nat:=(p.1.set s (p.1.getD s 0*65536+p.2),s+1)
def packL (w:List Int) (S:List Nat):List Int×Nat:=S.foldl step (w,0)
theorem packL_snoc (w:List Int) (S:List Nat) (s:Nat):packL w (S++[s])=step (packL w S) s:=by
 unfold packL;rw [List.foldl_append]
 rfl
theorem packL_head (w:List Int) (S:List Nat) (s:Nat) (h:∀x∈S,x<s):(packL w S).2≤s:=by
 induction S using snocInd with
 | h0=>simp [packL]
 | h1 S t _ =>
   rw [packL_snoc];have:=h t (by simp);simp [step];omega
theorem packL_other (w:List Int) (S:List Nat) (i:Nat) (h:i ∉ S):(packL w S).1[i]? = w[i]? := by
 induction S using snocInd with
 | h0=>rfl
 | h1 S s ih =>
   rw [packL_snoc];have h1:i ∉ S:=fun hm=>h (List.mem_append_left _ hm);have h2:s≠i:=fun e=>h (by subst e;simp)
   show ((packL w S).1.set s _)[i]? = _
   rw [List.getElem?_set_ne h2];exact ih h1
structure Rise (S:List Nat) (n:Nat):Prop where
 up:S.Pairwise (· < ·)
 lt:∀x∈S,x<n
def wasOf (S:List Nat) (k:Nat):Int:=if k=0 then -1 else (S.getD (k - 1) 0:Nat)
theorem wasOf_succ (S:List Nat) (k s:Nat) (h:S[k]? = some s):wasOf S (k+1)=s:=by
 unfold wasOf;rw [if_neg (by omega),Nat.add_sub_cancel,List.getD_eq_getElem?_getD,h]
 rfl
theorem rise_was {S:List Nat} {n:Nat} (hS:Rise S n) (k s:Nat) (h:S[k]? = some s):wasOf S k<s ∧ -1≤wasOf S k:=by
 unfold wasOf
 by_cases hk:k=0
 · rw [if_pos hk];omega
 · rw [if_neg hk]
   have hl:k<S.length:=(List.getElem?_eq_some_iff.1 h).1;have he:S[k]=s:=(List.getElem?_eq_some_iff.1 h).2;have hp:=List.pairwise_iff_getElem.1 hS.up (k - 1) k (by omega) hl (by omega)
   have:S.getD (k - 1) 0=S[k - 1]:=by rw [List.getD_eq_getElem?_getD,List.getElem?_eq_getElem (by omega)];rfl
   rw [this];omega
theorem rise_before {S:List Nat} {n:Nat} (hS:Rise S n) (k s:Nat) (h:S[k]? = some s):∀x∈S.take k,x<s:=by
 intro x hx;have hl:k<S.length:=(List.getElem?_eq_some_iff.1 h).1;have he:S[k]=s:=(List.getElem?_eq_some_iff.1 h).2;obtain ⟨i,hi,hxi⟩:=List.mem_iff_getElem.1 hx;rw [List.getElem_take] at hxi
 have hik:i<k:=by simp at hi;omega
 have hp:=List.pairwise_iff_getElem.1 hS.up i k (by omega) hl hik;omega
theorem take_snoc {α:Type} (S:List α) (k:Nat) (s:α) (h:S[k]? = some s):S.take (k+1)=S.take k++[s]:=by
 have hl:k<S.length:=(List.getElem?_eq_some_iff.1 h).1;have he:S[k]=s:=(List.getElem?_eq_some_iff.1 h).2;rw [List.take_succ_eq_append_getElem hl,he]
theorem pack_step (w:List Int) {S:List Nat} {n:Nat} (hS:Rise S n) (k s:Nat) (h:S[k]? = some s) (x:Int) (hx:w[s]? = some x) :
 (packL w (S.take k)).1[s]? = some x∧packL w (S.take (k+1))=((packL w (S.take k)).1.set s (x*65536+(packL w (S.take k)).2),s+1)∧(packL w (S.take k)).2≤s:=by
 have hb:=rise_before hS k s h;have hn:s ∉ S.take k:=fun hm=>Nat.lt_irrefl _ (hb s hm);have ho:=packL_other w (S.take k) s hn;rw [hx] at ho;refine ⟨ho,?_,packL_head w _ s hb⟩;rw [take_snoc S k s h,packL_snoc];simp [step,ho]
theorem rise_len {S:List Nat} {n:Nat} (hS:Rise S n):S.length≤n:=by
 have h:∀(S:List Nat) (m:Nat),S.Pairwise (· < ·)→(∀x∈S,m≤x∧x<n)→m≤n→S.length+m≤n:=by
  intro S
  induction S with
  | nil=>intro m _ _ h;simpa using h
  | cons a S ih =>
    intro m hp hl _;obtain ⟨h1,h2⟩:=List.pairwise_cons.1 hp;have ha:=hl a (by simp);have:=ih (a+1) h2 (fun x hx=>⟨h1 x hx,(hl x (by simp [hx])).2⟩) (by omega);simp;omega
 have:=h S 0 hS.up (fun x hx=>⟨Nat.zero_le _,hS.lt x hx⟩) (Nat.zero_le _);omega
end Go.Proofs.YtjmiaemabhlnjaaGreatDoor.Chains
end
section
set_option linter.all false
set_option maxRecDepth 20000
namespace Go.Proofs.YtjmiaemabhlnjaaGreatDoor.Chains
open Go Go.RowKit
set_option maxHeartbeats 4000000 in
theorem pack_any {w:World} {ad:Addr} {c:Nat} {B:Option Addr} {d:Nat} {l:List Int} {S:List Nat} (n m:Nat) (hn:Aside (l.length=n)) (hm:Aside (S.length=m)) (h:Aside (Rd w (some ad) c l)) (k:Aside (RdI w B d S)) (hS:Aside (Rise S n)) (h40:n≤40)
 (hx:Aside (∀s∈S,∀x,l[s]? = some x→0≤x∧x≤160)) :
 Calls Tryz.prog 14 #[.slice (some ad) n c,.slice B m d] w fun e w'=>∃g cap,e=.returned (.tuple #[.slice (some ⟨g,0,none⟩) n cap,.int .i64 (packL l S).2,.int .i64 0])∧Ow w' w.heap.size g n cap (packL l S).1∧Bl w w':=by
 have hmn:m≤40:=by have:=rise_len hS.out;have:=hm.out;omega
 have hmd:m≤d:=by have:=k.out.le;have:=hm.out;omega
 go_enter Tryz.func14,Tryz.ntmps14
 go_wp2_with fail
 go_loopw [7,16] (fun q i wr=>∃j:Nat,q=.int .i64 (wasOf S j)∧i=.int .i64 j∧j≤m∧Aside (Bl w wr)) (fun _ i _=>m - (intOf i).toNat)
 case atStart=>exact ⟨0,rfl,rfl,by omega,⟨Bl.refl _⟩⟩
 case round =>
  obtain ⟨j,rfl,rfl,hj,HB⟩:=hrel
  by_cases hlt:j<m
  · obtain ⟨s,hf⟩:∃s,S[j]? = some s:=⟨_,List.getElem?_eq_getElem (by have:=hm.out;omega)⟩
    obtain ⟨bd,rfl⟩:∃bd,B=some bd:=by
     cases B with
     | some bd=>exact ⟨bd,rfl⟩
     | none =>
       have:=(k.out.nil rfl).1;have h2:=hm.out;rw [this] at h2;simp at h2;omega
    have hc:=HB.out.cell (k.out.cells bd rfl j s hf);have hsn:=hS.out.lt s (List.mem_of_getElem? hf);obtain ⟨hw1,hw2⟩:=rise_was hS.out j s hf;have hw3:=Aside.mk (wasOf_succ S j s hf);generalize wasOf S j=q at hw1 hw2
    have hns:¬((s:Int)≤q):=by omega
    have hns2:¬(n≤s):=by omega
    have hns3:¬(65534<s):=by omega
    clear hf hw1 hw2
    go_wp2_with fail
    go_roundw
    case rel=>exact ⟨j+1,by rw [hw3.out],by go_num,by omega,HB⟩
    case measure=>simp [intOf];omega
  · have HCl:=Aside.mk (clone_any n hn ⟨h.out.keep HB.out⟩ (by omega:n≤1000))
    go_wp2_with (first
     | (with_reducible refine HCl.out.mono ?_;rintro e w1 ⟨g,cap,rfl,how,hbl⟩
        have HB1:=Aside.mk (HB.out.trans hbl);have HO:=Aside.mk (Ow.down how HB.out.out.size);have hnc:=how.le
        clear how hbl)
     | fail)
    go_loopw [11,39] (fun q i wr=>∃j:Nat,q=.int .i64 (packL l (S.take j)).2∧i=.int .i64 j∧j≤m∧Aside (Ow wr w.heap.size g n cap (packL l (S.take j)).1)∧Aside (Bl w wr)) (fun _ i _=>m - (intOf i).toNat)
    case atStart=>exact ⟨0,rfl,rfl,by omega,HO,HB1⟩
    case round =>
     obtain ⟨j,rfl,rfl,hj,HO2,HB2⟩:=hrel
     by_cases hlt:j<m
     · obtain ⟨s,hf⟩:∃s,S[j]? = some s:=⟨_,List.getElem?_eq_getElem (by have:=hm.out;omega)⟩
       obtain ⟨bd,rfl⟩:∃bd,B=some bd:=by
        cases B with
        | some bd=>exact ⟨bd,rfl⟩
        | none =>
          have:=(k.out.nil rfl).1;have h2:=hm.out;rw [this] at h2;simp at h2;omega
       have hc:=HB2.out.cell (k.out.cells bd rfl j s hf);have hsn:=hS.out.lt s (List.mem_of_getElem? hf);obtain ⟨x,hlx⟩:∃x,l[s]? = some x:=⟨_,List.getElem?_eq_getElem (by have:=hn.out;omega)⟩;obtain ⟨hx0,hx1⟩:=hx.out s (List.mem_of_getElem? hf) x hlx;obtain ⟨hp1,hp2,hp3⟩:=pack_step l hS.out j s hf x hlx;obtain ⟨hcc,hcf,hgb⟩:=HO2.out.at hp1;generalize (packL l (S.take j)).2=q at hp3 hp2;have HP:=Aside.mk hp2
       clear hf hlx hp1 hp2;have ho:=or16_at hx0 hx1 (show q≤40 by omega)
       go_wp2_with fail
       refine ⟨⟨j+1,by rw [HP.out];rfl,rfl,by omega,⟨by rw [HP.out];exact HO2.out.put s _⟩,⟨HB2.out.puts hgb _⟩⟩,by simp [intOf];omega⟩
     · have hjm:S.take j=S:=List.take_of_length_le (by have:=hm.out;omega)
       rw [hjm] at HO2;rw [hjm]
       go_wp2_with fail
       go_ret3
       exact ⟨g,cap,rfl,HO2.out,HB2.out⟩
structure Apart (w:World) (n g:Nat) (v:Value):Prop where
 ne:v.ownBlock≠some g
 lt:0<n→g<w.heap.size
theorem grown_set (w:World) (g i:Nat) (x:Value):w.grownBy (w.setCell ⟨g,i,none⟩ x) (some g) :=
 ⟨rfl,rfl,rfl,by simp,fun k _ hk=>heap_setCell_other w ⟨g,i,none⟩ k x (fun e=>hk (by simp [e]))⟩
theorem own_set {w:World} {base:Nat} {e:TypeId} {size n:Nat} {v:Value} {xs:List Value} (h:w.ownsRow base e size v n xs) {g:Nat} (hne:v.ownBlock≠some g) (i:Nat) (x:Value):(w.setCell ⟨g,i,none⟩ x).ownsRow base e size v n xs :=
 h.kept (grown_set w g i x) (.inr hne)
theorem Ow.lt {w:World} {base g n cap:Nat} {l:List Int} (h:Ow w base g n cap l) (hn:0<n):g<w.heap.size:=((h.own hn).2.lt g rfl).2
structure Box (w:World) (g:Nat) (x y z:Value):Prop where
 c0:w.cell? ⟨g,0,none⟩=some x
 c1:w.cell? ⟨g,1,none⟩=some y
 c2:w.cell? ⟨g,2,none⟩=some z
theorem Box.keep {w w':World} {g:Nat} {x y z:Value} (h:Box w g x y z) (k:Bl w w'):Box w' g x y z:=⟨k.cell h.c0,k.cell h.c1,k.cell h.c2⟩
theorem Box.new (w:World) (x y z:Value) (T:TypeId):Box (w.alloc (.cells #[x,y,z] T)) w.heap.size x y z :=
 ⟨by rw [World.cell?_alloc_at _ _ _ _ rfl];rfl,by rw [World.cell?_alloc_at _ _ _ _ rfl];rfl,by rw [World.cell?_alloc_at _ _ _ _ rfl];rfl⟩
structure RdN (w:World) (A:Option Addr) (c:Nat) (l:List ByteArray):Prop where
 le:l.length≤c
 nil:A=none→l=[]∧c=0
 cells:∀ad,A=some ad→∀j (x:ByteArray),l[j]? = some x→w.cell? (ad.add j)=some (.string x)
theorem RdN.keep {w w':World} {A:Option Addr} {c:Nat} {l:List ByteArray} (h:RdN w A c l) (k:Bl w w'):RdN w' A c l :=
 ⟨h.le,h.nil,fun ad ha j u hj=>k.cell (h.cells ad ha j u hj)⟩
inductive Hold (p:Prop):Prop where | mk (h:p):Hold p
theorem holdp {p:Prop} (h:Hold p):p:=by cases h;assumption
set_option linter.unusedSimpArgs false in
theorem append_none {P:Program} (t:TypeId) (ty:TypeId) (e:TypeId) (i:TypeInfo) (ht:P.underlying t=some (.slice e)) (hi:P.info? e=some i) (A:Option Addr) (n c d:Nat) (w:World) (hn:n≤c) :
 (Builtin.append_ #[t,t] ty #[.slice A n c,.slice none 0 d]).run P w=.ok (.slice A n c) w:=by
 cases A<;>simp [hn,storeCells,Builtin.append_,run_underlying ht,sizeOf,typeInfo,hi,Builtin.lenOf,Builtin.firstCells,loadCells,loadCellsFrom]
theorem append_u32 {ops:Array Oper} {rest:List Oper} {o:Oper} {a:Act} {w:World} {Q:Exit→Act→World→Prop} (hgd:o.guard=none) (s x:Operand)
 (ho:o.op=.call {callee:=.builtin .append,args:=#[s,x],argTypes:=#[22,22]})
 (base g:Nat) (hs:a.eval s=.slice (some ⟨g,0,none⟩) 0 0) (hown:w.ownsRow base 56 1 (.slice (some ⟨g,0,none⟩) 0 0) 0 [])
 (B:Option Addr) (m c:Nat) (xs:List Int) (hx:a.eval x=.slice B m c) (hm:xs.length=m) (hr:Rd w B c xs) (h63:m≤1000) (hbase:base≤w.heap.size)
 (h:∀g' cap w',Ow w' base g' m cap xs→w.grownBy w' (some g)→wpList Tryz.prog ops Q rest (a.put o.dst (.slice (some ⟨g',0,none⟩) m cap)) w') :
 wpList Tryz.prog ops Q (o::rest) a w:=by
 obtain ⟨i0,hi,hz0,hz1,hz2⟩:=info_parts infoU
 cases B with
 | none =>
   obtain ⟨rfl,rfl⟩:=hr.nil rfl
   have hm0:m=0:=by simpa using hm.symm
   subst hm0;refine wpList_plain hgd fun K hK=>?_;have hrun:=append_none (P:=Tryz.prog) 22 o.type 56 i0 Tryz.underlying22 hi (some ⟨g,0,none⟩) 0 0 0 w (Nat.le_refl _);unfold Oper.wp execOp;simp only [ho,resolve,invoke,builtin,Sem.run_bind,Sem.run_pure,Result.andThen_ok,List.map_toArray,List.map_cons,List.map_nil,hs,hx,hrun];exact hK _ _ (h g 0 w ⟨rfl,Nat.le_refl _,Nat.zero_le _,fun hn=>absurd hn (Nat.lt_irrefl _)⟩ ⟨rfl,rfl,rfl,Nat.le_refl _,fun _ _ _=>rfl⟩)
 | some ad =>
   refine wpList_append_own_at _ hgd s x 22 ho base 56 i0 (.int .u32 0) 1 4 Tryz.underlying22 hi hz0 hz1 hz2 rfl (by decide) _ 0 [] hs hown ad m c (u32s xs) hx (by simp [u32s,hm]) hr.vals (u32s_one xs) (by unfold maxLen;omega) (by omega) hbase ?_;intro v' w' h1 h2 h3 h4;obtain ⟨g',cap,rfl,how⟩:=own_ow (l:=xs) (by simpa using h1) (fun e=>by have:=(h3.1 e).1;cases this)
   have how':Ow w' base g' m cap xs:=by simpa using how
   have hh:=h g' cap w' how' h2
   simpa using hh
theorem Bl.blk {W w:World} (h:Bl W w) {k:Nat} (hk:k<W.heap.size):w.heap[k]? = W.heap[k]? := h.out.block k hk
structure Bx (w:World) (g:Nat) (x y z:Value):Prop where
 h:w.heap[g]? = some (.cells #[x,y,z] 34 (0,0))
theorem Bx.lt {w:World} {g:Nat} {x y z:Value} (h:Bx w g x y z):g<w.heap.size:=(Array.getElem?_eq_some_iff.1 h.h).1
theorem Bx.keep {w w':World} {g:Nat} {x y z:Value} (h:Bx w g x y z) (k:Bl w w'):Bx w' g x y z:=⟨by rw [k.blk h.lt];exact h.h⟩
theorem Bx.new (w:World) (x y z:Value):Bx (w.alloc (.cells #[x,y,z] 34)) w.heap.size x y z:=⟨heap_alloc_new w _⟩
theorem Bx.cell {w:World} {g:Nat} {x y z:Value} (h:Bx w g x y z):w.cell? ⟨g,0,none⟩=some x∧w.cell? ⟨g,1,none⟩=some y∧w.cell? ⟨g,2,none⟩=some z :=
 ⟨by rw [cell_of_row w g 0 _ _ (0,0) h.h];rfl,by rw [cell_of_row w g 1 _ _ (0,0) h.h];rfl,by rw [cell_of_row w g 2 _ _ (0,0) h.h];rfl⟩
theorem Bx.frz {w:World} {g:Nat} {x y z:Value} (h:Bx w g x y z) (j:Nat):w.frozen? ⟨g,j,none⟩=false:=frozen_of_row w g j _ _ h.h
theorem Bx.set0 {w:World} {g:Nat} {x y z:Value} (h:Bx w g x y z) (v:Value):Bx (w.setCell ⟨g,0,none⟩ v) g v y z:=⟨by rw [heap_setCell_same w g 0 _ _ v h.h];rfl⟩
theorem Bx.set1 {w:World} {g:Nat} {x y z:Value} (h:Bx w g x y z) (v:Value):Bx (w.setCell ⟨g,1,none⟩ v) g x v z:=⟨by rw [heap_setCell_same w g 1 _ _ v h.h];rfl⟩
theorem Bx.set2 {w:World} {g:Nat} {x y z:Value} (h:Bx w g x y z) (v:Value):Bx (w.setCell ⟨g,2,none⟩ v) g x y v:=⟨by rw [heap_setCell_same w g 2 _ _ v h.h];rfl⟩
theorem Bx.off {w:World} {g:Nat} {x y z:Value} (h:Bx w g x y z) {g':Nat} (hne:g'≠g) (i:Nat) (v:Value):Bx (w.setCell ⟨g',i,none⟩ v) g x y z :=
 ⟨by rw [heap_setCell_other w ⟨g',i,none⟩ g v (fun e=>hne (by simp [e]))];exact h.h⟩
theorem cell_off {w:World} {a:Addr} {u:Value} (hc:w.cell? a=some u) {g':Nat} (hne:a.block≠g') (i:Nat) (v:Value):(w.setCell ⟨g',i,none⟩ v).cell? a=some u:=by
 rw [World.cell?_of_block (heap_setCell_other w ⟨g',i,none⟩ a.block v (fun e=>hne (by simp [e])))];exact hc
theorem add_block (ad:Addr) (j:Nat):(ad.add j).block=ad.block:=by unfold Addr.add;split<;>rfl
theorem RdI.off {w:World} {A:Option Addr} {c:Nat} {l:List Nat} (h:RdI w A c l) {g':Nat} (hne:∀ad,A=some ad→ad.block≠g') (i:Nat) (v:Value):RdI (w.setCell ⟨g',i,none⟩ v) A c l :=
 ⟨h.le,h.nil,fun ad ha j u hj=>cell_off (h.cells ad ha j u hj) (by rw [add_block];exact hne ad ha) i v⟩
theorem RdS.off {w:World} {A:Option Addr} {c:Nat} {l:List (ByteArray×Int)} (h:RdS w A c l) {g':Nat} (hne:∀ad,A=some ad→ad.block≠g') (i:Nat) (v:Value):RdS (w.setCell ⟨g',i,none⟩ v) A c l :=
 ⟨h.le,h.nil,fun ad ha j u hj=>cell_off (h.cells ad ha j u hj) (by rw [add_block];exact hne ad ha) i v⟩
theorem Ow.off {w:World} {base g n cap:Nat} {l:List Int} (h:Ow w base g n cap l) {g':Nat} (hne:0<n→g≠g') (i:Nat) (v:Value):Ow (w.setCell ⟨g',i,none⟩ v) base g n cap l :=
 ⟨h.len,h.le,h.mx,fun hn=>⟨(h.own hn).1,own_set (h.own hn).2 (fun e=>hne hn (Option.some.inj e)) i v⟩⟩
theorem sites_rise (b:List Nat) (k n:Nat) (hk:k≤n):Rise (sitesTo b k) n :=
 ⟨List.Pairwise.filter _ List.pairwise_lt_range,fun x hx=>by
   have:=(List.mem_filter.1 hx).1;have:=List.mem_range.1 this
   omega⟩
theorem sites_rd (w:World) (A:Option Addr) (lb cb n:Nat) (b:List Nat) (hn:n≤40) (hl:b.length=lb) (hlc:lb≤cb) (h63:lb≤9223372036854775807)
 (hb:∀ad,A=some ad→∀(i x:Nat),b[i]? = some x→w.cell? (ad.add i)=some (.int .u8 (x:Int))) (hnil:A=none→lb=0) (h256:∀x∈b,x<256) (S:List Nat) (ms:Nat) (hS:sitesTo b (min n lb)=S) (hms:S.length=ms) :
 Calls Tryz.prog 28 #[.slice A lb cb,.int .i64 n] w fun e w'=>∃D d,e=.returned (.slice D ms d)∧RdI w' D d S∧(∀ad,D=some ad→w.heap.size≤ad.block∧ad.block<w'.heap.size)∧Bl w w':=by
 refine (sites_any w A lb cb n b hn hl hlc h63 hb hnil h256).mono ?_;rintro e w' ⟨v,rfl,ho,hbl⟩;rw [hS] at ho;obtain ⟨D,d,rfl,hr⟩:=RdI.own ho;refine ⟨D,d,by rw [hms],hr,fun ad ha=>?_,⟨hbl⟩⟩;subst ha;exact ho.lt _ rfl
structure Inv1 (W0 wr:World) (gb g m cap:Nat) (D:Option Addr) (d ms:Nat) (S:List Nat) (j:Nat):Prop where
 ex:∃l:List Int,Ow wr W0.heap.size g m cap l∧(∀x∈l,0≤x∧x<4294967296)∧∀s∈S.take j,∀x,l[s]? = some x→0≤x∧x≤160
 bx:Bx wr gb (.slice (some ⟨g,0,none⟩) m cap) (.slice D ms d) (.slice none 0 0)
 rd:RdI wr D d S
 bl:Bl W0 wr
 ne:0<m→g≠gb
 sb:∀ad,D=some ad→(0<m→ad.block≠g)∧ad.block≠gb∧W0.heap.size≤ad.block
structure Inv2 (W0 wr:World) (gb g m cap:Nat) (D:Option Addr) (d ms:Nat) (S:List Nat) (E:Option Addr) (f k:Nat) (Y:List (ByteArray×Int)):Prop where
 wd:∃l,Ow wr W0.heap.size g m cap l∧∀s∈S,∀x,l[s]? = some x→0≤x∧x≤160
 bx:Bx wr gb (.slice (some ⟨g,0,none⟩) m cap) (.slice D ms d) (.slice E k f)
 rd:RdI wr D d S
 rs:RdS wr E f Y
 ky:Y.length=k
 bl:Bl W0 wr
 gw:W0.heap.size≤gb
 ne:0<m→g≠gb
 sb:∀ad,D=some ad→ad.block≠gb∧W0.heap.size≤ad.block
 eb:∀ad,E=some ad→ad.block≠gb∧W0.heap.size≤ad.block
def FitPost (w:World) (e:Ending) (w':World):Prop :=
 ∃(g m cap:Nat) (D:Option Addr) (d ms:Nat) (S:List Nat) (E:Option Addr) (f k:Nat) (Y:List (ByteArray×Int)) (l:List Int),
  e=.returned (.agg #[.slice (some ⟨g,0,none⟩) m cap,.slice D ms d,.slice E k f])∧Rd w' (some ⟨g,0,none⟩) cap l∧l.length=m∧m≤40∧RdI w' D d S∧S.length=ms∧Rise S m∧(∀s∈S,∀x,l[s]? = some x→0≤x∧x≤160)∧RdS w' E f Y∧Y.length=k∧k≤8∧Bl w w'
theorem flat_drop (l:List (ByteArray×Int)):∀q,flat (l.drop q)=(flat l).drop (q*2):=by
 induction l with
 | nil=>intro q;simp [flat]
 | cons x l ih =>
   intro q
   cases q with
   | zero=>simp
   | succ q =>
     rw [List.drop_succ_cons,ih,show (q+1)*2=q*2+2 by omega];have e:flat (x::l)=.string x.1::.int .i64 x.2::flat l:=rfl;rw [e]
     rfl
theorem add_add (A:Addr) (a b:Nat):(A.add a).add b=A.add (a+b):=by
 unfold Addr.add
 by_cases h1:a=0
 · subst h1;simp
 · by_cases h2:b=0
   · subst h2;simp [h1]
   · simp [h1,h2,show ¬(a+b=0) by omega,Nat.add_assoc]
theorem RdS.take {w:World} {A:Option Addr} {c:Nat} {l:List (ByteArray×Int)} (h:RdS w A c l) (k:Nat):RdS w A c (l.take k):=by
 refine ⟨Nat.le_trans (by simp;omega) h.le,fun e=>?_,fun ad ha j u hj=>?_⟩
 · obtain ⟨rfl,hc⟩:=h.nil e
   exact ⟨by simp,hc⟩
 · refine h.cells ad ha j u ?_
   have e:flat l=flat (l.take k)++flat (l.drop k):=by rw [←flat_append,List.take_append_drop]
   rw [e,List.getElem?_append_left (by exact (List.getElem?_eq_some_iff.1 hj).1)];exact hj
theorem slice_from {E:Option Addr} {k f q:Nat} {Y:List (ByteArray×Int)} (hk:Y.length=k) (hq:q≤k) (hf:k≤f) (hn:E=none→k=0∧f=0) :
 ∃E2 f2 k2,k - q=k2∧(∀w,(Instr.slice 32 (.slice E k f) (some (.int .i64 (q:Int))) none none).run Tryz.prog w=.ok (.slice E2 k2 f2) w)∧(∀w,RdS w E f Y→RdS w E2 f2 (Y.drop q))∧(Y.drop q).length=k2:=by
 cases E with
 | none =>
   obtain ⟨rfl,rfl⟩:=hn rfl
   obtain rfl:q=0:=by omega
   exact ⟨none,0,0,rfl,fun w=>by go_simp,fun w h=>by simpa using h,by simpa using hk⟩
 | some A =>
   by_cases he:f=q
   · subst he
     obtain rfl:f=k:=by omega
     refine ⟨some A,0,0,by omega,fun w=>by go_simp,fun w h=>?_,by simp;omega⟩;rw [List.drop_of_length_le (by omega)];exact ⟨by simp,fun e=>(by cases e),fun ad ha j u hj=>(by simp [flat] at hj)⟩
   · refine ⟨some (A.add (q*2)),f - q,k - q,rfl,fun w=>?_,fun w h=>?_,by simp;omega⟩
     · have:q≤f:=by omega
       have hne:¬(f=q):=he
       go_simp
     · refine ⟨by simp;omega,fun e=>(by cases e),fun ad ha j u hj=>?_⟩
       obtain rfl:=Option.some.inj ha;rw [add_add];refine h.cells A rfl _ u ?_;rw [flat_drop,List.getElem?_drop] at hj;exact hj
theorem slice_to {E:Option Addr} {k f q:Nat} (hq:q≤k) (hf:k≤f) (hn:E=none→k=0∧f=0) :
 ∀w,(Instr.slice 32 (.slice E k f) none (some (.int .i64 (q:Int))) none).run Tryz.prog w=.ok (.slice E q f) w:=by
 intro w
 cases E with
 | none =>
   obtain ⟨rfl,rfl⟩:=hn rfl
   obtain rfl:q=0:=by omega
   go_simp
 | some A =>
   have:q≤f:=by omega
   go_simp
theorem slice_u32 {A:Option Addr} {n c m:Nat} (hq:m≤n) (hf:n≤c) (hn:A=none→n=0∧c=0) :
 ∀w,(Instr.slice 22 (.slice A n c) none (some (.int .i64 (m:Int))) none).run Tryz.prog w=.ok (.slice A m c) w:=by
 intro w
 cases A with
 | none =>
   obtain ⟨rfl,rfl⟩:=hn rfl
   obtain rfl:m=0:=by omega
   go_simp
 | some A =>
   have:m≤c:=by omega
   go_simp
theorem infoS:(Tryz.prog.info? 82).map (fun i=>(i.zero,i.size,i.bytes))=some (some (.agg #[.string ⟨#[]⟩,.int .i64 0]),2,24):=by kernel_rfl
theorem RdS.own {w:World} {base n:Nat} {v:Value} {l:List (ByteArray×Int)} (h:w.ownsRow base 82 2 v n (flat l)):∃A c,v=.slice A n c∧RdS w A c l∧l.length=n∧∀ad,A=some ad→base≤ad.block:=by
 obtain ⟨h1,h2⟩:=h
 have hn:l.length=n:=by rw [flat_len] at h1;omega
 rcases h2 with ⟨rfl,h0⟩ | ⟨g,cap,cur,rfl,hg,hh,hl,hm,hs,ht⟩
 · subst h0
   have:l=[]:=List.eq_nil_of_length_eq_zero hn;subst this;exact ⟨none,0,rfl,⟨by simp,fun _=>⟨rfl,rfl⟩,fun _ h=>(by cases h)⟩,rfl,fun _ h=>(by cases h)⟩
 · refine ⟨_,cap,rfl,⟨by omega,fun h=>(by cases h),fun ad ha j u hj=>?_⟩,hn,fun ad ha=>(by obtain rfl:=Option.some.inj ha;exact hg)⟩
   obtain rfl:=Option.some.inj ha;have ho:w.ownsRow base 82 2 (.slice (some ⟨g,0,none⟩) n cap) n (flat l):=⟨h1,.inr ⟨g,cap,cur,rfl,hg,hh,hl,hm,hs,ht⟩⟩;exact ho.cells (g:=g) rfl j u hj
theorem run_syms (ty:TypeId) (w:World) (base:Nat) (v:Value) (n:Nat) (l:List (ByteArray×Int)) (hown:w.ownsRow base 82 2 v n (flat l))
 (B:Option Addr) (m c:Nat) (xs:List (ByteArray×Int)) (hm:xs.length=m) (hr:RdS w B c xs) (h63:n+m≤1001) (hbase:base≤w.heap.size) :
 ∃v' w',(Builtin.append_ #[32,32] ty #[v,.slice B m c]).run Tryz.prog w=.ok v' w'∧w'.ownsRow base 82 2 v' (n+m) (flat (l++xs))∧w.grownBy w' v.ownBlock∧(v'.ownBlock=v.ownBlock∨v'.ownBlock=some w.heap.size):=by
 obtain ⟨i0,hi,hz0,hz1,hz2⟩:=info_parts infoS
 cases B with
 | none =>
   obtain ⟨rfl,rfl⟩:=hr.nil rfl
   have hm0:m=0:=by simpa using hm.symm
   subst hm0
   obtain ⟨A,cc,rfl,hnc⟩:∃A cc,v=.slice A n cc∧n≤cc:=by
    rcases hown.2 with ⟨rfl,rfl⟩ | ⟨g,cap,cur,rfl,_,_,hnc,_⟩
    · exact ⟨_,_,rfl,Nat.le_refl _⟩
    · exact ⟨_,_,rfl,hnc⟩
   exact ⟨_,w,append_none (P:=Tryz.prog) 32 ty 82 i0 Tryz.underlying32 hi A n cc 0 w hnc,by simpa using hown,⟨rfl,rfl,rfl,Nat.le_refl _,fun _ _ _=>rfl⟩,.inl rfl⟩
 | some ad =>
   subst hm;obtain ⟨v',w',hrun,h1,h2,_,h4⟩:=run_append_own_at (P:=Tryz.prog) w base 32 ty 82 i0 (.agg #[.string ⟨#[]⟩,.int .i64 0]) 2 24 Tryz.underlying32 hi hz0 hz1 hz2 rfl (by decide) v n (flat l) hown ad xs.length c (flat xs) (flat_len xs) (fun j u hj=>hr.cells ad rfl j u hj) (flat_one xs) (by unfold maxLen;omega) (by omega) hbase;exact ⟨v',w',hrun,by rw [flat_append];exact h1,h2,h4⟩
theorem step_syms {ops:Array Oper} {o:Oper} {a:Act} {w:World} {K:Act→World→Prop} {Q:Exit→Act→World→Prop} {E:Prop} (s x:Operand)
 (base:Nat) (v:Value) (n:Nat) (l:List (ByteArray×Int)) (hown:w.ownsRow base 82 2 v n (flat l))
 (B:Option Addr) (m c:Nat) (xs:List (ByteArray×Int)) (hm:xs.length=m) (hr:RdS w B c xs) (h63:n+m≤1001) (hbase:base≤w.heap.size)
 (hg:o.guard=none) (hop:o.op=.call {callee:=.builtin .append,args:=#[s,x],argTypes:=#[32,32]}) (hs:a.eval s=v) (hx:a.eval x=.slice B m c)
 (hK:∀v' w',w'.ownsRow base 82 2 v' (n+m) (flat (l++xs))→w.grownBy w' v.ownBlock→K (a.put o.dst v') w') :
 if Region.wanted o (yielded ops a.tmps)=true then Oper.wp Tryz.prog o a w K Q else E:=by
 have hw:Region.wanted o (yielded ops a.tmps)=true:=by simp [Region.wanted,hg]
 rw [if_pos hw];obtain ⟨v',w',hrun,h1,h2,_⟩:=run_syms o.type w base v n l hown B m c xs hm hr h63 hbase;unfold Oper.wp;simp [execOp,hop,resolve,invoke,builtin,hs,hx,hrun,Result.andThen];exact hK v' w' h1 h2
theorem append_syms {ops:Array Oper} {rest:List Oper} {o:Oper} {a:Act} {w:World} {Q:Exit→Act→World→Prop} (hgd:o.guard=none) (s x:Operand)
 (ho:o.op=.call {callee:=.builtin .append,args:=#[s,x],argTypes:=#[32,32]})
 (base:Nat) (v:Value) (n:Nat) (l:List (ByteArray×Int)) (hs:a.eval s=v) (hown:w.ownsRow base 82 2 v n (flat l))
 (B:Option Addr) (m c:Nat) (xs:List (ByteArray×Int)) (hx:a.eval x=.slice B m c) (hm:xs.length=m) (hr:RdS w B c xs) (h63:n+m≤1001) (hbase:base≤w.heap.size)
 (h:∀v' w',w'.ownsRow base 82 2 v' (n+m) (flat (l++xs))→w.grownBy w' v.ownBlock→wpList Tryz.prog ops Q rest (a.put o.dst v') w') :
 wpList Tryz.prog ops Q (o::rest) a w:=by
 refine wpList_plain hgd fun K hK=>?_;obtain ⟨v',w',hrun,h1,h2,_⟩:=run_syms o.type w base v n l hown B m c xs hm hr h63 hbase;unfold Oper.wp execOp;simp only [ho,resolve,invoke,builtin,Sem.run_bind,Sem.run_pure,Result.andThen_ok,List.map_toArray,List.map_cons,List.map_nil,hs,hx,hrun];exact hK _ _ (h v' w' h1 h2)
theorem keepS {wr w':World} {a b:Addr} {x y:Value} (b0:wr.cell? a=some x) (b1:wr.cell? b=some y) (h:Bl wr w'):Bl wr w'∧w'.cell? a=some x∧w'.cell? b=some y :=
 ⟨h,h.cell b0,h.cell b1⟩
end Go.Proofs.YtjmiaemabhlnjaaGreatDoor.Chains
end
section
set_option linter.all false
set_option maxRecDepth 20000
namespace Go.Proofs.YtjmiaemabhlnjaaGreatDoor.Chains.Shifts
structure RS where
 R:List Nat
 H:Nat
 N:Bool
 Z:Bool
 C:Bool
 V:Bool
def showS (s:RS) (x:Nat):RS:={s with N:=x / 2147483648==1,Z:=x==0}
def takenS (s:RS) (op:Nat):Bool :=
 ((match op%8 with | 0=>s.N | 1=>s.Z | 2=>s.C | 3=>s.V | 4=>s.C || s.Z | 5=>s.N != s.V | 6=>(s.N != s.V) || s.Z | _=>true) != decide (7<op))
structure I where
 kd:Nat
 op:Nat
 a:Nat
 b:Nat
 c:Nat
 im:Int
 u:Bool
def word32 (im:Int):Nat:=(im%4294967296).toNat
structure Alu where
 x:Nat→Bool→Nat→Nat→Nat
 h:Nat→Bool→Nat→Nat→Nat→Nat
 ok:Nat→Bool→Nat→Nat→Bool
 cv:Nat→Nat→Nat→Bool→Bool×Bool
 fl:Bool→Bool→Bool→Bool→Nat
structure AR where
 x:Nat
 s:RS
 ok:Bool
def aluS (U:Alu) (s:RS) (op:Nat) (u:Bool) (b n:Nat):AR :=
 if op=0 then ⟨if u then n*65536%4294967296 else n,s,true⟩
 else if op=8 then ⟨(b+n+(u&&s.C).toNat)%4294967296,{s with C:=(U.cv 8 b n (u&&s.C)).1,V:=(U.cv 8 b n (u&&s.C)).2},true⟩
 else if op=9 then ⟨(b+8589934592 - n - (u&&s.C).toNat)%4294967296,{s with C:=(U.cv 9 b n (u&&s.C)).1,V:=(U.cv 9 b n (u&&s.C)).2},true⟩
 else ⟨U.x op u b n,{s with H:=U.h op u b n s.H},U.ok op u b n⟩
def reg (s:RS) (j:Nat):Nat:=s.R.getD j 0
def putR (s:RS) (j x:Nat):RS:={s with R:=s.R.set j x}
def doS (U:Alu) (s:RS) (i:I):RS×Nat :=
 if i.kd=3 then (showS (putR s i.a s.H) s.H,0)
 else if i.kd=4 then (showS (putR s i.a (U.fl s.N s.Z s.C s.V)) (U.fl s.N s.Z s.C s.V),0)
 else
  let r:=aluS U s i.op i.u (reg s i.b) (if i.kd=2 then word32 i.im else reg s i.c)
  if r.ok then (showS (putR r.s i.a r.x) r.x,0) else (s,5)
structure MS where
 s:RS
 pc:Nat
 st:Nat
 inp:List Nat
 out:List Nat
 M:List Nat
 n:Nat
def atT (n a al:Nat):Nat:=if a%al=0 then (if a / 4<n then 0 else 3) else 4
structure Bytes where
 set:Nat→Nat→Nat→Nat
def loadS (m:MS) (op at_:Nat):Nat×Nat×MS :=
 if op=1 then (if at_ / 4<m.n then (m.M.getD (at_ / 4) 0 / 2 ^ (at_%4*8)%256,0,m) else (0,3,m))
 else if at_=4294967232 then (match m.inp with | []=>(0,0,m) | x::r=>(x,0,{m with inp:=r}))
 else if atT m.n at_ 4=0 then (m.M.getD (at_ / 4) 0,0,m) else (0,atT m.n at_ 4,m)
def storeS (B:Bytes) (m:MS) (op at_ x:Nat):Nat×MS :=
 if op=3 then (if at_ / 4<m.n then (0,{m with M:=m.M.set (at_ / 4) (B.set (m.M.getD (at_ / 4) 0) (x%256) (at_%4))}) else (3,m))
 else if at_=4294967236 then (0,{m with out:=m.out++[x]})
 else if at_=4294967240 then (1,m)
 else if atT m.n at_ 4=0 then (0,{m with M:=m.M.set (at_ / 4) x}) else (atT m.n at_ 4,m)
def doI (U:Alu) (B:Bytes) (m:MS) (i:I):MS×Nat×Nat :=
 let next:=(m.pc+4)%4294967296
 if i.kd=5 then
  let at_:=(reg m.s i.b+word32 i.im)%4294967296
  if 2≤i.op then
   let r:=storeS B m i.op at_ (reg m.s i.a)
   (r.2,next,r.1)
  else
   let r:=loadS m i.op at_
   (if r.2.1=0 then {r.2.2 with s:=showS (putR r.2.2.s i.a r.1) r.1} else r.2.2,next,r.2.1)
 else if i.kd=6∨i.kd=7 then
  if takenS m.s i.op then
   let to:=if i.kd=7 then (next+word32 i.im*4)%4294967296 else reg m.s i.c
   (if i.u then {m with s:=putR m.s 15 next} else m,to,0)
  else (m,next,0)
 else
  let r:=doS U m.s i
  ({m with s:=r.1},next,r.2)
def stepS (U:Alu) (B:Bytes) (dec:Nat→Option I) (m:MS):MS×Nat :=
 if m.st≠0 then (m,m.st)
 else if atT m.n m.pc 4≠0 then ({m with st:=atT m.n m.pc 4},atT m.n m.pc 4)
 else match dec (m.M.getD (m.pc / 4) 0) with
  | none=>({m with st:=2},2)
  | some i =>
    let r:=doI U B m i
    (if r.2.2≤1 then {r.1 with st:=r.2.2,pc:=r.2.1} else {r.1 with st:=r.2.2},r.2.2)
structure TG where
 R:List Bool
 W:List Bool
 NZ:Bool
 CV:Bool
def tagR (t:TG) (j:Nat):Bool:=t.R.getD j false
def feedS (t:TG) (i:I) (s:RS) (base words:Nat):TG×Bool :=
 let b:=tagR t i.b
 let c:=(i.kd==1)&&tagR t i.c
 if i.kd=3 then ({t with R:=t.R.set i.a false,NZ:=false},true)
 else if i.kd=4 then ({t with R:=t.R.set i.a false,NZ:=false},!t.NZ && !t.CV)
 else if i.kd=1∨i.kd=2 then
  let sum:=i.op==8 || i.op==9
  let tag:=i.op==0&&c || sum&&(b || c)
  let ok:=i.op==0 || sum && !(b&&c) && !(c&&i.op==9) && !(i.u&&t.CV) || !sum && !b && !c
  ({t with R:=t.R.set i.a tag,NZ:=tag,CV:=if sum then tag else t.CV},ok)
 else if i.kd=7 then
  (if i.u then {t with R:=t.R.set 15 (takenS s i.op || tagR t 15)} else t,decide (i.op%8=7) || !t.NZ && !t.CV)
 else if i.kd=6 then
  (if i.u then {t with R:=t.R.set 15 (takenS s i.op || tagR t 15)} else t,(decide (i.op%8=7) || !t.NZ && !t.CV)&&(tagR t i.c || !takenS s i.op))
 else
  let at_:=(reg s i.b+word32 i.im)%4294967296
  if !b then
   let port:=at_==4294967232 || at_==4294967236 || at_==4294967240
   (if 2≤i.op then t else {t with R:=t.R.set i.a false,NZ:=false},port&&(i.op==0 || i.op==2) && !(decide (2≤i.op)&&tagR t i.a))
  else if at_<base∨base+4*words≤at_ then (t,false)
  else
   let k:=(at_ - base) / 4
   if i.op=0 then ({t with R:=t.R.set i.a (t.W.getD k false),NZ:=t.W.getD k false},true)
   else if i.op=1 then ({t with R:=t.R.set i.a false,NZ:=false},!t.W.getD k false)
   else if i.op=2 then ({t with W:=t.W.set k (tagR t i.a)},true)
   else (t,!t.W.getD k false && !tagR t i.a)
def sh (d:Nat) (t:Bool) (x:Nat):Nat:=if t then (x+d)%4294967296 else x
structure Core (d i k n:Nat) (a b:MS) (t:TG):Prop where
 r:∀j,j<16→reg b.s j=sh d (tagR t j) (reg a.s j)
 w:∀j,j<n→b.M.getD (k / 4+j) 0=sh d (t.W.getD j false) (a.M.getD (i / 4+j) 0)
 nz:t.NZ=false→b.s.N=a.s.N∧b.s.Z=a.s.Z
 cv:t.CV=false→b.s.C=a.s.C∧b.s.V=a.s.V
 h:b.s.H=a.s.H
 inp:b.inp=a.inp
 out:b.out=a.out
structure Sim (d i k n:Nat) (a b:MS) (t:TG):Prop where
 core:Core d i k n a b t
 pc:b.pc=(a.pc+d)%4294967296
 st:b.st=a.st
structure Fix (d i k n:Nat) (a b:MS) (t:TG):Prop where
 an:a.n=b.n
 ai:i / 4+n≤a.n
 bk:k / 4+n≤b.n
 a4:a.n≤4096
 i4:i%4=0
 k4:k%4=0
 il:i≤124
 kl:k≤124
 dd:d=(4294967296+k - i)%4294967296
 aM:a.M.length=4096
 bM:b.M.length=4096
 aR:a.s.R.length=16
 bR:b.s.R.length=16
 tR:t.R.length=16
 tW:t.W.length=n
 aw:∀x∈a.M,x<4294967296
 bw:∀x∈b.M,x<4294967296
 ar:∀x∈a.s.R,x<4294967296
 br:∀x∈b.s.R,x<4294967296
end Go.Proofs.YtjmiaemabhlnjaaGreatDoor.Chains.Shifts
end
section
set_option linter.all false
set_option maxRecDepth 20000
namespace Go.Proofs.YtjmiaemabhlnjaaGreatDoor.Chains.Shifts
open Go Go.RowKit Go.Proofs.YtjmiaemabhlnjaaGreatDoor.Chains
structure Mem (w:World) (g n:Nat) (M:List Nat):Prop where
 h:w.heap[g]? = some (.cells ((M.map fun x:Nat=>Value.int .u32 (x:Int))++[Value.int .i64 (n:Int)]).toArray 119 (0,0))
 len:M.length=4096
 le:n≤4096
 lt:∀x∈M,x<4294967296
theorem Mem.cn {w:World} {g n:Nat} {M:List Nat} (h:Mem w g n M):w.cell? ⟨g,4096,none⟩=some (.int .i64 (n:Int)):=by
 rw [cell_of_row w g 4096 _ _ (0,0) h.h];simp [h.len]
theorem Mem.ci {w:World} {g n:Nat} {M:List Nat} (h:Mem w g n M) {i x:Nat} (hx:M[i]? = some x):w.cell? ⟨g,i,none⟩=some (.int .u32 (x:Int)):=by
 rw [cell_of_row w g i _ _ (0,0) h.h];have hi:i<M.length:=(List.getElem?_eq_some_iff.1 hx).1;have e:M[i]=x:=(List.getElem?_eq_some_iff.1 hx).2;simp [hx,List.getElem?_append_left,hi,e]
theorem Mem.frz {w:World} {g n:Nat} {M:List Nat} (h:Mem w g n M) (j:Nat):w.frozen? ⟨g,j,none⟩=false:=frozen_of_row w g j _ _ h.h
theorem Mem.lth {w:World} {g n:Nat} {M:List Nat} (h:Mem w g n M):g<w.heap.size:=(Array.getElem?_eq_some_iff.1 h.h).1
theorem Mem.keep {w w':World} {g n:Nat} {M:List Nat} (h:Mem w g n M) (k:Bl w w'):Mem w' g n M:=⟨by rw [k.blk h.lth];exact h.h,h.len,h.le,h.lt⟩
theorem Mem.put {w:World} {g n:Nat} {M:List Nat} (h:Mem w g n M) {i:Nat} (hi:i<4096) {x:Nat} (hx:x<4294967296):Mem (w.setCell ⟨g,i,none⟩ (.int .u32 (x:Int))) g n (M.set i x):=by
 refine ⟨?_,by simpa using h.len,h.le,fun y hy=>?_⟩
 · rw [heap_setCell_same w g i _ _ _ h.h]
   have hl:=h.len;simp [List.set_append_left,List.map_set,hl,hi]
 · rcases List.mem_or_eq_of_mem_set hy with h1 | h1
   · exact h.lt y h1
   · omega
theorem at_ok {w:World} {g n:Nat} {M:List Nat} (h:Mem w g n M) (a al:Nat) (ha:a<4294967296) (hal:al=1∨al=4) (h1:a%al=0) (h2:a / 4<n) :
 Calls Tryz.prog 79 #[.pointer (some ⟨g,0,none⟩),.int .u32 (a:Int),.int .u32 (al:Int)] w fun e w'=>e=.returned (.tuple #[.pointer (some ⟨g,a / 4,none⟩),.int .i64 0])∧w'=w:=by
 have hc:=h.cn;have hn:=h.le
 have i2:¬((n:Int)≤(a:Int) / 4):=by omega
 rcases hal with rfl | rfl
 · go_enter Tryz.func79,Tryz.ntmps79
   go_wp2;go_ret2;exact ⟨rfl,rfl⟩
 · have i1:(a:Int)%4=0:=by omega
   go_enter Tryz.func79,Tryz.ntmps79;go_wp2;go_ret2;exact ⟨rfl,rfl⟩
theorem at_mem {w:World} {g n:Nat} {M:List Nat} (h:Mem w g n M) (a al:Nat) (ha:a<4294967296) (hal:al=1∨al=4) (h1:a%al=0) (h2:¬a / 4<n) :
 Calls Tryz.prog 79 #[.pointer (some ⟨g,0,none⟩),.int .u32 (a:Int),.int .u32 (al:Int)] w fun e w'=>e=.returned (.tuple #[.pointer none,.int .i64 3])∧w'=w:=by
 have hc:=h.cn;have hn:=h.le
 have i2:(n:Int)≤(a:Int) / 4:=by omega
 rcases hal with rfl | rfl
 · go_enter Tryz.func79,Tryz.ntmps79
   go_wp2;go_ret2;exact ⟨rfl,rfl⟩
 · have i1:(a:Int)%4=0:=by omega
   go_enter Tryz.func79,Tryz.ntmps79;go_wp2;go_ret2;exact ⟨rfl,rfl⟩
theorem at_al {w:World} {g:Nat} (a:Nat) (ha:a<4294967296) (h1:a%4≠0) :
 Calls Tryz.prog 79 #[.pointer (some ⟨g,0,none⟩),.int .u32 (a:Int),.int .u32 4] w fun e w'=>e=.returned (.tuple #[.pointer none,.int .i64 4])∧w'=w:=by
 have i1:¬((a:Int)%4=0):=by omega
 go_enter Tryz.func79,Tryz.ntmps79;go_wp2;go_ret2;exact ⟨rfl,rfl⟩
theorem at4_ok {w:World} {g n:Nat} {M:List Nat} (h:Mem w g n M) (a:Nat) (ha:a<4294967296) (h1:a%4=0) (h2:a / 4<n) :
 Calls Tryz.prog 79 #[.pointer (some ⟨g,0,none⟩),.int .u32 (a:Int),.int .u32 4] w fun e w'=>e=.returned (.tuple #[.pointer (some ⟨g,a / 4,none⟩),.int .i64 0])∧w'=w:=at_ok h a 4 ha (.inr rfl) h1 h2
theorem at1_ok {w:World} {g n:Nat} {M:List Nat} (h:Mem w g n M) (a:Nat) (ha:a<4294967296) (h2:a / 4<n) :
 Calls Tryz.prog 79 #[.pointer (some ⟨g,0,none⟩),.int .u32 (a:Int),.int .u32 1] w fun e w'=>e=.returned (.tuple #[.pointer (some ⟨g,a / 4,none⟩),.int .i64 0])∧w'=w:=at_ok h a 1 ha (.inl rfl) (by omega) h2
theorem at4_mem {w:World} {g n:Nat} {M:List Nat} (h:Mem w g n M) (a:Nat) (ha:a<4294967296) (h1:a%4=0) (h2:¬a / 4<n) :
 Calls Tryz.prog 79 #[.pointer (some ⟨g,0,none⟩),.int .u32 (a:Int),.int .u32 4] w fun e w'=>e=.returned (.tuple #[.pointer none,.int .i64 3])∧w'=w:=at_mem h a 4 ha (.inr rfl) h1 h2
theorem at1_mem {w:World} {g n:Nat} {M:List Nat} (h:Mem w g n M) (a:Nat) (ha:a<4294967296) (h2:¬a / 4<n) :
 Calls Tryz.prog 79 #[.pointer (some ⟨g,0,none⟩),.int .u32 (a:Int),.int .u32 1] w fun e w'=>e=.returned (.tuple #[.pointer none,.int .i64 3])∧w'=w:=at_mem h a 1 ha (.inl rfl) (by omega) h2
theorem word_ok {w:World} {g n:Nat} {M:List Nat} (h:Mem w g n M) (a x:Nat) (ha:a<4294967296) (h1:a%4=0) (h2:a / 4<n) (hx:M[a / 4]? = some x) :
 Calls Tryz.prog 50 #[.pointer (some ⟨g,0,none⟩),.int .u32 (a:Int)] w fun e w'=>e=.returned (.tuple #[.int .u32 (x:Int),.int .i64 0])∧w'=w:=by
 have hc:=h.ci hx;have HA:=Aside.mk (at4_ok h a ha h1 h2);go_enter Tryz.func50,Tryz.ntmps50
 go_wp2_with (with_reducible refine HA.out.mono ?_;rintro e w' ⟨rfl,rfl⟩)
 go_ret2;exact ⟨rfl,rfl⟩
theorem word_no {w:World} {g n:Nat} {M:List Nat} (h:Mem w g n M) (a:Nat) (ha:a<4294967296) (h0:atT n a 4≠0) :
 Calls Tryz.prog 50 #[.pointer (some ⟨g,0,none⟩),.int .u32 (a:Int)] w fun e w'=>e=.returned (.tuple #[.int .u32 0,.int .i64 (atT n a 4:Nat)])∧w'=w:=by
 by_cases h1:a%4=0
 · by_cases h2:a / 4<n
   · exact absurd (by simp [atT,h1,h2]) h0
   · have ht:atT n a 4=3:=by simp [atT,h1,h2]
     rw [ht];have HA:=Aside.mk (at4_mem h a ha h1 h2);clear h0 ht h1 h2;go_enter Tryz.func50,Tryz.ntmps50
     go_wp2_with (with_reducible refine HA.out.mono ?_;rintro e w' ⟨rfl,rfl⟩)
     go_ret2;exact ⟨rfl,rfl⟩
 · have ht:atT n a 4=4:=by simp [atT,h1]
   rw [ht];have HA:=Aside.mk (at_al (w:=w) (g:=g) a ha h1);clear h0 ht h1;go_enter Tryz.func50,Tryz.ntmps50
   go_wp2_with (with_reducible refine HA.out.mono ?_;rintro e w' ⟨rfl,rfl⟩)
   go_ret2;exact ⟨rfl,rfl⟩
theorem byte_ok {w:World} {g n:Nat} {M:List Nat} (h:Mem w g n M) (a x:Nat) (ha:a<4294967296) (h2:a / 4<n) (hx:M[a / 4]? = some x) :
 Calls Tryz.prog 120 #[.pointer (some ⟨g,0,none⟩),.int .u32 (a:Int)] w fun e w'=>e=.returned (.tuple #[.int .u8 ((x / 2 ^ (a%4*8)%256:Nat):Int),.int .i64 0])∧w'=w:=by
 have hc:=h.ci hx;have HA:=Aside.mk (at1_ok h a ha h2);go_enter Tryz.func120,Tryz.ntmps120
 go_wp2_with (with_reducible refine HA.out.mono ?_;rintro e w' ⟨rfl,rfl⟩)
 go_ret2;refine ⟨?_,rfl⟩
 push_cast
 rfl
theorem byte_no {w:World} {g n:Nat} {M:List Nat} (h:Mem w g n M) (a:Nat) (ha:a<4294967296) (h2:¬a / 4<n) :
 Calls Tryz.prog 120 #[.pointer (some ⟨g,0,none⟩),.int .u32 (a:Int)] w fun e w'=>e=.returned (.tuple #[.int .u8 0,.int .i64 3])∧w'=w:=by
 have HA:=Aside.mk (at1_mem h a ha h2);go_enter Tryz.func120,Tryz.ntmps120
 go_wp2_with (with_reducible refine HA.out.mono ?_;rintro e w' ⟨rfl,rfl⟩)
 go_ret2;exact ⟨rfl,rfl⟩
theorem setword_ok {w:World} {g n:Nat} {M:List Nat} (h:Mem w g n M) (a x:Nat) (ha:a<4294967296) (hx:x<4294967296) (h1:a%4=0) (h2:a / 4<n) :
 Calls Tryz.prog 119 #[.pointer (some ⟨g,0,none⟩),.int .u32 (a:Int),.int .u32 (x:Int)] w fun e w'=>e=.returned (.int .i64 0)∧w'=w.setCell ⟨g,a / 4,none⟩ (.int .u32 (x:Int)):=by
 obtain ⟨y,hy⟩:∃y,M[a / 4]? = some y:=⟨_,List.getElem?_eq_getElem (by have:=h.len;have:=h.le;omega)⟩;have hc:=h.ci hy;have hf:=h.frz (a / 4);have HA:=Aside.mk (at4_ok h a ha h1 h2);go_enter Tryz.func119,Tryz.ntmps119
 go_wp2_with (with_reducible refine HA.out.mono ?_;rintro e w' ⟨rfl,rfl⟩)
 go_ret;exact ⟨rfl,rfl⟩
theorem setword_no {w:World} {g n:Nat} {M:List Nat} (h:Mem w g n M) (a x:Nat) (ha:a<4294967296) (h0:atT n a 4≠0) :
 Calls Tryz.prog 119 #[.pointer (some ⟨g,0,none⟩),.int .u32 (a:Int),.int .u32 (x:Int)] w fun e w'=>e=.returned (.int .i64 (atT n a 4:Nat))∧w'=w:=by
 by_cases h1:a%4=0
 · by_cases h2:a / 4<n
   · exact absurd (by simp [atT,h1,h2]) h0
   · have ht:atT n a 4=3:=by simp [atT,h1,h2]
     rw [ht];have HA:=Aside.mk (at4_mem h a ha h1 h2);clear h0 ht h1 h2;go_enter Tryz.func119,Tryz.ntmps119
     go_wp2_with (with_reducible refine HA.out.mono ?_;rintro e w' ⟨rfl,rfl⟩)
     go_ret;exact ⟨rfl,rfl⟩
 · have ht:atT n a 4=4:=by simp [atT,h1]
   rw [ht];have HA:=Aside.mk (at_al (w:=w) (g:=g) a ha h1);clear h0 ht h1;go_enter Tryz.func119,Tryz.ntmps119
   go_wp2_with (with_reducible refine HA.out.mono ?_;rintro e w' ⟨rfl,rfl⟩)
   go_ret;exact ⟨rfl,rfl⟩
def setBI (y x r:Nat):Int:=bits .or .u32 (bits .andNot .u32 (y:Int) (255*2 ^ (r*8)%4294967296)) ((x:Int)*2 ^ (r*8)%4294967296)
def setBN (y x r:Nat):Nat:=(setBI y x r).toNat
theorem setB_is (y x r:Nat) (hy:y<4294967296):setBI y x r=(setBN y x r:Int)∧setBN y x r<4294967296:=by
 unfold setBN setBI
 have e1:(255*2 ^ (r*8)%4294967296:Int)=((255*2 ^ (r*8)%4294967296:Nat):Int):=by rw [Int.natCast_emod,Int.natCast_mul,Int.natCast_pow];rfl
 have e2:((x:Int)*2 ^ (r*8)%4294967296:Int)=((x*2 ^ (r*8)%4294967296:Nat):Int):=by rw [Int.natCast_emod,Int.natCast_mul,Int.natCast_pow];rfl
 rw [e1,e2];have h1:=Nat.mod_lt (255*2 ^ (r*8)) (show 0<4294967296 by decide);have h2:=Nat.mod_lt (x*2 ^ (r*8)) (show 0<4294967296 by decide);generalize 255 * 2 ^ (r * 8)%4294967296=u at *;generalize x * 2 ^ (r * 8)%4294967296=v at *;have h3:y &&& (4294967295 - u)<4294967296:=Nat.lt_of_le_of_lt Nat.and_le_left hy;rw [u32_andNot_nat _ _ hy h1,u32_or_nat _ _ h3 h2,Int.toNat_natCast];exact ⟨rfl,Nat.or_lt_two_pow (n:=32) h3 h2⟩
theorem setbyte_ok {w:World} {g n:Nat} {M:List Nat} (h:Mem w g n M) (a x y:Nat) (ha:a<4294967296) (hx:x<256) (h2:a / 4<n) (hy:M[a / 4]? = some y) :
 Calls Tryz.prog 118 #[.pointer (some ⟨g,0,none⟩),.int .u32 (a:Int),.int .u8 (x:Int)] w fun e w'=>e=.returned (.int .i64 0)∧w'=w.setCell ⟨g,a / 4,none⟩ (.int .u32 (setBN y x (a%4):Nat)):=by
 have hc:=h.ci hy;have hf:=h.frz (a / 4);rw [←(setB_is y x (a%4) (h.lt y (List.mem_of_getElem? hy))).1];have HA:=Aside.mk (at1_ok h a ha h2);go_enter Tryz.func118,Tryz.ntmps118
 go_wp2_with (with_reducible refine HA.out.mono ?_;rintro e w' ⟨rfl,rfl⟩)
 go_ret;exact ⟨rfl,rfl⟩
theorem setbyte_no {w:World} {g n:Nat} {M:List Nat} (h:Mem w g n M) (a x:Nat) (ha:a<4294967296) (h2:¬a / 4<n) :
 Calls Tryz.prog 118 #[.pointer (some ⟨g,0,none⟩),.int .u32 (a:Int),.int .u8 (x:Int)] w fun e w'=>e=.returned (.int .i64 3)∧w'=w:=by
 have HA:=Aside.mk (at1_mem h a ha h2);go_enter Tryz.func118,Tryz.ntmps118
 go_wp2_with (with_reducible refine HA.out.mono ?_;rintro e w' ⟨rfl,rfl⟩)
 go_ret;exact ⟨rfl,rfl⟩
def zeroM:List Nat:=List.replicate 4096 0
set_option maxRecDepth 1000000 in
theorem zeros:Tryz.zeroCells119=(zeroM.map (fun x:Nat=>Value.int .u32 (x:Int))++[Value.int .i64 (0:Int)]).toArray:=by kernel_rfl
theorem zeros_n (n:Nat):Tryz.zeroCells119.setIfInBounds 4096 (.int .i64 (n:Int))=(zeroM.map (fun x:Nat=>Value.int .u32 (x:Int))++[Value.int .i64 (n:Int)]).toArray:=by
 rw [zeros]
 have hl:(zeroM.map (fun x:Nat=>Value.int .u32 (x:Int))).length=4096:=by simp [zeroM]
 generalize zeroM.map (fun x:Nat=>Value.int .u32 (x:Int))=L at hl;simp [List.set_append_right,hl]
theorem memnew_ok (w:World) (n:Nat) (h:n≤4096) :
 Calls Tryz.prog 75 #[.int .i64 (n:Int)] w fun e w'=>e=.returned (.tuple #[.pointer (some ⟨w.heap.size,0,none⟩),.int .i64 0])∧Mem w' w.heap.size n zeroM∧Bl w w':=by
 have i1:¬((n:Int)<0):=by omega
 have i2:¬(4096<(n:Int)):=by omega
 have hz:=Aside.mk (zeros_n n);go_enter Tryz.func75,Tryz.ntmps75;go_wp2;go_ret2;rw [hz.out];exact ⟨rfl,⟨heap_alloc_new w _,by simp [zeroM],h,fun x hx=>(by have e:x=0:=List.eq_of_mem_replicate hx;omega)⟩,(Bl.refl w).alloc _⟩
def u32n (l:List Nat):List Value:=l.map fun x:Nat=>Value.int .u32 (x:Int)
theorem grown_setRow (w:World) (g:Nat) (cs:Array Value):w.grownBy (w.setRow g cs) (some g) :=
 ⟨rfl,rfl,rfl,by simp [World.setRow],fun k _ hk=>setRow_other w g k cs (fun e=>hk (by rw [e]))⟩
structure RdW (w:World) (A:Option Addr) (c:Nat) (l:List Nat):Prop where
 le:l.length≤c
 mx:c≤maxLen
 nil:A=none→l=[]∧c=0
 cells:∀ad,A=some ad→∀j (x:Nat),l[j]? = some x→w.cell? (ad.add j)=some (.int .u32 (x:Int))
theorem RdW.keep {w w':World} {A:Option Addr} {c:Nat} {l:List Nat} (h:RdW w A c l) (k:Bl w w'):RdW w' A c l :=
 ⟨h.le,h.mx,h.nil,fun ad ha j u hj=>k.cell (h.cells ad ha j u hj)⟩
theorem step_copy_row {ops:Array Oper} {o:Oper} {a:Act} {w:World} {K:Act→World→Prop} {Q:Exit→Act→World→Prop} {E:Prop} (d s:Operand)
 (g off dLen dCap:Nat) (cur:List Value) (t:TypeId) (hg:w.heap[g]? = some (.cells cur.toArray t (0,0))) (A:Option Addr) (m c:Nat) (l:List Nat) (hr:RdW w A c l) (hm:l.length=m) (hfit:off+m≤cur.length) (hle:m≤dLen)
 (hgd:o.guard=none) (hop:o.op=.call {callee:=.builtin .copy,args:=#[d,s],argTypes:=#[22,22]}) (hd:a.eval d=.slice (some ⟨g,off,none⟩) dLen dCap) (hs:a.eval s=.slice A m c)
 (hK:∀w',w'.heap[g]? = some (.cells (splice cur off (u32n l)).toArray t (0,0))→w.grownBy w' (some g)→K (a.put o.dst (goInt m)) w') :
 if Region.wanted o (yielded ops a.tmps)=true then Oper.wp Tryz.prog o a w K Q else E:=by
 have hw:Region.wanted o (yielded ops a.tmps)=true:=by simp [Region.wanted,hgd]
 rw [if_pos hw]
 have hsz:(Tryz.prog.info? 56).map (·.size)=some 1:=by kernel_rfl
 have hmin:Nat.min m dLen=m:=Nat.min_eq_left hle
 cases A with
 | none =>
   obtain ⟨rfl,rfl⟩:=hr.nil rfl
   have hm0:m=0:=by simpa using hm.symm
   subst hm0;have hrun:=run_copy_none (P:=Tryz.prog) w 22 22 o.type 56 (some ⟨g,off,none⟩) none dLen dCap 0 0 Tryz.underlying22 hsz hmin;unfold Oper.wp;simp [execOp,hop,resolve,invoke,builtin,hd,hs,hrun,Result.andThen];exact hK w (by simpa [splice,u32n] using hg) ⟨rfl,rfl,rfl,Nat.le_refl _,fun _ _ _=>rfl⟩
 | some ad =>
   have hlen:(u32n l).length=m:=by simpa [u32n] using hm
   have hrun:=run_copy_row (P:=Tryz.prog) w 22 22 o.type 56 g off dLen dCap ad m c cur.toArray t (u32n l) Tryz.underlying22 hsz hg (by rw [hlen,hmin]) (fun j v hv=>by
    rw [u32n,List.getElem?_map] at hv
    cases hq:l[j]? with
    | none=>rw [hq] at hv;cases hv
    | some x =>
      rw [hq] at hv;obtain rfl:=Option.some.inj hv
      exact hr.cells ad rfl j x hq) (by rw [hlen];simpa using hfit) (fun v hv=>by obtain ⟨x,_,rfl⟩:=List.mem_map.1 hv;rfl)
   rw [hlen] at hrun;unfold Oper.wp;simp [execOp,hop,resolve,invoke,builtin,hd,hs,hrun,Result.andThen];refine hK _ ?_ (grown_setRow w g _);rw [setRow_heap w g _ _ t _ hg,splice,hlen]
   try simp
theorem Mem.placed {w w':World} {g n:Nat} {M:List Nat} (h:Mem w g n M) {at_:Nat} {l:List Nat} (hl:at_+l.length≤n) (hx:∀x∈l,x<4294967296)
 (hh:w'.heap[g]? = some (.cells (splice ((M.map fun x:Nat=>Value.int .u32 (x:Int))++[Value.int .i64 (n:Int)]) at_ (u32n l)).toArray 119 (0,0))):Mem w' g n (splice M at_ l):=by
 have hm:=h.len;have hn:=h.le;refine ⟨?_,?_,hn,?_⟩
 · rw [hh]
   congr 3
   simp only [splice,u32n,List.length_map,List.map_append,List.map_take,List.map_drop];rw [List.take_append_of_le_length (by simp;omega),List.drop_append_of_le_length (by simp;omega)];simp
 · simp [splice];omega
 · intro x hxm
   simp only [splice,List.mem_append] at hxm
   rcases hxm with h1 | h1 | h1
   · exact h.lt x (List.mem_of_mem_take h1)
   · exact hx x h1
   · exact h.lt x (List.mem_of_mem_drop h1)
theorem slice_mem (g a n:Nat) (ha:a<4096) (hn:n≤4096) (han:a≤n):∀wx,(Instr.sliceAt 117 (.pointer (some ⟨g,0,none⟩)) (some (.int .i64 (a:Int))) (some (.int .i64 (n:Int))) none).run Tryz.prog wx=.ok (.slice (some ⟨g,a,none⟩) (n - a) (4096 - a)) wx:=by
 intro wx
 have h1:¬(4096=a):=by omega
 have h2:¬(a=4096):=by omega
 have h3:∀b,b=a→(⟨g,0,none⟩:Addr).add b=⟨g,a,none⟩:=fun b hb=>by subst hb;unfold Addr.add;split<;>simp_all
 unfold Instr.sliceAt
 go_simp
 exact fun h=>absurd h (by omega)
set_option maxHeartbeats 2000000 in
theorem place_ok {w:World} {g n:Nat} {M:List Nat} (h:Mem w g n M) (a m:Nat) {A:Option Addr} {c:Nat} {l:List Nat} (hr:Aside (RdW w A c l)) (hm:Aside (l.length=m)) (ha:a<4096) (hfit:a+m≤n) (hx:∀x∈l,x<4294967296) :
 Calls Tryz.prog 43 #[.pointer (some ⟨g,0,none⟩),.int .i64 (a:Int),.slice A m c] w fun e w'=>e=.returned (.int .i64 0)∧Mem w' g n (splice M a l)∧w.grownBy w' (some g):=by
 have hc:=h.cn;have hn:=h.le
 have i1:¬((a:Int)<0):=by omega
 have i2:¬((n:Int)<(a:Int)):=by omega
 have i3:IntKind.i64.wrap ((n:Int) - (a:Int))=(n:Int) - (a:Int):=by simp [IntKind.wrap,IntKind.bits,IntKind.signed];omega
 have i4:¬((n:Int) - (a:Int)<(m:Int)):=by omega
 have ha4:a≤4096:=by omega
 have hfl:a+m≤((M.map fun x:Nat=>Value.int .u32 (x:Int))++[Value.int .i64 (n:Int)]).length:=by have:=h.len;simp;omega
 have hle:m≤n - a:=by omega
 have hsl:=slice_mem g a n ha hn (by omega);have HM:=Aside.mk h;have HF:=Aside.mk hfit;have HX:=Aside.mk hx;clear h hx;go_enter Tryz.func43,Tryz.ntmps43
 go_wp2_with fail
 go_region_law (refine step_copy_row (.tmp 36) (.tmp 37) g a (n - a) (4096 - a) _ 119 HM.out.h A m c l (hr.out.keep (Bl.drew (Bl.refl w))) hm.out hfl hle rfl rfl rfl rfl ?_;intro w2 hg2 hgr2)
 go_wp2;go_ret;exact ⟨rfl,HM.out.placed (by rw [hm.out];exact HF.out) HX.out hg2,⟨hgr2.os,hgr2.tape,hgr2.output,hgr2.size,hgr2.block⟩⟩
theorem slice_all (g n:Nat) (hn:n≤4096):∀wx,(Instr.sliceAt 117 (.pointer (some ⟨g,0,none⟩)) none (some (.int .i64 (n:Int))) none).run Tryz.prog wx=.ok (.slice (some ⟨g,0,none⟩) n 4096) wx:=by
 intro wx;unfold Instr.sliceAt
 go_simp
 exact fun h=>absurd h (by omega)
theorem RdW.own {w:World} {base n:Nat} {v:Value} {l:List Nat} (h:w.ownsRow base 56 1 v n (u32n l)):∃A c,v=.slice A n c∧RdW w A c l∧l.length=n∧∀ad,A=some ad→base≤ad.block∧ad.block<w.heap.size:=by
 have hlt:=h.lt;obtain ⟨h1,h2⟩:=h
 have hn:l.length=n:=by simpa [u32n] using h1
 rcases h2 with ⟨rfl,h0⟩ | ⟨g,cap,cur,rfl,hg,hh,hl,hm,hs,ht⟩
 · subst h0
   have:l=[]:=List.eq_nil_of_length_eq_zero hn;subst this;exact ⟨none,0,rfl,⟨by simp,Nat.zero_le _,fun _=>⟨rfl,rfl⟩,fun _ h=>(by cases h)⟩,rfl,fun _ h=>(by cases h)⟩
 · have ho:w.ownsRow base 56 1 (.slice (some ⟨g,0,none⟩) n cap) n (u32n l):=⟨h1,.inr ⟨g,cap,cur,rfl,hg,hh,hl,hm,hs,ht⟩⟩
   refine ⟨_,cap,rfl,⟨by omega,hm,fun h=>(by cases h),fun ad ha j x hj=>?_⟩,hn,fun ad ha=>?_⟩
   · obtain rfl:=Option.some.inj ha
     exact ho.cells (g:=g) rfl j _ (by rw [u32n,List.getElem?_map,hj];rfl)
   · obtain rfl:=Option.some.inj ha
     exact hlt g rfl
theorem u32n_one (l:List Nat):∀u∈u32n l,u.oneCell'=true:=by
 intro u hu;obtain ⟨x,_,rfl⟩:=List.mem_map.1 hu
 rfl
theorem RdW.vals {w:World} {ad:Addr} {c:Nat} {l:List Nat} (h:RdW w (some ad) c l):∀j u,(u32n l)[j]? = some u→w.cell? (ad.add j)=some u:=by
 intro j u hj;rw [u32n,List.getElem?_map] at hj
 cases hq:l[j]? with
 | none=>rw [hq] at hj;cases hj
 | some x =>
   rw [hq] at hj;obtain rfl:=Option.some.inj hj;exact h.cells ad rfl j x hq
set_option maxHeartbeats 2000000 in
theorem clonew_some {w:World} {ad:Addr} {c:Nat} {l:List Nat} (n:Nat) (hn:Aside (l.length=n)) (h:Aside (RdW w (some ad) c l)) (h63:n≤100000) :
 Calls Tryz.prog 39 #[.slice (some ad) n c] w fun e w'=>∃v,e=.returned v∧w'.ownsRow w.heap.size 56 1 v n (u32n l)∧Bl w w':=by
 obtain ⟨i0,hi,hz0,hz1,hz2⟩:=info_parts infoU;have q22:∀(w:World) (a:Option Addr) (n c n' c':Nat),(binOp .eql 22 (.slice a n c) (.slice none n' c')).run Tryz.prog w=.ok (.bool a.isNone) w:=fun w a n c n' c'=>Lib.run_eql_slice_nil w _ _ a n c n' c' Tryz.underlying22;go_enter Tryz.func39,Tryz.ntmps39
 go_wp2_with (at_builtin;refine wpList_append_own_at _ rfl _ _ 22 rfl w.heap.size 56 i0 (.int .u32 0) 1 4 Tryz.underlying22 hi hz0 hz1 hz2 rfl (by decide) _ _ _ rfl (own_made w 56 1 w.heap.size (Nat.le_refl _)) ad n c (u32n l) rfl (by simp [u32n,hn.out]) (h.out.keep ((Bl.refl _).alloc _)).vals (u32n_one l) (by unfold maxLen;omega) (by omega) (by simp) ?_;intro v' w1 hown hgrow hnil hloc)
 go_wp2;go_ret;exact ⟨v',rfl,by simpa using hown,((Bl.refl w).alloc _).grow hgrow (by intro k hk;have e:w.heap.size=k:=Option.some.inj hk;omega)⟩
theorem clonew_none (w:World) (c:Nat) :
 Calls Tryz.prog 39 #[.slice none 0 c] w fun e w'=>e=.returned (.slice none 0 0)∧w'=w:=by
 have q22:∀(w:World) (a:Option Addr) (n c n' c':Nat),(binOp .eql 22 (.slice a n c) (.slice none n' c')).run Tryz.prog w=.ok (.bool a.isNone) w:=fun w a n c n' c'=>Lib.run_eql_slice_nil w _ _ a n c n' c' Tryz.underlying22;go_enter Tryz.func39,Tryz.ntmps39;go_wp2;go_ret;exact ⟨rfl,rfl⟩
theorem clonew_any {w:World} {A:Option Addr} {c:Nat} {l:List Nat} (n:Nat) (hn:l.length=n) (h:RdW w A c l) (h63:n≤100000) :
 Calls Tryz.prog 39 #[.slice A n c] w fun e w'=>∃v,e=.returned v∧w'.ownsRow w.heap.size 56 1 v n (u32n l)∧Bl w w':=by
 cases A with
 | none =>
   obtain ⟨rfl,rfl⟩:=h.nil rfl
   obtain rfl:n=0:=by simpa using hn.symm
   refine (clonew_none w 0).mono ?_;rintro e w' ⟨rfl,rfl⟩;exact ⟨_,rfl,World.ownsRow_nil _ _ _ _,Bl.refl _⟩
 | some ad=>exact clonew_some n ⟨hn⟩ ⟨h⟩ h63
set_option maxHeartbeats 2000000 in
theorem words_ok {w:World} {g n:Nat} {M:List Nat} (h:Mem w g n M) :
 Calls Tryz.prog 22 #[.pointer (some ⟨g,0,none⟩)] w fun e w'=>∃A c,e=.returned (.slice A n c)∧RdW w' A c (M.take n)∧Bl w w':=by
 have hc:=h.cn;have hn:=h.le;have hsl:=slice_all g n hn
 have hlen:(M.take n).length=n:=by rw [List.length_take];have:=h.len;omega
 have hr:∀wx,Bl w wx→RdW wx (some ⟨g,0,none⟩) 4096 (M.take n):=fun wx hb=>⟨by omega,by decide,fun e=>(by cases e),fun ad ha j x hj=>by
  obtain rfl:=Option.some.inj ha
  have e:(⟨g,0,none⟩:Addr).add j=⟨g,j,none⟩:=by unfold Addr.add;split<;>simp_all
  rw [e];rw [List.getElem?_take] at hj
  split at hj
  · exact (h.keep hb).ci hj
  · cases hj⟩
 have HC:Aside (∀wx,Bl w wx→Calls Tryz.prog 39 #[.slice (some ⟨g,0,none⟩) n 4096] wx fun e w'=>∃v,e=.returned v∧w'.ownsRow wx.heap.size 56 1 v n (u32n (M.take n))∧Bl wx w'):=⟨fun wx hb=>clonew_any n hlen (hr wx hb) (by omega)⟩;clear hr hlen h;go_enter Tryz.func22,Tryz.ntmps22
 go_wp2_with fail
 go_region_held3 (fun w'=>Bl w w'∧w'.cell? ⟨g,4096,none⟩=some (.int .i64 (n:Int))∧w'.cell? ⟨g,4096,none⟩=some (.int .i64 (n:Int))) (((refine keepS hc hc ?_);(repeat (first | (with_reducible assumption) | exact Bl.refl _ | refine Bl.drew ?_ | refine Bl.alloc ?_ _));done)) (first | ((with_reducible refine (HC.out _ (Bl.drew (Bl.refl _))).mono ?_);rintro e w1 ⟨v,rfl,ho,hb⟩;have hB1:Bl w w1:=(Bl.drew (Bl.refl _)).trans hb) | (fail "none"))
 obtain ⟨A,c,rfl,hrd,_,_⟩:=RdW.own ho;go_wp2;go_ret;exact ⟨A,c,rfl,hrd,hB1⟩
def RS.cells (s:RS):List Value:=u32n s.R++[.int .u32 (s.H:Int),.bool s.N,.bool s.Z,.bool s.C,.bool s.V]
def RS.arr (s:RS):Array Value:=s.cells.toArray
structure RS.Ok (s:RS):Prop where
 len:s.R.length=16
 lt:∀x∈s.R,x<4294967296
 hlt:s.H<4294967296
theorem RS.Ok.cell {s:RS} (h:s.Ok):s.arr.size=21∧s.arr[16]? = some (.int .u32 (s.H:Int))∧s.arr[17]? = some (.bool s.N)∧s.arr[18]? = some (.bool s.Z)∧s.arr[19]? = some (.bool s.C)∧s.arr[20]? = some (.bool s.V):=by
 have hl:=h.len
 have hu:(u32n s.R).length=16:=by simpa [u32n] using hl
 refine ⟨by simp [RS.arr,RS.cells,hu],?_,?_,?_,?_,?_⟩<;>simp [RS.arr,RS.cells,List.getElem?_append_right,hu]
theorem one_set {RV:Array Value} {i:Nat} {v:Value} (h:RV.all (·.oneCell')=true) (hv:v.oneCell'=true):(RV.setIfInBounds i v).all (·.oneCell')=true:=by
 rw [Array.all_eq_true_iff_forall_mem] at h ⊢;intro x hx
 rcases Array.mem_or_eq_of_mem_setIfInBounds hx with h1 | h1
 · exact h x h1
 · subst h1;exact hv
theorem RS.one (s:RS):s.arr.all (·.oneCell')=true:=by
 rw [Array.all_eq_true_iff_forall_mem];intro x hx;simp [RS.arr,RS.cells,u32n] at hx
 rcases hx with ⟨a,_,rfl⟩ | rfl | rfl | rfl | rfl | rfl<;>rfl
theorem i68:(Tryz.prog.info? 68).map (·.size)=some 21:=by kernel_rfl
theorem show_arr {s:RS} (h:s.Ok) (x:Nat):(s.arr.setIfInBounds 17 (.bool ((x:Int) / 2147483648==1))).setIfInBounds 18 (.bool ((x:Int)==0))=(showS s x).arr:=by
 have hu:(u32n s.R).length=16:=by simpa [u32n] using h.len
 have e1:((x:Int) / 2147483648==1)=(x / 2147483648==1):=by
  rw [Bool.eq_iff_iff];simp only [beq_iff_eq];omega
 have e2:((x:Int)==0)=(x==0):=by
  rw [Bool.eq_iff_iff];simp only [beq_iff_eq];omega
 rw [e1,e2];simp [RS.arr,RS.cells,showS,List.set_append_right,hu]
theorem show_any {s:RS} (h:s.Ok) (x:Nat) (hx:x<4294967296) (w:World) :
 Calls Tryz.prog 85 #[.agg s.arr,.int .u32 (x:Int)] w fun e w'=>e=.returned (.agg (showS s x).arr)∧Bl w w':=by
 obtain ⟨hz,h16,h17,h18,h19,h20⟩:=h.cell;have hS:=Aside.mk (show_arr h x);have ho:=Aside.mk s.one;obtain ⟨RV,hRV⟩:∃RV,s.arr=RV:=⟨_,rfl⟩;rw [hRV] at hz h16 h17 h18 h19 h20 hS ho ⊢;have hz2:Aside (((RV.setIfInBounds 17 (.bool ((x:Int) / 2147483648==1))).setIfInBounds 18 (.bool ((x:Int)==0))).size=21):=⟨by simp [hz]⟩;have h12:Aside (((RV.setIfInBounds 17 (.bool ((x:Int) / 2147483648==1))).setIfInBounds 18 (.bool ((x:Int)==0))).all (·.oneCell')=true):=⟨one_set (one_set ho.out rfl) rfl⟩
 go_enter Tryz.func85,Tryz.ntmps85
 go_wp2_with (first
  | (refine wpList_load_row rfl 68 (.tmp 2) rfl w.heap.size rfl 68 _ (0,0) _ (heap_alloc2_old w _ _) Tryz.underlying68 rfl (by rw [hz2.out];exact i68) ?_)
  | (refine wpList_store_row rfl 68 (.tmp 4) (.tmp 12) rfl (w.heap.size+1) _ rfl rfl 68 _ (heap_alloc2_new w _ _) (by rw [hz2.out];exact i68) (by rw [hz2.out];rfl) h12.out ?_)
  | fail)
 refine bodyPost_ret (results_cell_row rfl _ _ (w.heap.size+1) 68 _ (0,0) _ rfl (setRow_heap _ _ _ _ _ (0,0) (heap_alloc2_new w _ _)) Tryz.underlying68 rfl (by rw [hz2.out];exact i68)) rfl ?_;rw [hS.out];exact ⟨rfl,⟨below_setRow (((Bl.refl w).alloc _).alloc _).out (by omega) _⟩⟩
end Go.Proofs.YtjmiaemabhlnjaaGreatDoor.Chains.Shifts
end
