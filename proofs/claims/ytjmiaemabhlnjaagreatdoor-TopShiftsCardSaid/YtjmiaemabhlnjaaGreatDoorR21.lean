/- A part of the proof of TopShifts. -/
import Derived.Maps.RangeWalk
import Derived.RegionTactic
import Derived.Shelf.Strings.Builder1
import Derived.Shelf.Strings.Builder2
import Derived.Shelf.Strings.Trim
import Derived.Shelf.Small.Utf8
import Derived.Shelf.Small.Strs
import Derived.Shelf.Utf8.RuneCount
import Derived.Shelf.Strconv.Itoa0
import Derived.Shelf.Strconv.Itoa1
import Derived.Shelf.LaysM
import Derived.Shelf.Strconv.Itoa2
import Derived.Shelf.Strconv.Itoa3
import Derived.Shelf.Strings.Search1
import Derived.Shelf.Strings.Search2
import Derived.Shelf.Strings.Search3
import Derived.Shelf.Strings.Count
import Derived.Shelf.Strings.Shaped
import Derived.Shelf.Strings.Prefix
import Derived.Shelf.Strings.Split
import Derived.Shelf.Strings.Fields
import Derived.Shelf.Strings.Replace
import Derived.Shelf.Strings.SplitShaped
import Derived.Shelf.Unicode.Latin
import Derived.Shelf.Unicode.Decode
import Derived.Shelf.Strings.Runes
import Derived.Shelf.Strings.RuneCount
import Derived.Shelf.Strings.AsciiSet
import Derived.Shelf.Strings.Explode
import Derived.Shelf.Unicode.DecodeSlow
import Derived.Shelf.Unicode.DecodeAny
import Derived.Shelf.Unicode.Is16White
import Derived.Shelf.Unicode.IsSpaceAny
import Derived.Shelf.Unicode.DecodeLast
import Derived.Shelf.Unicode.Is16WhiteD
import Derived.Shelf.Unicode.Is16Any
import Derived.Shelf.Unicode.Is32Any
import Derived.Shelf.Unicode.ExclAny
import Derived.Shelf.Slices.Reverse
import Derived.Shelf.Slices.Cells
import Derived.Ground.SlgnProg
import Derived.Shelf.SlicesE.Clone
import Derived.Test.YtjmiaemabhlnjaaGreatDoorProg
import Derived.WalkKit
import Derived.DeepKeys4
import Derived.Shelf.Abstract
import Derived.OwnWalk
import Derived.StillTailTactics
import Derived.Maps.AppendAt
import Derived.Deep.QuietTactic
import Derived.KernelRfl
import Derived.RowKit3
import Derived.Below
import Derived.OrdersHeld
import Derived.LoopN
import Derived.Scope
import Derived.Laws.Append
import Derived.Laws.AppendOwn
import Derived.Laws.Cells
import Derived.Laws.StructEq
import Derived.Laws.Strings
import Derived.Laws.Small
import Derived.ChangeKeysEq
section
set_option linter.all false
set_option maxRecDepth 20000
namespace Go.YtjmiaemabhlnjaaGreatDoorMap
open Go Go.ChangeMaps
open Go.Maps (Keyed)
abbrev Pair:=Value×Value
def pr (e:MapEntry):Pair:=(e.key,e.val)
def MapIs (w:World) (b:Nat) (L:List Pair):Prop :=
 ∃es clock,w.heap[b]? = some (.map es clock)∧(es.toList.map pr).Perm L∧(es.toList.map (·.born)).Nodup∧∀e∈es.toList,e.born<clock
def IterAt (w:World) (b r:Nat) (L left:List Pair):Prop :=
 ∃es clock since seen c0,w.heap[b]? = some (.map es clock)∧(es.toList.map pr).Perm L∧(es.toList.map (·.born)).Nodup∧(∀e∈es.toList,e.born<clock) ∧
  w.heap[r]? = some (.mapIter (some b) since seen c0)∧(∀e∈es.toList,e.born<since)∧since≤c0∧since≤clock∧((leftOf es seen).toList.map pr).Perm left
theorem MapIs.lt {w:World} {b:Nat} {L:List Pair} (h:MapIs w b L):b<w.heap.size:=by
 obtain ⟨es,clock,hb,_⟩:=h;exact (Array.getElem?_eq_some_iff.1 hb).1
theorem IterAt.lt {w:World} {b r:Nat} {L l:List Pair} (h:IterAt w b r L l):r<w.heap.size:=by
 obtain ⟨es,clock,since,seen,c0,_,_,_,_,hr,_⟩:=h;exact (Array.getElem?_eq_some_iff.1 hr).1
theorem IterAt.map {w:World} {b r:Nat} {L l:List Pair} (h:IterAt w b r L l):MapIs w b L:=by
 obtain ⟨es,clock,since,seen,c0,hb,hp,hn,hc,_⟩:=h;exact ⟨es,clock,hb,hp,hn,hc⟩
theorem IterAt.ne {w:World} {b r:Nat} {L l:List Pair} (h:IterAt w b r L l):r≠b:=by
 obtain ⟨es,clock,since,seen,c0,hb,_,_,_,hr,_⟩:=h;intro e;rw [e,hb] at hr;cases hr
theorem MapIs.same {w w':World} {b:Nat} {L:List Pair} (h:MapIs w b L) (hb':w'.heap[b]? = w.heap[b]?):MapIs w' b L:=by
 obtain ⟨es,clock,hb,r⟩:=h;exact ⟨es,clock,hb'.trans hb,r⟩
theorem IterAt.same {w w':World} {b r:Nat} {L l:List Pair} (h:IterAt w b r L l) (hb':w'.heap[b]? = w.heap[b]?) (hr':w'.heap[r]? = w.heap[r]?):IterAt w' b r L l:=by
 obtain ⟨es,clock,since,seen,c0,hb,h1,h2,h3,hr,h4⟩:=h;exact ⟨es,clock,since,seen,c0,hb'.trans hb,h1,h2,h3,hr'.trans hr,h4⟩
theorem MapIs.kept {w w':World} {b:Nat} {row:Option Nat} {L:List Pair} (h:MapIs w b L) (hg:w.grownBy w' row) (hne:some b≠row):MapIs w' b L :=
 h.same (hg.block b h.lt hne)
theorem IterAt.kept {w w':World} {b r:Nat} {row:Option Nat} {L l:List Pair} (h:IterAt w b r L l) (hg:w.grownBy w' row) (hne:some b≠row) (hne':some r≠row):IterAt w' b r L l :=
 h.same (hg.block b h.map.lt hne) (hg.block r h.lt hne')
theorem MapIs.perm {w:World} {b:Nat} {L L':List Pair} (h:MapIs w b L) (hp:L.Perm L'):MapIs w b L':=by
 obtain ⟨es,clock,hb,h1,h2⟩:=h;exact ⟨es,clock,hb,h1.trans hp,h2⟩
theorem MapIs.made (w:World):MapIs (w.alloc (.map #[] 0)) w.heap.size [] :=
 ⟨#[],0,heap_alloc_new w _,by simp,by simp,by simp⟩
variable {P:Program}
theorem MapIs.insert {w:World} {b:Nat} {L:List Pair} {t k e:TypeId} (h:MapIs w b L) (K:Keyed P k) (ht:P.underlying t=some (.map k e)) {key val:Value} {kl:Lit}
 (hkey:keyOf P k key=some kl) (hall:∀p∈L,∃l,keyOf P k p.1=some l) (hnew:∀p∈L,p.1≠key) :
 ∃w',(Instr.mapUpdate t (.map (some b)) key val).run P w=.ok () w'∧MapIs w' b ((key,val)::L)∧w.grownBy w' (some b)∧w'.heap.size=w.heap.size:=by
 obtain ⟨es,clock,hb,hp,hn,hc⟩:=h;have hmem:∀x∈es.toList,pr x∈L:=fun x hx=>hp.mem_iff.1 (List.mem_map_of_mem hx)
 have hfind:(Instr.findKey k key es.toList).run P w=.ok none w:=by
  rcases K.find w hkey es.toList (fun x hx=>hall _ (hmem x hx)) with h1 | ⟨j,x,_,h2,h3⟩
  · exact h1.1
  · exact absurd h3 (hnew _ (hmem x (List.mem_of_getElem? h2)))
 have hg:(getObj b).run P w=.ok (.map es clock) w:=by simp [getObj,Sem.run,hb]
 have hlt:=(Array.getElem?_eq_some_iff.1 hb).1;refine ⟨setBlock w b (.map (es.push ⟨key,val,clock⟩) (clock+1)),?_,⟨_,_,heap_setBlock_same hb _,?_,?_,?_⟩,⟨rfl,rfl,rfl,by simp [setBlock],fun i _ hi=>heap_setBlock_other hb _ (fun e=>hi (by rw [e]))⟩,by simp [setBlock]⟩
 · simp only [Instr.mapUpdate,Sem.run_bind,run_underlying ht,Result.andThen,hg,K.check w false hkey,hfind]
   simp [setObj,Sem.run,hb,setBlock]
 · simp only [Array.toList_push,List.map_append,List.map_cons,List.map_nil]
   refine (List.perm_append_comm).trans ?_;exact List.Perm.cons _ hp
 · simp only [Array.toList_push,List.map_append,List.map_cons,List.map_nil]
   rw [List.nodup_append];refine ⟨hn,by simp,fun x hx y hy=>?_⟩;obtain ⟨z,hz,rfl⟩:=List.mem_map.1 hx;have:=hc z hz;simp at hy;omega
 · intro x hx
   simp only [Array.toList_push,List.mem_append,List.mem_singleton] at hx
   rcases hx with hx | rfl
   · have:=hc x hx
     omega
   · simp
theorem MapIs.range {w:World} {b:Nat} {L:List Pair} {t k e:TypeId} (h:MapIs w b L) (ht:P.underlying t=some (.map k e)) :
 ∃w',(Instr.range t (.map (some b))).run P w=.ok (.pointer (some ⟨w.heap.size,0,none⟩)) w'∧IterAt w' b w.heap.size L L∧w.grownBy w' none∧w'.heap.size=w.heap.size+1:=by
 have hlt:=h.lt;obtain ⟨es,clock,hb,hp,hn,hc⟩:=h;refine ⟨_,run_range_map w t k e b es clock ht hb,⟨es,clock,clock,#[],clock,((MapKept.heap_alloc w _).2 b hlt).trans hb,hp,hn,hc,(MapKept.heap_alloc w _).1,hc,Nat.le_refl _,Nat.le_refl _,?_⟩,World.grownBy_alloc w _ none,by simp⟩
 have:leftOf es #[]=es:=by
  unfold leftOf;rw [Array.filter_eq_self.2];intro x _;simp
 rw [this];exact hp
theorem left_push {es:List MapEntry} {seen:Array Nat} {e:MapEntry} (he:e∈es) (hs:seen.contains e.born=false) (hn:(es.map (·.born)).Nodup) :
 (es.filter fun x => !seen.contains x.born).Perm (e::es.filter fun x => !(seen.push e.born).contains x.born):=by
 induction es with
 | nil=>simp at he
 | cons a l ih =>
   simp only [List.map_cons,List.nodup_cons] at hn
   rcases List.mem_cons.1 he with rfl | he'
   · have h1:(l.filter fun x => !(seen.push e.born).contains x.born)=l.filter fun x => !seen.contains x.born:=by
      apply List.filter_congr
      intro x hx;have:x.born≠e.born:=fun h=>hn.1 (by rw [←h];exact List.mem_map_of_mem (f:=(·.born)) hx)
      have h2:(seen.push e.born).contains x.born=seen.contains x.born:=by
       simp [Array.contains_push,this]
      rw [h2]
     have h3:(seen.push e.born).contains e.born=true:=by simp [Array.contains_push]
     simp only [List.filter_cons,hs,h3,Bool.not_false,if_true,Bool.not_true,Bool.false_eq_true,if_false,h1];exact List.Perm.refl _
   · have hne:a.born≠e.born:=fun h=>hn.1 (by rw [h];exact List.mem_map_of_mem (f:=(·.born)) he')
     have h2:(seen.push e.born).contains a.born=seen.contains a.born:=by
      simp [Array.contains_push,hne]
     simp only [List.filter_cons,h2]
     split
     · exact ((ih he' hn.2).cons a).trans (List.Perm.swap _ _ _)
     · exact ih he' hn.2
theorem sb_other (w:World) (r:Nat) (o:Obj) {i:Nat} (h:i≠r):(setBlock w r o).heap[i]? = w.heap[i]? := by
 simp only [setBlock,Array.getElem?_setIfInBounds];rw [if_neg (Ne.symm h)]
theorem sb_same {w:World} {r:Nat} (o:Obj) (h:r<w.heap.size):(setBlock w r o).heap[r]? = some o:=by
 simp [setBlock,h]
theorem IterAt.next {w:World} {b r:Nat} {L left:List Pair} (h:IterAt w b r L left) (ty:TypeId) :
 (left=[]∧(Instr.next (.pointer (some ⟨r,0,none⟩)) false ty).run P w=.ok (.tuple #[.bool false]) w) ∨
 ∃k v left' w',left.Perm ((k,v)::left')∧(Instr.next (.pointer (some ⟨r,0,none⟩)) false ty).run P w=.ok (.tuple #[.bool true,k,v]) w'∧IterAt w' b r L left' ∧
  (Instr.entry (.pointer (some ⟨r,0,none⟩))).run P w'=.ok (.tuple #[k,v]) w'∧w'.heap.size=w.heap.size∧w'.os=w.os∧w'.output=w.output∧w'.tape=w.tape∧∀i,i≠r→w'.heap[i]? = w.heap[i]? := by
 have hne:=h.ne;obtain ⟨es,clock,since,seen,c0,hb,hp,hn,hc,hr,hold,hs0,hsc,hl⟩:=h
 rcases run_next_at (P:=P) w ty r b since c0 seen es clock hr hb hold hs0 with ⟨h0,hrun⟩ | ⟨e,he,w1,hw1,hrun⟩
 · refine Or.inl ⟨?_,hrun⟩
   have:(leftOf es seen).toList=[]:=by
    apply List.eq_nil_of_length_eq_zero
    simpa using h0
   rw [this] at hl;exact (List.Perm.nil_eq hl).symm
 · right
   have he':e∈es.toList∧seen.contains e.born=false:=by
    simpa [leftOf] using he
   have hb1:w1.heap[b]? = some (.map es clock):=by rcases hw1 with rfl | rfl<;>exact hb
   have hr1:w1.heap[r]? = some (.mapIter (some b) since seen c0):=by rcases hw1 with rfl | rfl<;>exact hr
   have hb2:(setBlock w1 r (.mapIter (some b) since (seen.push e.born) clock)).heap[b]? = some (.map es clock):=(sb_other w1 r _ (Ne.symm hne)).trans hb1;have hr2:=sb_same (w:=w1) (r:=r) (.mapIter (some b) since (seen.push e.born) clock) (Array.getElem?_eq_some_iff.1 hr1).1;refine ⟨e.key,e.val,(leftOf es (seen.push e.born)).toList.map pr,_,?_,hrun,⟨es,clock,since,_,clock,hb2,hp,hn,hc,hr2,hold,hsc,hsc,List.Perm.refl _⟩,run_entry_at _ r b since seen es clock e hr2 hb2 he'.1 hn,?_,?_,?_,?_,?_⟩
   · refine hl.symm.trans ?_
     have:=(left_push (seen:=seen) he'.1 he'.2 hn).map pr
     simpa [leftOf,pr] using this
   · rcases hw1 with rfl | rfl<;>simp only [setBlock,Array.size_setIfInBounds]<;>rfl
   · rcases hw1 with rfl | rfl<;>rfl
   · rcases hw1 with rfl | rfl<;>rfl
   · rcases hw1 with rfl | rfl<;>rfl
   · intro i hi
     rw [sb_other w1 r _ hi]
     rcases hw1 with rfl | rfl<;>rfl
end Go.YtjmiaemabhlnjaaGreatDoorMap
end
section
set_option linter.all false
set_option maxRecDepth 20000
namespace Go.YtjmiaemabhlnjaaGreatDoorMap
open Go
variable {P:Program} {ops:Array Oper} {Q:Exit→Act→World→Prop}
def deps (o:Oper):List Nat:=(o.after.toList.filter (Region.binds .any)).map (·.on)
theorem ready_of {l:Array Bool} {i:Nat} (h:i∈Region.ready .any ops l):∃o,ops[i]? = some o∧l.getD i true=false∧∀k∈deps o,l.getD k false=true:=by
 obtain ⟨h0,o,ho,hall⟩:=mem_ready.1 h;refine ⟨o,ho,h0,fun k hk=>?_⟩;simp only [deps,List.mem_map,List.mem_filter,Array.mem_toList_iff] at hk;obtain ⟨e,⟨he,hb⟩,rfl⟩:=hk;exact hall e he hb
theorem of_ready {l:Array Bool} {i:Nat} {o:Oper} (ho:ops[i]? = some o) (h0:l.getD i true=false) (hd:∀k∈deps o,l.getD k false=true):i∈Region.ready .any ops l:=by
 refine mem_ready.2 ⟨h0,o,ho,fun e he hb=>hd _ ?_⟩;simp only [deps,List.mem_map,List.mem_filter,Array.mem_toList_iff];exact ⟨e,⟨he,hb⟩,rfl⟩
theorem count_set:∀(l:List Bool) (i:Nat),l[i]? = some false→(l.set i true).count false+1=l.count false
 | [],i,h=>by simp at h
 | x::l,0,h=>by
   simp only [List.getElem?_cons_zero,Option.some.injEq] at h;subst h;simp
 | x::l,i+1,h=>by
   simp only [List.getElem?_cons_succ] at h;have:=count_set l i h;simp only [List.set_cons_succ,List.count_cons];omega
theorem getD_false {l:Array Bool} {i:Nat} (h:l.getD i true=false):l.toList[i]? = some false:=by
 simp only [Array.getElem?_toList];rw [Array.getD_eq_getD_getElem?] at h
 cases hl:l[i]? with
 | none=>rw [hl] at h;simp at h
 | some b=>rw [hl] at h;simp at h;rw [h]
theorem wpAny_inv {I:Array Bool→Act→World→Prop} (hdone:∀l a w,I l a w→Region.ready .any ops l=[]→Q .normal a w)
 (hstep:∀l a w,I l a w→∀i o,ops[i]? = some o→l.getD i true=false→(∀k∈deps o,l.getD k false=true)→wpOp P ops Q i (I (l.setIfInBounds i true)) a w) :
 ∀(n:Nat) (l:Array Bool) (a:Act) (w:World),l.toList.count false≤n→I l a w→wpAny P .any ops Q n l a w
 | 0,l,a,w,hn,hI=>by
   have:Region.ready .any ops l=[]:=by
    apply List.eq_nil_iff_forall_not_mem.2
    intro i hi;obtain ⟨o,ho,h0,_⟩:=ready_of hi;have h1:=count_set _ _ (getD_false h0);omega
   exact ⟨this,hdone l a w hI this⟩
 | n+1,l,a,w,hn,hI=>by
   refine ⟨hdone l a w hI,fun i hi=>?_⟩;obtain ⟨o,ho,h0,hd⟩:=ready_of hi;refine wpOp_mono (fun a' w' h'=>wpAny_inv hdone hstep n _ a' w' ?_ h') (hstep l a w hI i o ho h0 hd);have h1:=count_set _ _ (getD_false h0);rw [Array.toList_setIfInBounds];omega
theorem all_listed {l:Array Bool} (hord:∀i o,ops[i]? = some o→∀k∈deps o,k<i) (hl:l.size=ops.size) (hr:Region.ready .any ops l=[]):∀i,i<ops.size→l.getD i false=true:=by
 intro i
 induction i using Nat.strongRecOn with
 | ind i ih =>
   intro hi
   by_cases h0:l.getD i true=false
   · exfalso
     obtain ⟨o,ho⟩:∃o,ops[i]? = some o:=⟨ops[i],Array.getElem?_eq_getElem hi⟩;have:=of_ready (l:=l) ho h0 fun k hk=>ih k (hord i o ho k hk) (Nat.lt_trans (hord i o ho k hk) hi);rw [hr] at this;cases this
   · have hil:i<l.size:=by omega
     simp only [Array.getD_eq_getD_getElem?,Array.getElem?_eq_getElem hil,Option.getD_some] at h0 ⊢
     simpa using h0
variable {α:Type}
def laidIn (l:Array Bool) (ins:List (Nat×α)):List α:=(ins.filter fun p=>l.getD p.1 false).map (·.2)
theorem laidIn_other {l:Array Bool} {i:Nat} {ins:List (Nat×α)} (h:∀p∈ins,p.1≠i):laidIn (l.setIfInBounds i true) ins=laidIn l ins:=by
 unfold laidIn
 congr 1
 apply List.filter_congr
 intro p hp;exact getD_set_ne false (Ne.symm (h p hp))
theorem laidIn_new {l:Array Bool} {i:Nat} {x:α} (hi:l.getD i true=false):∀{ins:List (Nat×α)},(ins.map (·.1)).Nodup→(i,x)∈ins→(x::laidIn l ins).Perm (laidIn (l.setIfInBounds i true) ins)
 | [],_,h=>by cases h
 | p::ins,hn,h=>by
   simp only [List.map_cons,List.nodup_cons] at hn
   have hlt:i<l.size:=by
    rcases Nat.lt_or_ge i l.size with h' | h'
    · exact h'
    · rw [Array.getD_eq_getD_getElem?,Array.getElem?_eq_none h'] at hi
      simp at hi
   have hset:(l.setIfInBounds i true).getD i false=true:=by simp [hlt]
   have hi':l.getD i false=false:=by
    rw [Array.getD_eq_getD_getElem?,Array.getElem?_eq_getElem hlt] at hi ⊢
    simpa using hi
   rcases List.mem_cons.1 h with rfl | h'
   · have ho:laidIn (l.setIfInBounds i true) ins=laidIn l ins:=laidIn_other fun q hq e=>hn.1 (by rw [←e];exact List.mem_map_of_mem (f:=(·.1)) hq)
     unfold laidIn at ho ⊢;simp only [List.filter_cons,hset,hi',if_true,Bool.false_eq_true,if_false,List.map_cons];rw [ho]
   · have hne:i≠p.1:=fun e=>hn.1 (by rw [←e];exact List.mem_map_of_mem (f:=(·.1)) h')
     have ih:=laidIn_new hi hn.2 h';unfold laidIn at ih ⊢;simp only [List.filter_cons,getD_set_ne false hne]
     split
     · simp only [List.map_cons]
       exact (List.Perm.swap _ _ _).trans (ih.cons _)
     · exact ih
theorem laidIn_sub {l:Array Bool} {ins:List (Nat×α)} {x:α} (h:x∈laidIn l ins):∃i,(i,x)∈ins∧l.getD i false=true:=by
 simp only [laidIn,List.mem_map,List.mem_filter] at h;obtain ⟨⟨i,y⟩,⟨h1,h2⟩,rfl⟩:=h;exact ⟨i,h1,h2⟩
theorem laidIn_all {l:Array Bool} {ins:List (Nat×α)} (h:∀p∈ins,l.getD p.1 false=true):laidIn l ins=ins.map (·.2):=by
 unfold laidIn;rw [List.filter_eq_self.2 h]
theorem laidIn_none {l:Array Bool} {ins:List (Nat×α)} (h:∀p∈ins,l.getD p.1 false=false):laidIn l ins=[]:=by
 unfold laidIn;rw [List.filter_eq_nil_iff.2 (fun p hp=>by simp [h p hp])]
 rfl
end Go.YtjmiaemabhlnjaaGreatDoorMap
end
section
set_option linter.all false
set_option maxRecDepth 20000
namespace Go.Proofs
def Tryz.lays102_ren:Go.Shelf.Ren:=⟨fun | 102=>210 | 209=>235 | 207=>247 | n=>n,fun | 9=>9 | 4=>4 | 3=>3 | n=>n,fun | n=>n⟩
theorem Tryz.lays102:Go.Proofs.Lays.n102 Tryz.prog Tryz.lays102_ren:={
 mixed:=by kernel_rfl
 f102:=Tryz.func210.trans (congrArg some (by kernel_rfl))
 f207:=Tryz.func247.trans (congrArg some (by kernel_rfl))
 f209:=Tryz.func235.trans (congrArg some (by kernel_rfl))
 t3:=Tryz.underlying3
 a3:=Tryz.isAgg3
 z3:=Tryz.sizeOf3
 v3:=Tryz.zeroValue3
 t4:=Tryz.underlying4
 a4:=Tryz.isAgg4
 z4:=Tryz.sizeOf4
 v4:=Tryz.zeroValue4
 t9:=Tryz.underlying9
 a9:=Tryz.isAgg9
 z9:=Tryz.sizeOf9
 v9:=Tryz.zeroValue9}
open Go.RowKit Go.Lib in
theorem Tryz.strings_TrimSuffix (s p:ByteArray) (w:World) (hs:s.size≤9223372036854775807) :
 Calls Tryz.prog 210 #[.string s,.string p] w fun e w'=>e=.returned (.string ⟨(Lib.trimSuffix s.data.toList p.data.toList).toArray⟩)∧w'=w:=Any.strings_TrimSuffix Tryz.lays102 s p w hs
def Tryz.lays157_ren:Go.Shelf.Ren:=⟨fun | 157=>209 | 229=>233 | 199=>234 | 261=>246 | 311=>259 | 312=>260 | n=>n,fun | 9=>9 | 31=>24 | 3=>3 | 5=>5 | 4=>4 | 119=>291 | 0=>0 | 40=>303 | 152=>317 | 21=>21 | 154=>319 | 51=>56 | 141=>321 | 196=>336 | 193=>333 | 198=>339 | 49=>337 | 194=>334 | 201=>342 | 226=>356 | 46=>109 | 227=>357 | n=>n,fun | 0=>3 | 6=>6 | n=>n⟩
theorem Tryz.lays157:Go.Proofs.Lays.n157 Tryz.prog Tryz.lays157_ren:={
 mixed:=by kernel_rfl
 f157:=Tryz.func209.trans (congrArg some (by kernel_rfl))
 f199:=Tryz.func234.trans (congrArg some (by kernel_rfl))
 f229:=Tryz.func233.trans (congrArg some (by kernel_rfl))
 f261:=Tryz.func246.trans (congrArg some (by kernel_rfl))
 f311:=Tryz.func259.trans (congrArg some (by kernel_rfl))
 f312:=Tryz.func260.trans (congrArg some (by kernel_rfl))
 t0:=Tryz.underlying0
 a0:=Tryz.isAgg0
 z0:=Tryz.sizeOf0
 v0:=Tryz.zeroValue0
 t3:=Tryz.underlying3
 a3:=Tryz.isAgg3
 z3:=Tryz.sizeOf3
 v3:=Tryz.zeroValue3
 t4:=Tryz.underlying4
 a4:=Tryz.isAgg4
 z4:=Tryz.sizeOf4
 v4:=Tryz.zeroValue4
 t5:=Tryz.underlying5
 a5:=Tryz.isAgg5
 z5:=Tryz.sizeOf5
 v5:=Tryz.zeroValue5
 t9:=Tryz.underlying9
 a9:=Tryz.isAgg9
 z9:=Tryz.sizeOf9
 v9:=Tryz.zeroValue9
 t21:=Tryz.underlying21
 a21:=Tryz.isAgg21
 z21:=Tryz.sizeOf21
 v21:=Tryz.zeroValue21
 t31:=Tryz.underlying24
 a31:=Tryz.isAgg24
 z31:=Tryz.sizeOf24
 v31:=Tryz.zeroValue24
 t40:=Tryz.underlying303
 a40:=Tryz.isAgg303
 z40:=Tryz.sizeOf303
 v40:=Tryz.zeroValue303
 t46:=Tryz.underlying109
 a46:=Tryz.isAgg109
 z46:=Tryz.sizeOf109
 v46:=Tryz.zeroValue109
 t49:=Tryz.underlying337
 a49:=Tryz.isAgg337
 z49:=Tryz.sizeOf337
 v49:=Tryz.zeroValue337
 t51:=Tryz.underlying56
 a51:=Tryz.isAgg56
 z51:=Tryz.sizeOf56
 v51:=Tryz.zeroValue56
 t119:=Tryz.underlying291
 a119:=Tryz.isAgg291
 z119:=Tryz.sizeOf291
 t141:=Tryz.underlying321
 a141:=Tryz.isAgg321
 z141:=Tryz.sizeOf321
 v141:=Tryz.zeroValue321
 t152:=Tryz.underlying317
 a152:=Tryz.isAgg317
 z152:=Tryz.sizeOf317
 v152:=Tryz.zeroValue317
 t154:=Tryz.underlying319
 a154:=Tryz.isAgg319
 z154:=Tryz.sizeOf319
 v154:=Tryz.zeroValue319
 t193:=Tryz.underlying333
 a193:=Tryz.isAgg333
 z193:=Tryz.sizeOf333
 v193:=Tryz.zeroValue333
 t194:=Tryz.underlying334
 a194:=Tryz.isAgg334
 z194:=Tryz.sizeOf334
 v194:=Tryz.zeroValue334
 t196:=Tryz.underlying336
 a196:=Tryz.isAgg336
 z196:=Tryz.sizeOf336
 v196:=Tryz.zeroValue336
 t198:=Tryz.underlying339
 a198:=Tryz.isAgg339
 z198:=Tryz.sizeOf339
 v198:=Tryz.zeroValue339
 t201:=Tryz.underlying342
 a201:=Tryz.isAgg342
 z201:=Tryz.sizeOf342
 v201:=Tryz.zeroValue342
 t226:=Tryz.underlying356
 a226:=Tryz.isAgg356
 z226:=Tryz.sizeOf356
 v226:=Tryz.zeroValue356
 t227:=Tryz.underlying357
 a227:=Tryz.isAgg357
 z227:=Tryz.sizeOf357
 v227:=Tryz.zeroValue357
 g0:=by kernel_rfl
 g6:=by kernel_rfl}
open Go.RowKit Go.Lib in
theorem Tryz.strings_Fields (s:ByteArray) (w:World) (hs:s.size<4294967281) (hascii:∀(j:Nat) b,s.data.toList[j]? = some b→b.toNat<128) (htab:Lib.TabIs Tryz.prog w "strings.asciiSpace" .u8 Lib.asciiSpaceTab) :
 Calls Tryz.prog 209 #[.string s] w fun e w' =>
  e=.returned (.slice (some ⟨w.heap.size,0,none⟩) (Lib.fields s.data.toList).length (Lib.fields s.data.toList).length)∧w'=w.alloc (.cells ((Lib.fields s.data.toList).map fun l=>Value.string ⟨l.toArray⟩).toArray 9):=Any.strings_Fields Tryz.lays157 (by kernel_rfl) (by kernel_rfl) s w hs hascii htab
def Tryz.lays155_ren:Go.Shelf.Ren:=⟨fun | 155=>232 | 154=>245 | 138=>124 | 165=>256 | 143=>125 | 166=>257 | 197=>168 | 169=>258 | 195=>167 | 218=>169 | 240=>270 | 241=>271 | 219=>170 | 260=>200 | 276=>277 | 277=>278 | 217=>174 | 225=>201 | 224=>202 | 267=>203 | 266=>207 | 314=>224 | n=>n,fun | 9=>9 | 3=>3 | 4=>4 | 72=>331 | 0=>0 | 76=>287 | 105=>252 | 21=>21 | 5=>5 | 70=>329 | 20=>20 | 37=>23 | 75=>259 | 127=>325 | 164=>362 | 46=>109 | 119=>291 | 139=>294 | 138=>293 | 146=>247 | 51=>56 | 80=>332 | n=>n,fun | 1=>0 | 3=>1 | 4=>2 | n=>n⟩
theorem Tryz.lays155:Go.Proofs.Lays.n155 Tryz.prog Tryz.lays155_ren:={
 mixed:=by kernel_rfl
 f138:=Tryz.func124.trans (congrArg some (by kernel_rfl))
 f143:=Tryz.func125.trans (congrArg some (by kernel_rfl))
 f154:=Tryz.func245.trans (congrArg some (by kernel_rfl))
 f155:=Tryz.func232.trans (congrArg some (by kernel_rfl))
 f165:=Tryz.func256.trans (congrArg some (by kernel_rfl))
 f166:=Tryz.func257.trans (congrArg some (by kernel_rfl))
 f169:=Tryz.func258.trans (congrArg some (by kernel_rfl))
 f195:=Tryz.func167.trans (congrArg some (by kernel_rfl))
 f197:=Tryz.func168.trans (congrArg some (by kernel_rfl))
 f217:=Tryz.func174.trans (congrArg some (by kernel_rfl))
 f218:=Tryz.func169.trans (congrArg some (by kernel_rfl))
 f219:=Tryz.func170.trans (congrArg some (by kernel_rfl))
 f224:=Tryz.func202.trans (congrArg some (by kernel_rfl))
 f225:=Tryz.func201.trans (congrArg some (by kernel_rfl))
 f240:=Tryz.func270.trans (congrArg some (by kernel_rfl))
 f241:=Tryz.func271.trans (congrArg some (by kernel_rfl))
 f260:=Tryz.func200.trans (congrArg some (by kernel_rfl))
 f266:=Tryz.func207.trans (congrArg some (by kernel_rfl))
 f267:=Tryz.func203.trans (congrArg some (by kernel_rfl))
 f276:=Tryz.func277.trans (congrArg some (by kernel_rfl))
 f277:=Tryz.func278.trans (congrArg some (by kernel_rfl))
 f314:=Tryz.func224.trans (congrArg some (by kernel_rfl))
 t0:=Tryz.underlying0
 a0:=Tryz.isAgg0
 z0:=Tryz.sizeOf0
 v0:=Tryz.zeroValue0
 t3:=Tryz.underlying3
 a3:=Tryz.isAgg3
 z3:=Tryz.sizeOf3
 v3:=Tryz.zeroValue3
 t4:=Tryz.underlying4
 a4:=Tryz.isAgg4
 z4:=Tryz.sizeOf4
 v4:=Tryz.zeroValue4
 t5:=Tryz.underlying5
 a5:=Tryz.isAgg5
 z5:=Tryz.sizeOf5
 v5:=Tryz.zeroValue5
 t9:=Tryz.underlying9
 a9:=Tryz.isAgg9
 z9:=Tryz.sizeOf9
 v9:=Tryz.zeroValue9
 t20:=Tryz.underlying20
 a20:=Tryz.isAgg20
 z20:=Tryz.sizeOf20
 v20:=Tryz.zeroValue20
 t21:=Tryz.underlying21
 a21:=Tryz.isAgg21
 z21:=Tryz.sizeOf21
 v21:=Tryz.zeroValue21
 t37:=Tryz.underlying23
 a37:=Tryz.isAgg23
 z37:=Tryz.sizeOf23
 v37:=Tryz.zeroValue23
 t46:=Tryz.underlying109
 a46:=Tryz.isAgg109
 z46:=Tryz.sizeOf109
 v46:=Tryz.zeroValue109
 t51:=Tryz.underlying56
 a51:=Tryz.isAgg56
 z51:=Tryz.sizeOf56
 v51:=Tryz.zeroValue56
 t70:=Tryz.underlying329
 a70:=Tryz.isAgg329
 z70:=Tryz.sizeOf329
 v70:=Tryz.zeroValue329
 t72:=Tryz.underlying331
 a72:=Tryz.isAgg331
 z72:=Tryz.sizeOf331
 v72:=Tryz.zeroValue331
 t75:=Tryz.underlying259
 a75:=Tryz.isAgg259
 z75:=Tryz.sizeOf259
 v75:=Tryz.zeroValue259
 t76:=Tryz.underlying287
 a76:=Tryz.isAgg287
 z76:=Tryz.sizeOf287
 v76:=Tryz.zeroValue287
 t105:=Tryz.underlying252
 a105:=Tryz.isAgg252
 z105:=Tryz.sizeOf252
 v105:=Tryz.zeroValue252
 t119:=Tryz.underlying291
 a119:=Tryz.isAgg291
 z119:=Tryz.sizeOf291
 t127:=Tryz.underlying325
 a127:=Tryz.isAgg325
 z127:=Tryz.sizeOf325
 v127:=Tryz.zeroValue325
 t138:=Tryz.underlying293
 a138:=Tryz.isAgg293
 z138:=Tryz.sizeOf293
 v138:=Tryz.zeroValue293
 t139:=Tryz.underlying294
 a139:=Tryz.isAgg294
 z139:=Tryz.sizeOf294
 v139:=Tryz.zeroValue294
 t146:=Tryz.underlying247
 a146:=Tryz.isAgg247
 z146:=Tryz.sizeOf247
 v146:=Tryz.zeroValue247
 t164:=Tryz.underlying362
 a164:=Tryz.isAgg362
 z164:=Tryz.sizeOf362
 v164:=Tryz.zeroValue362
 g1:=by kernel_rfl
 g3:=by kernel_rfl
 g4:=by kernel_rfl}
theorem Tryz.Builder_Extra_155:Builder.Extra Tryz.prog Tryz.lays155_ren:={
 sizeBuilder:=by kernel_rfl
 liesBuilder:=by kernel_rfl
 t5:=Tryz.underlying5
 a5:=Tryz.isAgg5
 z5:=Tryz.sizeOf5
 v5:=Tryz.zeroValue5
 infoByte:=by kernel_rfl
 cellsByte:=by kernel_rfl
 sizeByte:=by kernel_rfl
 neB5:=by decide}
open Go.RowKit Go.Lib in
theorem Tryz.strings_ReplaceAll (s old new:ByteArray) (m:Int) (w:World) (hs:s.size<4294967281) (hm:w.cell? ⟨0,0,none⟩=some (.int .i64 m)) (h1:1≤old.size) (hlen:s.size+Lib.countB s old*new.size≤140737488355328) :
 Calls Tryz.prog 232 #[.string s,.string old,.string new] w fun e w' =>
  e=.returned (.string ⟨(Lib.replaceAll s.data.toList old.data.toList new.data.toList).toArray⟩)∧Below w.heap.size w w':=Any.strings_ReplaceAll Tryz.lays155 Tryz.Builder_Extra_155 s old new m w hs hm h1 hlen
def Tryz.laysM155_ren:Go.Shelf.Ren:=⟨fun | 155=>232 | 154=>245 | 138=>124 | 165=>256 | 143=>125 | 166=>257 | 197=>168 | 169=>258 | 195=>167 | 218=>169 | 240=>270 | 241=>271 | 219=>170 | 260=>200 | 276=>277 | 277=>278 | 217=>174 | 225=>201 | 224=>202 | 267=>203 | 266=>207 | 314=>224 | n=>n,fun | 9=>9 | 3=>3 | 4=>4 | 72=>331 | 0=>0 | 76=>287 | 105=>252 | 21=>21 | 5=>5 | 70=>329 | 20=>20 | 37=>23 | 75=>259 | 127=>325 | 164=>362 | 46=>109 | 119=>291 | 139=>294 | 138=>293 | 146=>247 | 51=>56 | 80=>332 | n=>n,fun | 1=>0 | 3=>1 | 4=>2 | n=>n⟩
theorem Tryz.laysM155:Go.Proofs.LaysM.n155 Tryz.prog Tryz.laysM155_ren:={
 mixed:=by kernel_rfl
 f138:=Tryz.func124.trans (congrArg some (by kernel_rfl))
 f143:=Tryz.func125.trans (congrArg some (by kernel_rfl))
 f154:=Tryz.func245.trans (congrArg some (by kernel_rfl))
 f155:=Tryz.func232.trans (congrArg some (by kernel_rfl))
 f165:=Tryz.func256.trans (congrArg some (by kernel_rfl))
 f166:=Tryz.func257.trans (congrArg some (by kernel_rfl))
 f169:=Tryz.func258.trans (congrArg some (by kernel_rfl))
 f195:=Tryz.func167.trans (congrArg some (by kernel_rfl))
 f197:=Tryz.func168.trans (congrArg some (by kernel_rfl))
 f217:=Tryz.func174.trans (congrArg some (by kernel_rfl))
 f218:=Tryz.func169.trans (congrArg some (by kernel_rfl))
 f219:=Tryz.func170.trans (congrArg some (by kernel_rfl))
 f224:=Tryz.func202.trans (congrArg some (by kernel_rfl))
 f225:=Tryz.func201.trans (congrArg some (by kernel_rfl))
 f240:=Tryz.func270.trans (congrArg some (by kernel_rfl))
 f241:=Tryz.func271.trans (congrArg some (by kernel_rfl))
 f260:=Tryz.func200.trans (congrArg some (by kernel_rfl))
 f266:=Tryz.func207.trans (congrArg some (by kernel_rfl))
 f267:=Tryz.func203.trans (congrArg some (by kernel_rfl))
 f276:=Tryz.func277.trans (congrArg some (by kernel_rfl))
 f277:=Tryz.func278.trans (congrArg some (by kernel_rfl))
 f314:=Tryz.func224.trans (congrArg some (by kernel_rfl))
 t0:=Tryz.underlying0
 a0:=Tryz.isAgg0
 z0:=Tryz.sizeOf0
 v0:=Tryz.zeroValue0
 t3:=Tryz.underlying3
 a3:=Tryz.isAgg3
 z3:=Tryz.sizeOf3
 v3:=Tryz.zeroValue3
 t4:=Tryz.underlying4
 a4:=Tryz.isAgg4
 z4:=Tryz.sizeOf4
 v4:=Tryz.zeroValue4
 t5:=Tryz.underlying5
 a5:=Tryz.isAgg5
 z5:=Tryz.sizeOf5
 v5:=Tryz.zeroValue5
 t9:=Tryz.underlying9
 a9:=Tryz.isAgg9
 z9:=Tryz.sizeOf9
 v9:=Tryz.zeroValue9
 t20:=Tryz.underlying20
 a20:=Tryz.isAgg20
 z20:=Tryz.sizeOf20
 v20:=Tryz.zeroValue20
 t21:=Tryz.underlying21
 a21:=Tryz.isAgg21
 z21:=Tryz.sizeOf21
 v21:=Tryz.zeroValue21
 t37:=Tryz.underlying23
 a37:=Tryz.isAgg23
 z37:=Tryz.sizeOf23
 v37:=Tryz.zeroValue23
 t46:=Tryz.underlying109
 a46:=Tryz.isAgg109
 z46:=Tryz.sizeOf109
 v46:=Tryz.zeroValue109
 t51:=Tryz.underlying56
 a51:=Tryz.isAgg56
 z51:=Tryz.sizeOf56
 v51:=Tryz.zeroValue56
 t70:=Tryz.underlying329
 a70:=Tryz.isAgg329
 z70:=Tryz.sizeOf329
 v70:=Tryz.zeroValue329
 t72:=Tryz.underlying331
 a72:=Tryz.isAgg331
 z72:=Tryz.sizeOf331
 v72:=Tryz.zeroValue331
 t75:=Tryz.underlying259
 a75:=Tryz.isAgg259
 z75:=Tryz.sizeOf259
 v75:=Tryz.zeroValue259
 t76:=Tryz.underlying287
 a76:=Tryz.isAgg287
 z76:=Tryz.sizeOf287
 v76:=Tryz.zeroValue287
 t105:=Tryz.underlying252
 a105:=Tryz.isAgg252
 z105:=Tryz.sizeOf252
 v105:=Tryz.zeroValue252
 t119:=Tryz.underlying291
 a119:=Tryz.isAgg291
 z119:=Tryz.sizeOf291
 t127:=Tryz.underlying325
 a127:=Tryz.isAgg325
 z127:=Tryz.sizeOf325
 v127:=Tryz.zeroValue325
 t138:=Tryz.underlying293
 a138:=Tryz.isAgg293
 z138:=Tryz.sizeOf293
 v138:=Tryz.zeroValue293
 t139:=Tryz.underlying294
 a139:=Tryz.isAgg294
 z139:=Tryz.sizeOf294
 v139:=Tryz.zeroValue294
 t146:=Tryz.underlying247
 a146:=Tryz.isAgg247
 z146:=Tryz.sizeOf247
 v146:=Tryz.zeroValue247
 t164:=Tryz.underlying362
 a164:=Tryz.isAgg362
 z164:=Tryz.sizeOf362
 v164:=Tryz.zeroValue362
 g1:=by kernel_rfl
 g3:=by kernel_rfl
 g4:=by kernel_rfl
 t80:=Tryz.underlying332
 a80:=Tryz.isAgg332
 z80:=Tryz.sizeOf332
 v80:=Tryz.zeroValue332
 i0:=by kernel_rfl
 i3:=by kernel_rfl
 i4:=by kernel_rfl
 i5:=by kernel_rfl
 i9:=by kernel_rfl
 i20:=by kernel_rfl
 i21:=by kernel_rfl
 i37:=by kernel_rfl
 i46:=by kernel_rfl
 i51:=by kernel_rfl
 i70:=by kernel_rfl
 i72:=by kernel_rfl
 i75:=by kernel_rfl
 i76:=by kernel_rfl
 i80:=by kernel_rfl
 i105:=by kernel_rfl
 i127:=by kernel_rfl
 i138:=by kernel_rfl
 i139:=by kernel_rfl
 i146:=by kernel_rfl
 i164:=by kernel_rfl
 m1:=by kernel_rfl
 s1_3:=fun w h=>Go.Proofs.cell_of_shapedOpen_int (zero:=#[.int .i64 0]) (t:=3) h (of_decide_eq_true (by kernel_rfl)) (by kernel_rfl) rfl (by kernel_rfl) (by kernel_rfl) Tryz.underlying3
 m3:=by kernel_rfl
 m4:=by kernel_rfl}
theorem Tryz.Builder_Extra_M155:Builder.Extra Tryz.prog Tryz.laysM155_ren:={
 sizeBuilder:=by kernel_rfl
 liesBuilder:=by kernel_rfl
 t5:=Tryz.underlying5
 a5:=Tryz.isAgg5
 z5:=Tryz.sizeOf5
 v5:=Tryz.zeroValue5
 infoByte:=by kernel_rfl
 cellsByte:=by kernel_rfl
 sizeByte:=by kernel_rfl
 neB5:=by decide}
open Go.RowKit Go.Lib in
theorem Tryz.strings_ReplaceAll_shaped (s old new:ByteArray) (w:World) (h:w.ShapedOpen Tryz.prog) (hs:s.size<4294967281) (h1:1≤old.size) (hlen:s.size+Lib.countB s old*new.size≤140737488355328) :
 Calls Tryz.prog 232 #[.string s,.string old,.string new] w fun e w' =>
  e=.returned (.string ⟨(Lib.replaceAll s.data.toList old.data.toList new.data.toList).toArray⟩)∧Below w.heap.size w w':=Any.strings_ReplaceAll_shaped Tryz.laysM155 Tryz.Builder_Extra_M155 s old new w h hs h1 hlen
end Go.Proofs
end
section
set_option linter.all false
set_option maxRecDepth 100000
namespace Go.Proofs.YtjmiaemabhlnjaaGreatDoor.Top
open Go Go.RowKit Go.YtjmiaemabhlnjaaGreatDoorMap
theorem laid:laidOutB Tryz.prog=true:=by kernel_rfl
theorem row265:(265:TypeId)<Tryz.prog.types.size:=of_decide_eq_true (by kernel_rfl)
theorem wide265:(match Tryz.prog.underlying 265 with | some (.array _ _) | some (.struct _)=>true | _=>false)=true:=by kernel_rfl
theorem K265:Maps.Keyed Tryz.prog 265:=.of_law (deep_law_laid laid (m:=3) (by omega) row265 (by kernel_rfl) wide265)
abbrev Key:=Int×Int×Bool
def kv (k:Key):Value:=.agg #[.int .i64 k.1,.int .i64 k.2.1,.bool k.2.2]
def bs (l:List UInt8):Value:=.string ⟨l.toArray⟩
theorem kv_inj {k k':Key} (h:kv k=kv k'):k=k':=by
 obtain ⟨a,b,c⟩:=k;obtain ⟨a',b',c'⟩:=k';simp [kv] at h;obtain ⟨h1,h2,h3⟩:=h;rw [h1,h2,h3]
def conds:List UInt8:=[77,73,32,69,81,32,67,83,32,86,83,32,76,83,32,76,84,32,76,69,32,46,32,80,76,32,78,69,32,67,67,32,86,67,32,72,73,32,71,69,32,71,84,32,78,86]
def c1:List UInt8:=[77,73,32,66,69,81,32,66,67,83,32,66,86,83,32,66,76,83,32,66,76,84,32,66,76,69,32,66,46,32,66,80,76,32,66,78,69,32,66,67,67,32,66,86,67,32,66,72,73,32,66,71,69,32,66,71,84,32,66,78,86]
def c2:List UInt8:=[77,73,32,66,76,69,81,32,66,76,67,83,32,66,76,86,83,32,66,76,76,83,32,66,76,76,84,32,66,76,76,69,32,66,76,46,32,66,76,80,76,32,66,76,78,69,32,66,76,67,67,32,66,76,86,67,32,66,76,72,73,32,66,76,71,69,32,66,76,71,84,32,66,76,78,86]
def rowsAt:List (Nat×Key×List UInt8):=[
 (2,((1,0,false),[77,79,86,32,76,83,76,32,65,83,82,32,82,79,82,32,65,78,68,32,65,78,78,32,73,79,82,32,88,79,82,32,65,68,68,32,83,85,66,32,77,85,76,32,68,73,86])),
 (4,((1,0,true),[77,79,86,85])),
 (6,((1,8,true),[65,68,67,32,83,66,67,32,77,76,85])),
 (8,((3,0,false),[77,79,86,72])),
 (10,((4,0,false),[77,79,86,70])),
 (12,((5,0,false),[76,68,87,32,76,68,66,32,83,84,87,32,83,84,66])),
 (17,((7,0,false),[66,77,73,32,66,69,81,32,66,67,83,32,66,86,83,32,66,76,83,32,66,76,84,32,66,76,69,32,66,46,32,66,80,76,32,66,78,69,32,66,67,67,32,66,86,67,32,66,72,73,32,66,71,69,32,66,71,84,32,66,78,86])),
 (22,((7,0,true),[66,76,77,73,32,66,76,69,81,32,66,76,67,83,32,66,76,86,83,32,66,76,76,83,32,66,76,76,84,32,66,76,76,69,32,66,76,46,32,66,76,80,76,32,66,76,78,69,32,66,76,67,67,32,66,76,86,67,32,66,76,72,73,32,66,76,71,69,32,66,76,71,84,32,66,76,78,86])),
 (24,((8,0,false),[76,68,76])),
 (26,((9,0,false),[119,111,114,100])),
 (28,((10,0,false),[101,120,112,111,114,116]))]
def pv (x:Key×List UInt8):Pair:=(kv x.1,bs x.2)
def rowsL:List (Key×List UInt8):=rowsAt.map (·.2)
def dv (A:Nat):List (Nat×Nat×Value):=[(1,3,kv (1,0,false)),(3,4,kv (1,0,true)),(5,5,kv (1,8,true)),(7,6,kv (3,0,false)),(9,7,kv (4,0,false)),(11,8,kv (5,0,false)),(13,9,kv (7,0,false)),(14,10,bs conds),
 (15,11,bs c1),(16,12,bs (66::c1)),(18,13,kv (7,0,true)),(19,14,bs conds),(20,15,bs c2),(21,16,bs (66::76::c2)),(23,17,kv (8,0,false)),(25,18,kv (9,0,false)),(27,19,kv (10,0,false)),(29,20,.map (some A)),(30,0,.map (some A))]
theorem rep1:Lib.replaceAll conds [32] [32,66]=c1:=by kernel_rfl
theorem rep2:Lib.replaceAll conds [32] [32,66,76]=c2:=by kernel_rfl
theorem keysL:(rowsAt.all fun p=>(keyOf Tryz.prog 265 (kv p.2.1)).isSome)=true:=by kernel_rfl
theorem keysN:(rowsAt.map (·.2.1)).Nodup:=by decide
theorem idxN:(rowsAt.map (·.1)).Nodup:=by decide
structure Inv (W:World) (A:Nat) (l:Array Bool) (a:Act) (w:World):Prop where
 sz:l.size=31
 tm:a.tmps.size=21
 t1:a.eval (.tmp 1)=bs conds
 df:a.defers=[]
 bw:Below W.heap.size W w
 hz:∀i∈[2,4,6,8,10,12,17,22,24,26,28,29,30],l.getD i false=true→l.getD 0 false=true
 hA:W.heap.size≤A
 mp:l.getD 0 false=true→a.eval (.tmp 2)=.map (some A)∧MapIs w A ((laidIn l rowsAt).map pv)
 vs:∀p∈dv A,l.getD p.1 false=true→a.eval (.tmp p.2.1)=p.2.2
theorem eval_new {a:Act} {d:Nat} {v:Value} (h:d<a.tmps.size):(a.put (some d) v).eval (.tmp d)=v:=by
 simp [Act.eval,Act.put,h]
theorem eval_old {a:Act} {d e:Nat} {v:Value} (h:d≠e):(a.put (some d) v).eval (.tmp e)=a.eval (.tmp e) :=
 Act.eval_put fun d' hd hx=>by cases hd;cases hx;exact h rfl
theorem dvI (A:Nat):(dv A).map (·.1)=[1,3,5,7,9,11,13,14,15,16,18,19,20,21,23,25,27,29,30]:=rfl
theorem dvD (A:Nat):(dv A).map (·.2.1)=[3,4,5,6,7,8,9,10,11,12,13,14,15,16,17,18,19,20,0]:=rfl
theorem dv_uniq {A:Nat} {p q:Nat×Nat×Value} (hp:p∈dv A) (hq:q∈dv A) (h:p.1=q.1∨p.2.1=q.2.1):p=q:=by
 have n1:((dv A).map (·.1)).Nodup:=by rw [dvI];decide
 have n2:((dv A).map (·.2.1)).Nodup:=by rw [dvD];decide
 have inj:∀{β:Type} {f:(Nat×Nat×Value)→β} {L:List (Nat×Nat×Value)},(L.map f).Nodup→∀{x y},x∈L→y∈L→f x=f y→x=y:=by
  intro β f L
  induction L with
  | nil=>intro _ x y hx;cases hx
  | cons z L ih =>
    intro hn x y hx hy he;simp only [List.map_cons,List.nodup_cons] at hn
    rcases List.mem_cons.1 hx with rfl | hx'
    · rcases List.mem_cons.1 hy with rfl | hy'
      · rfl
      · exact absurd (by rw [he];exact List.mem_map_of_mem hy') hn.1
    · rcases List.mem_cons.1 hy with rfl | hy'
      · exact absurd (by rw [←he];exact List.mem_map_of_mem hx') hn.1
      · exact ih hn.2 hx' hy' he
 rcases h with h | h
 · exact inj n1 hp hq h
 · exact inj n2 hp hq h
theorem Inv.put {W w:World} {A:Nat} {l:Array Bool} {a:Act} (h:Inv W A l a w) {i d:Nat} {v:Value} (hi:l.getD i true=false) (hm:(i,d,v)∈dv A) (h0:(29=i∨30=i)→l.getD 0 false=true) :
 Inv W A (l.setIfInBounds i true) (a.put (some d) v) w:=by
 have e1:i∈[1,3,5,7,9,11,13,14,15,16,18,19,20,21,23,25,27,29,30]:=by rw [←dvI A];exact List.mem_map_of_mem (f:=(·.1)) hm
 have e2:d∈[3,4,5,6,7,8,9,10,11,12,13,14,15,16,17,18,19,20,0]:=by rw [←dvD A];exact List.mem_map_of_mem (f:=(·.2.1)) hm
 have d1:d≠1:=by rintro rfl;revert e2;decide
 have d2:d≠2:=by rintro rfl;revert e2;decide
 have dl:d<21:=by revert e2;revert d;intro d _ _ _ e2;simp only [List.mem_cons,List.not_mem_nil,or_false] at e2;omega
 have i0:i≠0:=by rintro rfl;revert e1;decide
 have ir:∀p∈rowsAt,p.1≠i:=by
  intro p hp e;have:p.1∈rowsAt.map (·.1):=List.mem_map_of_mem hp;rw [e] at this;have e3:rowsAt.map (·.1)=[2,4,6,8,10,12,17,22,24,26,28]:=rfl;rw [e3] at this;simp only [List.mem_cons,List.not_mem_nil,or_false] at this e1;omega
 refine ⟨by simp [h.sz],by simp [Act.put,h.tm],by rw [eval_old d1];exact h.t1,h.df,h.bw,fun j hj hl=>?_,h.hA,fun hl=>?_,fun p hp hl=>?_⟩
 · rw [getD_set_ne false i0]
   by_cases e:i=j
   · subst e
     refine h0 ?_;simp only [List.mem_cons,List.not_mem_nil,or_false] at hj e1;omega
   · rw [getD_set_ne false e] at hl
     exact h.hz j hj hl
 · rw [getD_set_ne false i0] at hl
   rw [eval_old d2,laidIn_other ir];exact h.mp hl
 · by_cases e:i=p.1
   · have:=dv_uniq hm hp (Or.inl e)
     subst this;exact eval_new (by rw [h.tm];exact dl)
   · rw [getD_set_ne false e] at hl
     have:d≠p.2.1:=fun e'=>e (congrArg (·.1) (dv_uniq hm hp (Or.inr e')));rw [eval_old this];exact h.vs p hp hl
theorem Inv.grow {W w w':World} {A:Nat} {l:Array Bool} {a:Act} (h:Inv W A l a w) (hb:Below w.heap.size w w'):Inv W A l a w' :=
 ⟨h.sz,h.tm,h.t1,h.df,h.bw.trans (hb.mono h.bw.size),h.hz,h.hA,fun hl=>⟨(h.mp hl).1,(h.mp hl).2.same (hb.block A (h.mp hl).2.lt)⟩,h.vs⟩
theorem Inv.make {W w:World} {A:Nat} {l:Array Bool} {a:Act} (h:Inv W A l a w) (hi:l.getD 0 true=false):Inv W w.heap.size (l.setIfInBounds 0 true) (a.put (some 2) (.map (some w.heap.size))) (w.alloc (.map #[] 0)):=by
 have l0:l.getD 0 false=false:=by
  have:0<l.size:=by rw [h.sz];omega
  rw [Array.getD_eq_getD_getElem?,Array.getElem?_eq_getElem this] at hi ⊢
  simpa using hi
 have hno:∀i∈[2,4,6,8,10,12,17,22,24,26,28,29,30],l.getD i false=false:=by
  intro i hm;cases e:l.getD i false
  · rfl
  · have:=h.hz i hm e
    rw [l0] at this;cases this
 have hl0:(l.setIfInBounds 0 true).getD 0 false=true:=by simp [h.sz]
 refine ⟨by simp [h.sz],by simp [Act.put,h.tm],by rw [eval_old (by omega)];exact h.t1,h.df,h.bw.alloc h.bw.size _,fun j hj hl=>hl0,h.bw.size,fun _=>⟨eval_new (by rw [h.tm];omega),?_⟩,fun p hp hl=>?_⟩
 · rw [laidIn_other (by decide),laidIn_none]
   · exact MapIs.made w
   · intro p hp
     refine hno _ ?_;have:p.1∈rowsAt.map (·.1):=List.mem_map_of_mem hp;have e3:rowsAt.map (·.1)=[2,4,6,8,10,12,17,22,24,26,28]:=rfl;rw [e3] at this;simp only [List.mem_cons,List.not_mem_nil,or_false] at this ⊢;omega
 · have e1:p.1∈[1,3,5,7,9,11,13,14,15,16,18,19,20,21,23,25,27,29,30]:=by rw [←dvI w.heap.size];exact List.mem_map_of_mem (f:=(·.1)) hp
   have e2:p.2.1∈[3,4,5,6,7,8,9,10,11,12,13,14,15,16,17,18,19,20,0]:=by rw [←dvD w.heap.size];exact List.mem_map_of_mem (f:=(·.2.1)) hp
   have i0:0≠p.1:=by intro e;rw [←e] at e1;revert e1;decide
   have d2:2≠p.2.1:=by intro e;rw [←e] at e2;revert e2;decide
   rw [getD_set_ne false i0] at hl;rw [eval_old d2]
   have h29:p.1≠29∧p.1≠30:=by
    constructor<;>(intro e;rw [e,hno _ (by decide)] at hl;cases hl)
   have:p∈dv A:=by
    simp only [dv,List.mem_cons,List.not_mem_nil,or_false] at hp ⊢
    rcases hp with rfl | rfl | rfl | rfl | rfl | rfl | rfl | rfl | rfl | rfl | rfl | rfl | rfl | rfl | rfl | rfl | rfl | rfl | rfl
    all_goals first | (exfalso;omega) | simp
   exact h.vs p this hl
theorem Inv.lay {W w:World} {A:Nat} {l:Array Bool} {a:Act} (h:Inv W A l a w) {i:Nat} {x:Key×List UInt8} (hi:l.getD i true=false) (hm:(i,x)∈rowsAt) (h0:l.getD 0 false=true) :
 ∃w',(Instr.mapUpdate 262 (.map (some A)) (kv x.1) (bs x.2)).run Tryz.prog w=.ok () w'∧Inv W A (l.setIfInBounds i true) a w':=by
 obtain ⟨g1,g2⟩:=h.mp h0;have hk:∀p∈rowsAt,∃kl,keyOf Tryz.prog 265 (kv p.2.1)=some kl:=fun p hp=>Option.isSome_iff_exists.1 (List.all_eq_true.1 keysL p hp);obtain ⟨kl,hkl⟩:=hk _ hm
 have hlt:i<31:=by
  rcases Nat.lt_or_ge i 31 with h' | h'
  · exact h'
  · rw [Array.getD_eq_getD_getElem?,Array.getElem?_eq_none (by rw [h.sz];exact h')] at hi
    simp at hi
 have li:l.getD i false=false:=by
  rw [Array.getD_eq_getD_getElem?,Array.getElem?_eq_getElem (by rw [h.sz];exact hlt)] at hi ⊢
  simpa using hi
 have e1:i∈[2,4,6,8,10,12,17,22,24,26,28]:=by
  have e3:rowsAt.map (·.1)=[2,4,6,8,10,12,17,22,24,26,28]:=rfl;rw [←e3];exact List.mem_map_of_mem (f:=(·.1)) hm
 have i0:i≠0:=by rintro rfl;revert e1;decide
 have k1:∀p∈(laidIn l rowsAt).map pv,∃kl,keyOf Tryz.prog 265 p.1=some kl:=by
  intro p hp;obtain ⟨y,hy,rfl⟩:=List.mem_map.1 hp;obtain ⟨j,hj,_⟩:=laidIn_sub hy;exact hk _ hj
 have k2:∀p∈(laidIn l rowsAt).map pv,p.1≠kv x.1:=by
  intro p hp;obtain ⟨y,hy,rfl⟩:=List.mem_map.1 hp;obtain ⟨j,hj,hlj⟩:=laidIn_sub hy;intro e;have e:=kv_inj e
  have:(j,y)=(i,x):=by
   have inj:∀{L:List (Nat×Key×List UInt8)},(L.map (·.2.1)).Nodup→∀{x y},x∈L→y∈L→x.2.1=y.2.1→x=y:=by
    intro L
    induction L with
    | nil=>intro _ x y hx;cases hx
    | cons z L ih =>
      intro hn x y hx hy he;simp only [List.map_cons,List.nodup_cons] at hn
      rcases List.mem_cons.1 hx with rfl | hx'
      · rcases List.mem_cons.1 hy with rfl | hy'
        · rfl
        · exact absurd (by rw [he];exact List.mem_map_of_mem hy') hn.1
      · rcases List.mem_cons.1 hy with rfl | hy'
        · exact absurd (by rw [←he];exact List.mem_map_of_mem hx') hn.1
        · exact ih hn.2 hx' hy' he
   exact inj keysN hj hm e
  cases this;rw [li] at hlj;cases hlj
 obtain ⟨w',r1,r2,r3,r4⟩:=g2.insert K265 Tryz.underlying262 (key:=kv x.1) (val:=bs x.2) hkl k1 k2
 · refine ⟨w',r1,by simp [h.sz],h.tm,h.t1,h.df,h.bw.grown r3 h.bw.size (fun k hk=>by cases hk;exact h.hA),fun j hj hl=>?_,h.hA,fun _=>⟨g1,r2.perm ?_⟩,fun p hp hl=>?_⟩
   · rw [getD_set_ne false i0];exact h0
   · have:=(laidIn_new hi idxN hm).map pv
     exact this
   · refine h.vs p hp ?_
     have e4:p.1∈[1,3,5,7,9,11,13,14,15,16,18,19,20,21,23,25,27,29,30]:=by rw [←dvI A];exact List.mem_map_of_mem (f:=(·.1)) hp
     have:i≠p.1:=by
      simp only [List.mem_cons,List.not_mem_nil,or_false] at e1 e4;omega
     rwa [getD_set_ne false this] at hl
theorem wpOp_val {P:Program} {ops:Array Oper} {Q:Exit→Act→World→Prop} {i:Nat} {o:Oper} {a:Act} {w w':World} {v:Value} {K:Act→World→Prop} (ho:ops[i]? = some o) (hg:o.guard=none)
 (hrun:(execOp a.eval o).run P w=.ok (.value v) w') (h:K (a.put o.dst v) w'):wpOp P ops Q i K a w:=by
 unfold Go.wpOp;simp only [ho,Region.wanted,hg,if_true]
 left
 unfold Oper.wp;rw [hrun];exact h
theorem wpOp_skip {P:Program} {ops:Array Oper} {Q:Exit→Act→World→Prop} {i:Nat} {o:Oper} {a:Act} {w w':World} {K:Act→World→Prop} (ho:ops[i]? = some o) (hg:o.guard=none)
 (hrun:(execOp a.eval o).run P w=.ok .skip w') (h:K (a.put o.dst undef) w'):wpOp P ops Q i K a w:=by
 unfold Go.wpOp;simp only [ho,Region.wanted,hg,if_true]
 left
 unfold Oper.wp;rw [hrun];exact h
theorem wpOp_call {P:Program} {ops:Array Oper} {Q:Exit→Act→World→Prop} {i f:Nat} {o:Oper} {args:Array Value} {a:Act} {w:World} {K:Act→World→Prop} (ho:ops[i]? = some o) (hg:o.guard=none)
 (hrun:(execOp a.eval o).run P w=.ok (.enter f args) w) (h:Calls P f args w fun e w'=>∃v,e=.returned v∧K (a.put o.dst v) w'):wpOp P ops Q i K a w:=by
 unfold Go.wpOp;simp only [ho,Region.wanted,hg,if_true]
 left
 unfold Oper.wp;rw [hrun,Oper.upon_enter];refine h.mono fun e w' he=>?_;obtain ⟨v,rfl,hk⟩:=he;exact hk
theorem wpOp_insert {P:Program} {ops:Array Oper} {Q:Exit→Act→World→Prop} {i t:Nat} {o:Oper} {m k v:Operand} {M Kv V:Value} {a:Act} {w w':World} {K:Act→World→Prop} (ho:ops[i]? = some o) (hg:o.guard=none)
 (hop:o.op=.insert t m k v) (hdst:o.dst=none) (em:a.eval m=M) (ek:a.eval k=Kv) (ev:a.eval v=V) (hrun:(Instr.mapUpdate t M Kv V).run P w=.ok () w') (h:K a w'):wpOp P ops Q i K a w:=by
 refine wpOp_skip (w':=w') ho hg ?_ (by rw [hdst];exact h);simp [execOp,hop,em,ek,ev,hrun]
theorem run_call {P:Program} {a:Act} {w:World} {f:Nat} {o:Oper} {c:Call} {vs:Array Value} (hop:o.op=.call c) (hc:c.callee=.value (.func f)) (hv:c.args.map a.eval=vs) (he:(callFunc f vs).run P w=.ok (.enter f vs) w) :
 (execOp a.eval o).run P w=.ok (.enter f vs) w:=by
 simp [execOp,hop,resolve,hc,Deferred.ofValue,Act.eval,invoke,hv,he]
theorem run_bin {P:Program} {a:Act} {w:World} {o:Oper} {b:BinOp} {t t':TypeId} {x y:Operand} {X Y V:Value} (hop:o.op=.binOp b t x y t') (hx:a.eval x=X) (hy:a.eval y=Y) (hg:(eqGuard b t x y X Y).run P w=.ok () w) (he:(binOp b t X Y).run P w=.ok V w) :
 (execOp a.eval o).run P w=.ok (.value V) w:=by
 simp [execOp,hop,hx,hy,hg,he]
theorem repF (n i:Nat):(Array.replicate n false).getD i false=false:=by
 rw [Array.getD_eq_getD_getElem?]
 by_cases h:i<n
 · simp [h]
 · simp [h]
theorem enters232:∀args w,(callFunc 232 args).run Tryz.prog w=.ok (.enter 232 args) w:=enters_of Tryz.func232 (by kernel_rfl) rfl
theorem rows_any (w:World) (m:Int) (hm:w.cell? ⟨0,0,none⟩=some (.int .i64 m)):Calls Tryz.prog 208 #[] w fun e w'=>∃A,e=.returned (.map (some A))∧w.heap.size≤A∧MapIs w' A (rowsL.map pv)∧Below w.heap.size w w':=by
 go_enter Tryz.func208,Tryz.ntmps208
 go_wp2_with (fail)
 rename_i Q' K hK
 refine wp_region_any (by kernel_rfl) ?_;refine wpAny_inv (I:=fun l a w'=>∃A,Inv w A l a w') ?_ ?_ _ _ _ _ (by decide) ⟨w.heap.size,?_⟩
 · rintro l a w' ⟨A,hI⟩ hr
   have hall:∀i,i<31→l.getD i false=true:=by
    refine all_listed ?_ hI.sz hr;intro i o ho;have hi:i<31:=(Array.getElem?_eq_some_iff.1 ho).1
    have hc2:i=0∨i=1∨i=2∨i=3∨i=4∨i=5∨i=6∨i=7∨i=8∨i=9∨i=10∨i=11∨i=12∨i=13∨i=14∨i=15∨i=16∨i=17∨i=18∨i=19∨i=20∨i=21∨i=22∨i=23∨i=24∨i=25∨i=26∨i=27∨i=28∨i=29∨i=30:=by omega
    rcases hc2 with rfl | rfl | rfl | rfl | rfl | rfl | rfl | rfl | rfl | rfl | rfl | rfl | rfl | rfl | rfl | rfl | rfl | rfl | rfl | rfl | rfl | rfl | rfl | rfl | rfl | rfl | rfl | rfl | rfl | rfl | rfl<;>(cases ho;decide)
   have e:a.eval (.tmp 0)=.map (some A):=hI.vs (30,0,.map (some A)) (by simp [dv]) (hall 30 (by decide));refine hK a w' (wp_ret ⟨hI.df,.map (some A),?_,A,rfl,hI.hA,?_,hI.bw⟩)
   · have e':a.tmps.getD 0 undef=.map (some A):=e
     have hr:Tryz.f208.results=#[.tmp 0]:=rfl;rw [Array.getD_eq_getD_getElem?] at e';simp [results,hr,e']
   · have:=(hI.mp (hall 0 (by decide))).2
     have hin:∀p∈rowsAt,l.getD p.1 false=true:=fun p hp=>by
      refine hall _ ?_;have h1:p.1∈rowsAt.map (·.1):=List.mem_map_of_mem hp;have e3:rowsAt.map (·.1)=[2,4,6,8,10,12,17,22,24,26,28]:=rfl;rw [e3] at h1;simp only [List.mem_cons,List.not_mem_nil,or_false] at h1;omega
     rwa [laidIn_all hin] at this
 · rintro l a w' ⟨A,hI⟩ i o ho h0 hd
   have hi:i<31:=(Array.getElem?_eq_some_iff.1 ho).1
   have hcs:i=0∨i=1∨i=2∨i=3∨i=4∨i=5∨i=6∨i=7∨i=8∨i=9∨i=10∨i=11∨i=12∨i=13∨i=14∨i=15∨i=16∨i=17∨i=18∨i=19∨i=20∨i=21∨i=22∨i=23∨i=24∨i=25∨i=26∨i=27∨i=28∨i=29∨i=30:=by omega
   rcases hcs with rfl | rfl | rfl | rfl | rfl | rfl | rfl | rfl | rfl | rfl | rfl | rfl | rfl | rfl | rfl | rfl | rfl | rfl | rfl | rfl | rfl | rfl | rfl | rfl | rfl | rfl | rfl | rfl | rfl | rfl | rfl
   · cases ho
     refine wpOp_val rfl rfl (by simp [execOp,Instr.makeMap]) ⟨w'.heap.size,hI.make h0⟩
   · cases ho
     refine wpOp_val (v:=kv (1,0,false)) rfl rfl (by kernel_rfl) ⟨A,hI.put h0 (by simp [dv]) (by omega)⟩
   · cases ho
     obtain ⟨w2,r1,r2⟩:=hI.lay (i:=2) (x:=((1,0,false),[77,79,86,32,76,83,76,32,65,83,82,32,82,79,82,32,65,78,68,32,65,78,78,32,73,79,82,32,88,79,82,32,65,68,68,32,83,85,66,32,77,85,76,32,68,73,86])) h0 (by simp [rowsAt,c1,c2]) (hd 0 (by decide));exact wpOp_insert rfl rfl rfl rfl (hI.mp (hd 0 (by decide))).1 (hI.vs (1,3,kv (1,0,false)) (by simp [dv]) (hd 1 (by decide))) rfl r1 ⟨A,r2⟩
   · cases ho
     refine wpOp_val (v:=kv (1,0,true)) rfl rfl (by kernel_rfl) ⟨A,hI.put h0 (by simp [dv]) (by omega)⟩
   · cases ho
     obtain ⟨w2,r1,r2⟩:=hI.lay (i:=4) (x:=((1,0,true),[77,79,86,85])) h0 (by simp [rowsAt,c1,c2]) (hd 0 (by decide));exact wpOp_insert rfl rfl rfl rfl (hI.mp (hd 0 (by decide))).1 (hI.vs (3,4,kv (1,0,true)) (by simp [dv]) (hd 3 (by decide))) rfl r1 ⟨A,r2⟩
   · cases ho
     refine wpOp_val (v:=kv (1,8,true)) rfl rfl (by kernel_rfl) ⟨A,hI.put h0 (by simp [dv]) (by omega)⟩
   · cases ho
     obtain ⟨w2,r1,r2⟩:=hI.lay (i:=6) (x:=((1,8,true),[65,68,67,32,83,66,67,32,77,76,85])) h0 (by simp [rowsAt,c1,c2]) (hd 0 (by decide));exact wpOp_insert rfl rfl rfl rfl (hI.mp (hd 0 (by decide))).1 (hI.vs (5,5,kv (1,8,true)) (by simp [dv]) (hd 5 (by decide))) rfl r1 ⟨A,r2⟩
   · cases ho
     refine wpOp_val (v:=kv (3,0,false)) rfl rfl (by kernel_rfl) ⟨A,hI.put h0 (by simp [dv]) (by omega)⟩
   · cases ho
     obtain ⟨w2,r1,r2⟩:=hI.lay (i:=8) (x:=((3,0,false),[77,79,86,72])) h0 (by simp [rowsAt,c1,c2]) (hd 0 (by decide));exact wpOp_insert rfl rfl rfl rfl (hI.mp (hd 0 (by decide))).1 (hI.vs (7,6,kv (3,0,false)) (by simp [dv]) (hd 7 (by decide))) rfl r1 ⟨A,r2⟩
   · cases ho
     refine wpOp_val (v:=kv (4,0,false)) rfl rfl (by kernel_rfl) ⟨A,hI.put h0 (by simp [dv]) (by omega)⟩
   · cases ho
     obtain ⟨w2,r1,r2⟩:=hI.lay (i:=10) (x:=((4,0,false),[77,79,86,70])) h0 (by simp [rowsAt,c1,c2]) (hd 0 (by decide));exact wpOp_insert rfl rfl rfl rfl (hI.mp (hd 0 (by decide))).1 (hI.vs (9,7,kv (4,0,false)) (by simp [dv]) (hd 9 (by decide))) rfl r1 ⟨A,r2⟩
   · cases ho
     refine wpOp_val (v:=kv (5,0,false)) rfl rfl (by kernel_rfl) ⟨A,hI.put h0 (by simp [dv]) (by omega)⟩
   · cases ho
     obtain ⟨w2,r1,r2⟩:=hI.lay (i:=12) (x:=((5,0,false),[76,68,87,32,76,68,66,32,83,84,87,32,83,84,66])) h0 (by simp [rowsAt,c1,c2]) (hd 0 (by decide));exact wpOp_insert rfl rfl rfl rfl (hI.mp (hd 0 (by decide))).1 (hI.vs (11,8,kv (5,0,false)) (by simp [dv]) (hd 11 (by decide))) rfl r1 ⟨A,r2⟩
   · cases ho
     refine wpOp_val (v:=kv (7,0,false)) rfl rfl (by kernel_rfl) ⟨A,hI.put h0 (by simp [dv]) (by omega)⟩
   · cases ho
     refine wpOp_val (v:=bs conds) rfl rfl (by simp [execOp,hI.t1]) ⟨A,hI.put h0 (by simp [dv]) (by omega)⟩
   · cases ho
     have e:a.eval (.tmp 10)=bs conds:=hI.vs (14,10,bs conds) (by simp [dv]) (hd 14 (by decide));refine wpOp_call (f:=232) (args:=#[bs conds,bs [32],bs [32,66]]) rfl rfl (run_call rfl rfl (by simp [e];exact ⟨rfl,rfl⟩) (enters232 _ _)) ?_;refine (Tryz.strings_ReplaceAll ⟨conds.toArray⟩ ⟨[32].toArray⟩ ⟨([32,66]:List UInt8).toArray⟩ m w' (of_decide_eq_true (by kernel_rfl)) ((hI.bw.cell (World.block_lt_of_cell? _ _ hm)).trans hm) (of_decide_eq_true (by kernel_rfl)) (of_decide_eq_true (by kernel_rfl))).mono ?_
     rintro ee w2 ⟨rfl,hb⟩;refine ⟨bs c1,?_,A,(hI.grow hb).put h0 (by simp [dv]) (by omega)⟩
     show Ending.returned (.string ⟨(Lib.replaceAll conds [32] [32,66]).toArray⟩)=_
     rw [rep1]
     rfl
   · cases ho
     have e:a.eval (.tmp 11)=bs c1:=hI.vs (15,11,bs c1) (by simp [dv]) (hd 15 (by decide));refine wpOp_val (v:=bs (66::c1)) rfl rfl (run_bin rfl rfl e (by kernel_rfl) (by kernel_rfl)) ⟨A,hI.put h0 (by simp [dv]) (by omega)⟩
   · cases ho
     obtain ⟨w2,r1,r2⟩:=hI.lay (i:=17) (x:=((7,0,false),(66::c1))) h0 (by simp [rowsAt,c1,c2]) (hd 0 (by decide));exact wpOp_insert rfl rfl rfl rfl (hI.mp (hd 0 (by decide))).1 (hI.vs (13,9,kv (7,0,false)) (by simp [dv]) (hd 13 (by decide))) (hI.vs (16,12,bs (66::c1)) (by simp [dv]) (hd 16 (by decide))) r1 ⟨A,r2⟩
   · cases ho
     refine wpOp_val (v:=kv (7,0,true)) rfl rfl (by kernel_rfl) ⟨A,hI.put h0 (by simp [dv]) (by omega)⟩
   · cases ho
     refine wpOp_val (v:=bs conds) rfl rfl (by simp [execOp,hI.t1]) ⟨A,hI.put h0 (by simp [dv]) (by omega)⟩
   · cases ho
     have e:a.eval (.tmp 14)=bs conds:=hI.vs (19,14,bs conds) (by simp [dv]) (hd 19 (by decide));refine wpOp_call (f:=232) (args:=#[bs conds,bs [32],bs [32,66,76]]) rfl rfl (run_call rfl rfl (by simp [e];exact ⟨rfl,rfl⟩) (enters232 _ _)) ?_;refine (Tryz.strings_ReplaceAll ⟨conds.toArray⟩ ⟨[32].toArray⟩ ⟨([32,66,76]:List UInt8).toArray⟩ m w' (of_decide_eq_true (by kernel_rfl)) ((hI.bw.cell (World.block_lt_of_cell? _ _ hm)).trans hm) (of_decide_eq_true (by kernel_rfl)) (of_decide_eq_true (by kernel_rfl))).mono ?_
     rintro ee w2 ⟨rfl,hb⟩;refine ⟨bs c2,?_,A,(hI.grow hb).put h0 (by simp [dv]) (by omega)⟩
     show Ending.returned (.string ⟨(Lib.replaceAll conds [32] [32,66,76]).toArray⟩)=_
     rw [rep2]
     rfl
   · cases ho
     have e:a.eval (.tmp 15)=bs c2:=hI.vs (20,15,bs c2) (by simp [dv]) (hd 20 (by decide));refine wpOp_val (v:=bs (66::76::c2)) rfl rfl (run_bin rfl rfl e (by kernel_rfl) (by kernel_rfl)) ⟨A,hI.put h0 (by simp [dv]) (by omega)⟩
   · cases ho
     obtain ⟨w2,r1,r2⟩:=hI.lay (i:=22) (x:=((7,0,true),(66::76::c2))) h0 (by simp [rowsAt,c1,c2]) (hd 0 (by decide));exact wpOp_insert rfl rfl rfl rfl (hI.mp (hd 0 (by decide))).1 (hI.vs (18,13,kv (7,0,true)) (by simp [dv]) (hd 18 (by decide))) (hI.vs (21,16,bs (66::76::c2)) (by simp [dv]) (hd 21 (by decide))) r1 ⟨A,r2⟩
   · cases ho
     refine wpOp_val (v:=kv (8,0,false)) rfl rfl (by kernel_rfl) ⟨A,hI.put h0 (by simp [dv]) (by omega)⟩
   · cases ho
     obtain ⟨w2,r1,r2⟩:=hI.lay (i:=24) (x:=((8,0,false),[76,68,76])) h0 (by simp [rowsAt,c1,c2]) (hd 0 (by decide));exact wpOp_insert rfl rfl rfl rfl (hI.mp (hd 0 (by decide))).1 (hI.vs (23,17,kv (8,0,false)) (by simp [dv]) (hd 23 (by decide))) rfl r1 ⟨A,r2⟩
   · cases ho
     refine wpOp_val (v:=kv (9,0,false)) rfl rfl (by kernel_rfl) ⟨A,hI.put h0 (by simp [dv]) (by omega)⟩
   · cases ho
     obtain ⟨w2,r1,r2⟩:=hI.lay (i:=26) (x:=((9,0,false),[119,111,114,100])) h0 (by simp [rowsAt,c1,c2]) (hd 0 (by decide));exact wpOp_insert rfl rfl rfl rfl (hI.mp (hd 0 (by decide))).1 (hI.vs (25,18,kv (9,0,false)) (by simp [dv]) (hd 25 (by decide))) rfl r1 ⟨A,r2⟩
   · cases ho
     refine wpOp_val (v:=kv (10,0,false)) rfl rfl (by kernel_rfl) ⟨A,hI.put h0 (by simp [dv]) (by omega)⟩
   · cases ho
     obtain ⟨w2,r1,r2⟩:=hI.lay (i:=28) (x:=((10,0,false),[101,120,112,111,114,116])) h0 (by simp [rowsAt,c1,c2]) (hd 0 (by decide));exact wpOp_insert rfl rfl rfl rfl (hI.mp (hd 0 (by decide))).1 (hI.vs (27,19,kv (10,0,false)) (by simp [dv]) (hd 27 (by decide))) rfl r1 ⟨A,r2⟩
   · cases ho
     have d0:=hd 0 (by decide);refine wpOp_val (v:=.map (some A)) rfl rfl (by simp [execOp,(hI.mp d0).1]) ⟨A,hI.put h0 (by simp [dv]) (fun _=>d0)⟩
   · cases ho
     have d0:=hd 0 (by decide);have e:a.eval (.tmp 20)=.map (some A):=hI.vs (29,20,.map (some A)) (by simp [dv]) (hd 29 (by decide));refine wpOp_val (v:=.map (some A)) rfl rfl (by simp [execOp,e]) ⟨A,hI.put h0 (by simp [dv]) (fun _=>d0)⟩
 · refine ⟨by decide,by simp,?_,rfl,(Below.refl _ _).drew,?_,Nat.le_refl _,?_,?_⟩
   · rfl
   · intro i _ h
     rw [repF] at h;cases h
   · intro h
     rw [repF] at h;cases h
   · intro p _ h
     rw [repF] at h;cases h
end Go.Proofs.YtjmiaemabhlnjaaGreatDoor.Top
end
section
set_option linter.all false
set_option maxRecDepth 20000
namespace Go.YtjmiaemabhlnjaaGreatDoorMap
open Go Go.ChangeMaps
open Go.Maps (Keyed)
theorem IterAt.left_eq {w:World} {b r:Nat} {L left:List Pair} (h:IterAt w b r L left):w.rangeLeft b r=left.length:=by
 obtain ⟨es,clock,since,seen,c0,hb,_,_,_,hr,_,_,_,hl⟩:=h;simp only [World.rangeLeft,hb,hr];rw [←hl.length_eq];simp
theorem IterAt.perm {w:World} {b r:Nat} {L left left':List Pair} (h:IterAt w b r L left) (hp:left.Perm left'):IterAt w b r L left':=by
 obtain ⟨es,clock,since,seen,c0,hb,h1,h2,h3,hr,h4,h5,h6,hl⟩:=h;exact ⟨es,clock,since,seen,c0,hb,h1,h2,h3,hr,h4,h5,h6,hl.trans hp⟩
theorem pick_map {α:Type} [DecidableEq α] {f:α→Pair} {left:List α} {p:Pair} {l':List Pair} (h:(left.map f).Perm (p::l')):∃x rest,f x=p∧left.Perm (x::rest)∧(rest.map f).Perm l':=by
 have hm:p∈left.map f:=h.mem_iff.2 (by simp);obtain ⟨x,hx,rfl⟩:=List.mem_map.1 hm;have h1:=List.perm_cons_erase hx;exact ⟨x,left.erase x,rfl,h1,((h1.map f).symm.trans h).cons_inv⟩
variable {P:Program} (w:World) {ops:Array Oper} {rest:List Oper} {o:Oper} {a:Act} {Q:Exit→Act→World→Prop}
theorem wpList_range_map (hg:o.guard=none) (m:Operand) (t:TypeId) (hop:o.op=Op.range t m) (k e:TypeId) (ht:P.underlying t=some (.map k e)) (b:Nat) (L:List Pair)
 (hm:a.eval m=.map (some b)) (hown:MapIs w b L)
 (hK:∀w',IterAt w' b w.heap.size L L→w.grownBy w' none→w'.heap.size=w.heap.size+1→wpList P ops Q rest (a.put o.dst (.pointer (some ⟨w.heap.size,0,none⟩))) w') :
 wpList P ops Q (o::rest) a w:=by
 refine wpList_plain hg fun K' hK'=>?_;obtain ⟨w',hrun,r1,r2,r3⟩:=hown.range (P:=P) ht;unfold Oper.wp;simp [execOp,hop,hm,hrun,Result.andThen];exact hK' _ _ (hK w' r1 r2 r3)
theorem wpList_insert_map (hg:o.guard=none) (m x v:Operand) (t:TypeId) (hop:o.op=Op.mapUpdate t m x v) (k e:TypeId) (K:Keyed P k) (ht:P.underlying t=some (.map k e)) (b:Nat) (L:List Pair)
 (hm:a.eval m=.map (some b)) (hown:MapIs w b L) (key val:Value) (kl:Lit) (hx:a.eval x=key) (hv:a.eval v=val) (hkey:keyOf P k key=some kl) (hall:∀p∈L,∃l,keyOf P k p.1=some l) (hnew:∀p∈L,p.1≠key)
 (hK:∀w',MapIs w' b ((key,val)::L)→w.grownBy w' (some b)→w'.heap.size=w.heap.size→wpList P ops Q rest (a.put o.dst undef) w') :
 wpList P ops Q (o::rest) a w:=by
 refine wpList_plain hg fun K' hK'=>?_;obtain ⟨w',hrun,r1,r2,r3⟩:=hown.insert (P:=P) K ht hkey hall hnew (val:=val);unfold Oper.wp;simp [execOp,hop,hm,hx,hv,hrun,Result.andThen];exact hK' _ _ (hK w' r1 r2 r3)
theorem wpList_next_map {α:Type} [DecidableEq α] (f:α→Pair) (hg:o.guard=none) (it:Operand) (hop:o.op=Op.next it false) (b r:Nat) (L:List Pair) (left:List α)
 (hit:a.eval it=.pointer (some ⟨r,0,none⟩)) (h:IterAt w b r L (left.map f))
 (hDone:left=[]→wpList P ops Q rest (a.put o.dst (.tuple #[.bool false])) w)
 (hMore:∀(x:α) (left':List α) (w':World),left.Perm (x::left')→IterAt w' b r L (left'.map f)→w.grownBy w' (some r)→w'.heap.size=w.heap.size →
   (Instr.entry (.pointer (some ⟨r,0,none⟩))).run P w'=.ok (.tuple #[(f x).1,(f x).2]) w'→wpList P ops Q rest (a.put o.dst (.tuple #[.bool true,(f x).1,(f x).2])) w') :
 wpList P ops Q (o::rest) a w:=by
 refine wpList_plain hg fun K' hK'=>?_;unfold Oper.wp
 rcases h.next (P:=P) o.type with ⟨h0,hrun⟩ | ⟨k,v,l',w',hp,hrun,h',hen,hs,ho,hou,hta,hbl⟩
 · simp [execOp,hop,hit,hrun,Result.andThen]
   exact hK' _ _ (hDone (List.map_eq_nil_iff.1 h0))
 · simp [execOp,hop,hit,hrun,Result.andThen]
   obtain ⟨x,left',hx,h1,h2⟩:=pick_map hp
   have e1:(f x).1=k:=by rw [hx]
   have e2:(f x).2=v:=by rw [hx]
   have:=hMore x left' w' h1 (h'.perm h2.symm) ⟨ho,hta,hou,by omega,fun i _ hi=>hbl i (fun e=>hi (by rw [e]))⟩ hs (by rw [e1,e2];exact hen);rw [e1,e2] at this;exact hK' _ _ this
end Go.YtjmiaemabhlnjaaGreatDoorMap
end
section
set_option linter.all false
set_option maxRecDepth 100000
namespace Go.Proofs.YtjmiaemabhlnjaaGreatDoor.Top
open Go Go.RowKit Go.YtjmiaemabhlnjaaGreatDoorMap
abbrev Row:=Key×List UInt8
def delta (x:Row):List Row:=(Lib.fields x.2).zipIdx.map fun p=>((x.1.1,x.1.2.1+(p.2:Int),x.1.2.2),Lib.trimSuffix p.1 [46])
def tabL:List Row:=rowsL.flatMap delta
theorem tabKeys:(tabL.all fun p=>(keyOf Tryz.prog 265 (kv p.1)).isSome)=true:=by kernel_rfl
theorem tabNodup:(tabL.map (·.1)).Nodup:=of_decide_eq_true (by kernel_rfl)
theorem rowsAscii:(rowsL.all fun p=>p.2.all fun b=>decide (b.toNat<128))=true:=by kernel_rfl
theorem rowsShort:(rowsL.all fun p=>decide (p.2.length<1000))=true:=by kernel_rfl
theorem tabShort:(rowsL.all fun p=>(Lib.fields p.2).all fun s=>decide (s.length<1000))=true:=by kernel_rfl
theorem rowsSmall:(rowsL.all fun p=>decide (0≤p.1.2.1)&&decide (p.1.2.1<100)&&decide ((Lib.fields p.2).length<100))=true:=by kernel_rfl
theorem new_key {out rest:List Row} {x y:Row} {i:Nat} (hp:(out++delta x++rest).Perm tabL) (hy:(delta x)[i]? = some y):(∀p∈out++(delta x).take i,p.1≠y.1)∧y∈tabL∧∀p∈out++(delta x).take i,p∈tabL:=by
 have hn:((out++delta x++rest).map (·.1)).Nodup:=(hp.map _).nodup_iff.2 tabNodup
 have hsplit:delta x=(delta x).take i++y::(delta x).drop (i+1):=by
  obtain ⟨h1,h2⟩:=List.getElem?_eq_some_iff.1 hy
  conv=>lhs;rw [←List.take_append_drop i (delta x),List.drop_eq_getElem_cons h1,h2]
 refine ⟨fun p hpm e=>?_,hp.mem_iff.1 ?_,fun p hpm=>hp.mem_iff.1 ?_⟩
 · rw [hsplit] at hn
   have:((out++(delta x).take i++y::((delta x).drop (i+1)++rest)).map (·.1)).Nodup:=by simpa using hn
   rw [List.map_append,List.nodup_append] at this;exact this.2.2 _ (List.mem_map_of_mem hpm) _ (by simp) e
 · simp only [List.mem_append]
   exact .inl (.inr (List.mem_of_getElem? hy))
 · simp only [List.mem_append] at hpm ⊢
   rcases hpm with h | h
   · exact .inl (.inl h)
   · exact .inl (.inr (List.mem_of_mem_take h))
def RowX:Type:=Key×List UInt8
instance:DecidableEq RowX:=inferInstanceAs (DecidableEq (Key×List UInt8))
def pvX (x:RowX):Pair:=pv x
def intOf:Value→Int | .int _ n=>n | _=>0
structure Aside (p:Prop):Prop where
 out:p
theorem tab_below {P:Program} {w w':World} {name:String} {k:IntKind} {zs:List Int} (h:Lib.TabIs P w name k zs) (hb:Below w.heap.size w w'):Lib.TabIs P w' name k zs:=by
 unfold Lib.TabIs World.var? at *
 cases hg:P.globalNamed name with
 | none=>simp [hg] at h
 | some g =>
   simp only [hg,Option.bind_some] at h ⊢
   have lt:g<w.heap.size:=by
    rcases Nat.lt_or_ge g w.heap.size with h' | h'
    · exact h'
    · rw [Array.getElem?_eq_none h'] at h;cases h
   rw [hb.block g lt];exact h
theorem table_any (w:World) (m:Int) (hm:w.cell? ⟨0,0,none⟩=some (.int .i64 m)) (htab:Lib.TabIs Tryz.prog w "strings.asciiSpace" .u8 Lib.asciiSpaceTab) :
 Calls Tryz.prog 175 #[] w fun e w'=>∃B,e=.returned (.map (some B))∧w.heap.size≤B∧MapIs w' B (tabL.map pv)∧Below w.heap.size w w':=by
 have htabA:∀w',Below w.heap.size w w'→Lib.TabIs Tryz.prog w' "strings.asciiSpace" .u8 Lib.asciiSpaceTab:=fun w' hb=>tab_below htab hb;have hmm:=@run_makeMap Tryz.prog;have h0:=World.block_lt_of_cell? _ _ hm;have hm1:(w.alloc (.map #[] 0)).cell? ⟨0,0,none⟩=some (.int .i64 m):=(World.cell?_alloc_old _ _ _ (Nat.ne_of_lt h0)).trans hm;go_enter Tryz.func175,Tryz.ntmps175
 go_wp2_with (first
  | (with_reducible refine (rows_any _ m hm1).mono ?_;rintro e w1 ⟨A,rfl,hA,hA1,hB1⟩)
  | (at_range;refine wpList_range_map _ rfl _ 262 rfl 265 9 Tryz.underlying262 A _ rfl hA1 ?_;intro w2 hit hg2 hs2)
  | go_in)
 have esz:(w.alloc (.map #[] 0)).heap.size=w.heap.size+1:=by simp
 rw [esz] at hA;have M0:MapIs w2 w.heap.size []:=((MapIs.made w).same (hB1.block _ (by omega))).kept hg2 (by simp);have B0:Below w.heap.size w w2:=(((Below.refl _ _).alloc (Nat.le_refl _) _).trans (hB1.mono (by omega))).grown hg2 (by have:=hB1.size;omega) (fun j hj=>by cases hj)
 have hr1:w.heap.size<w1.heap.size:=by have:=hB1.size;omega
 generalize hR:w1.heap.size=r at hit hr1 ⊢
 have hs2r:w2.heap.size=r+1:=by omega
 clear hR hs2 hg2 hB1 hA1;have HIT:=Aside.mk hit;have HM:=Aside.mk M0;have HB:=Aside.mk B0;clear hit M0 B0
 go_frame
 go_loopw [9] (fun _ wr=>∃(out left:List Row),Aside (IterAt wr A r (rowsL.map pv) (left.map pv))∧Aside (MapIs wr w.heap.size (out.map pv))∧Aside ((out++left.flatMap delta).Perm tabL)∧Aside (Below w.heap.size w wr)∧Aside (∀x∈left,x∈rowsL)) (fun _ wr=>wr.rangeLeft A r)
 case atStart=>exact ⟨[],rowsL,HIT,HM,⟨List.Perm.refl _⟩,HB,⟨fun x h=>h⟩⟩
 case round =>
  obtain ⟨out,left,HI,HO,HP,HW,HS⟩:=hrel
  go_wp2_with (first
   | (at_next;refine wpList_next_map (α:=RowX) _ pvX rfl _ rfl A r _ left rfl HI.out ?_ ?_)
   | go_in)
  · intro hl
    go_wp2;go_ret;subst hl;refine ⟨_,rfl,Nat.le_refl _,HO.out.perm ?_,HW.out⟩;have h2:(out++([]:List Row).flatMap delta).Perm tabL:=HP.out;rw [List.flatMap_nil,List.append_nil] at h2;exact h2.map pv
  · intro x left' w3 hp hI3 hg3 hs3 hen
    obtain ⟨wo,hwo⟩:∃x,x=wr:=⟨_,rfl⟩;subst hwo;obtain ⟨⟨k,o,u⟩,s⟩:=x;have hxr:((k,o,u),s)∈rowsL:=HS.out _ (hp.symm.mem_iff.1 List.mem_cons_self);have hen':(Instr.entry (.pointer (some ⟨r,0,none⟩))).run Tryz.prog w3=.ok (.tuple #[.agg #[.int .i64 k,.int .i64 o,.bool u],.string ⟨s.toArray⟩]) w3:=hen;have e0:(pvX ((k,o,u),s)).1=.agg #[.int .i64 k,.int .i64 o,.bool u]:=rfl;have e1:(pvX ((k,o,u),s)).2=.string ⟨s.toArray⟩:=rfl
    rw [e0,e1];clear hen e0 e1;have hsa:s.length<1000:=of_decide_eq_true (List.all_eq_true.1 rowsShort _ hxr)
    have hasc:∀(j:Nat) b,(⟨s.toArray⟩:ByteArray).data.toList[j]? = some b→b.toNat<128:=fun j b hj=>by
     have h1:=List.all_eq_true.1 rowsAscii _ hxr;have h2:=List.all_eq_true.1 h1 b (List.mem_of_getElem? (by simpa using hj));exact of_decide_eq_true h2
    have H3:=Aside.mk hI3;have G3:=Aside.mk hg3;have HA:=Aside.mk hasc;have HX:=Aside.mk hxr;have HPP:=Aside.mk hp;clear hI3 hg3 hasc hxr hp;have hT4:=htabA _ ((HW.out.grown G3.out HW.out.size (fun j hj=>by cases hj;omega)).alloc (by have:=HW.out.size;omega) (.cells #[.int .i64 k,.int .i64 o,.bool u] 265))
    have hsz:(⟨s.toArray⟩:ByteArray).size<4294967281:=by
     show s.toArray.size<4294967281
     simp;omega
    have hF:=Tryz.strings_Fields ⟨s.toArray⟩ (w3.alloc (.cells #[.int .i64 k,.int .i64 o,.bool u] 265)) hsz HA.out hT4;rw [show (⟨s.toArray⟩:ByteArray).data.toList=s from rfl] at hF;generalize hfs:Lib.fields s=fs at hF;have HFS:=Aside.mk hfs;clear hfs;obtain ⟨n,hn⟩:∃n,fs.length=n:=⟨_,rfl⟩;rw [hn] at hF;have HN:=Aside.mk hn;clear hn hT4
    go_wp2_with (with_reducible refine hF.mono ?_;rintro e w5 ⟨rfl,rfl⟩)
    have hws:=HW.out.size
    have h5a:(w3.alloc (.cells #[.int .i64 k,.int .i64 o,.bool u] 265)).heap.size=wo.heap.size+1:=by simp [hs3]
    generalize hw5:(w3.alloc (.cells #[.int .i64 k,.int .i64 o,.bool u] 265)).alloc (Obj.cells (List.map (fun l=>Value.string {data:=l.toArray}) fs).toArray 9)=w5
    have hg5:wo.grownBy w5 (some r):=by
     rw [←hw5];exact (G3.out.trans (World.grownBy_alloc _ _ _)).trans (World.grownBy_alloc _ _ _)
    have HT5:w5.heap[wo.heap.size]? = some (.cells #[.int .i64 k,.int .i64 o,.bool u] 265):=by
     rw [←hw5,(MapKept.heap_alloc _ _).2 _ (by omega),←hs3];exact (MapKept.heap_alloc _ _).1
    have HF5:w5.heap[wo.heap.size+1]? = some (.cells (List.map (fun l=>Value.string {data:=l.toArray}) fs).toArray 9):=by
     rw [←hw5,←h5a];exact (MapKept.heap_alloc _ _).1
    have I5:IterAt w5 A r (rowsL.map pv) (left'.map pvX):=by
     rw [←hw5];exact (H3.out.kept (World.grownBy_alloc _ _ none) (by simp) (by simp)).kept (World.grownBy_alloc _ _ none) (by simp) (by simp)
    have hs5:w5.heap.size=wo.heap.size+2:=by rw [←hw5];simp [hs3]
    have M5:MapIs w5 w.heap.size (out.map pv):=HO.out.kept hg5 (by intro e;have:=Option.some.inj e;omega);have B5:Below w.heap.size w w5:=HW.out.grown hg5 HW.out.size (fun j hj=>by cases hj;omega);have HI5:=Aside.mk I5;have HM5:=Aside.mk M5;have HB5:=Aside.mk B5;have HT:=Aside.mk HT5;have HFb:=Aside.mk HF5;have hAr:A<wo.heap.size∧r<wo.heap.size:=⟨HI.out.map.lt,HI.out.lt⟩;clear hw5 hg5 HT5 HF5 I5 M5 B5 H3 G3 hF h5a hs3 hen'
    go_loopw [17] (fun i wx=>∃j:Nat,i=.int .i64 j∧j≤n∧Aside (MapIs wx w.heap.size ((out++(delta ((k,o,u),s)).take j).map pv))∧Aside (w5.grownBy wx (some w.heap.size))) (fun i _=>n - (intOf i).toNat)
    case atStart=>exact ⟨0,rfl,Nat.zero_le _,⟨by simpa using HM5.out⟩,⟨⟨rfl,rfl,rfl,Nat.le_refl _,fun _ _ _=>rfl⟩⟩⟩
    case round =>
     obtain ⟨j,rfl,hj,HMX,HGX⟩:=hrel
     by_cases hlt:j<n
     · obtain ⟨t,hft⟩:∃t,fs[j]? = some t:=⟨_,List.getElem?_eq_getElem (by rw [HN.out];exact hlt)⟩
       have ht0:wr.heap[wo.heap.size]? = some (.cells #[.int .i64 k,.int .i64 o,.bool u] 265):=(HGX.out.block _ (by omega) (by intro e;have:=Option.some.inj e;omega)).trans HT.out;have ht1:wr.heap[wo.heap.size+1]? = some (.cells (List.map (fun l=>Value.string {data:=l.toArray}) fs).toArray 9):=(HGX.out.block _ (by omega) (by intro e;have:=Option.some.inj e;omega)).trans HFb.out
       have e0:wr.cell? ⟨wo.heap.size,0,none⟩=some (.int .i64 k):=by simp [World.cell?,ht0]
       have e1:wr.cell? ⟨wo.heap.size,1,none⟩=some (.int .i64 o):=by simp [World.cell?,ht0]
       have e2:wr.cell? ⟨wo.heap.size,2,none⟩=some (.bool u):=by simp [World.cell?,ht0]
       have ej:wr.cell? ⟨wo.heap.size+1,j,none⟩=some (.string ⟨t.toArray⟩):=by simp [World.cell?,ht1,hft]
       have HTT:=Aside.mk hft;have HT0:=Aside.mk ht0;clear hft ht0 ht1
       go_wp2_with fail
       have hx:=HX.out;have hsm:=List.all_eq_true.1 rowsSmall _ hx;simp only [Bool.and_eq_true,decide_eq_true_eq] at hsm;obtain ⟨⟨ho0,ho1⟩,hfn⟩:=hsm;rw [HFS.out,HN.out] at hfn
       have hwr:IntKind.i64.wrap (o+(j:Int))=o+(j:Int):=by simp [IntKind.wrap,IntKind.bits,IntKind.signed];omega
       have hts:(⟨t.toArray⟩:ByteArray).size≤9223372036854775807:=by
        have h1:=List.all_eq_true.1 tabShort _ hx;have h2:=List.all_eq_true.1 h1 t (by rw [HFS.out];exact List.mem_of_getElem? HTT.out);have h3:t.length<1000:=of_decide_eq_true h2
        show t.toArray.size≤_
        simp;omega
       have hTS:=fun w=>Tryz.strings_TrimSuffix ⟨t.toArray⟩ ⟨#[46]⟩ w hts
       go_still_tail 12,(by kernel_rfl)
       still_call (hTS _)
       repeat still_step
       try refine wpStill_nil ?_
       have hy:(delta ((k,o,u),s))[j]? = some ((k,o+(j:Int),u),Lib.trimSuffix t [46]):=by
        simp [delta,HFS.out,HTT.out]
       have hpp:List.Perm left (((k,o,u),s)::left'):=HPP.out
       have hp2:(out++delta ((k,o,u),s)++List.flatMap delta left').Perm tabL:=by
        refine List.Perm.trans ?_ HP.out;rw [List.append_assoc];refine List.Perm.append_left _ ?_;have h2:(left.flatMap delta).Perm (delta ((k,o,u),s)++List.flatMap delta left'):=hpp.flatMap_right delta;exact h2.symm
       obtain ⟨n1,n2,n3⟩:=new_key hp2 hy;have hk:∀p∈tabL,∃kl,keyOf Tryz.prog 265 (kv p.1)=some kl:=fun p hp=>Option.isSome_iff_exists.1 (List.all_eq_true.1 tabKeys p hp);obtain ⟨kl,hkl⟩:=hk _ n2
       have k1:∀p∈(out++(delta ((k,o,u),s)).take j).map pv,∃kl,keyOf Tryz.prog 265 p.1=some kl:=by
        intro p hpm;obtain ⟨z,hz,rfl⟩:=List.mem_map.1 hpm;exact hk z (n3 z hz)
       have k2:∀p∈(out++(delta ((k,o,u),s)).take j).map pv,p.1≠kv (k,o+(j:Int),u):=by
        intro p hpm;obtain ⟨z,hz,rfl⟩:=List.mem_map.1 hpm;intro e;exact n1 z hz (kv_inj e)
       refine wpList_insert_map _ rfl _ _ _ 262 rfl 265 9 K265 Tryz.underlying262 w.heap.size _ rfl (HMX.out.same rfl) (kv (k,o+(j:Int),u)) (bs (Lib.trimSuffix t [46])) kl rfl rfl hkl k1 k2 ?_;intro w6 hM6 hg6 hs6;have hg7:wr.grownBy w6 (some w.heap.size):=⟨hg6.os,hg6.tape,hg6.output,hg6.size,hg6.block⟩
       have hM7:MapIs w6 w.heap.size ((out++(delta ((k,o,u),s)).take (j+1)).map pv):=by
        refine hM6.perm ?_;rw [List.take_succ,hy,Option.toList_some,←List.append_assoc,List.map_append (l₂:=[_])];exact (List.perm_append_singleton _ _).symm
       have HM7:=Aside.mk hM7;have HG7:=Aside.mk (HGX.out.trans hg7);clear hM6 hg6 hs6 hg7 hM7 k1 k2 hkl n1 n2 n3 hp2 hpp hy hk hTS;go_wp2;refine ⟨⟨j+1,by simp,by omega,HM7,HG7⟩,?_⟩;simp only [intOf];omega
     · have hjn:j=n:=by omega
       subst hjn;go_wp2
       have hdl:(delta ((k,o,u),s)).length=j:=by simp [delta,HFS.out,HN.out]
       have hIw:=HI5.out.kept HGX.out (by intro e;have:=Option.some.inj e;omega) (by intro e;have:=Option.some.inj e;omega);have hpp:List.Perm left (((k,o,u),s)::left'):=HPP.out;have hMw:=HMX.out;rw [List.take_of_length_le (by omega)] at hMw;refine ⟨⟨out++delta ((k,o,u),s),left',⟨hIw⟩,⟨hMw⟩,⟨?_⟩,⟨HB5.out.grown HGX.out HB5.out.size (fun i hi=>by cases hi;exact Nat.le_refl _)⟩,⟨fun y hy=>HS.out y (hpp.symm.mem_iff.1 (List.mem_cons_of_mem _ hy))⟩⟩,?_⟩
       · refine List.Perm.trans ?_ HP.out
         rw [List.append_assoc];refine List.Perm.append_left _ ?_;have h2:(left.flatMap delta).Perm (delta ((k,o,u),s)++List.flatMap delta left'):=hpp.flatMap_right delta;exact h2.symm
       · rw [hIw.left_eq,HI.out.left_eq,List.length_map,List.length_map]
         have h1:left.length=List.length (α:=RowX) left'+1:=hpp.length_eq;omega
theorem results_tmp4 {fn:Func} {t u v x:Tmp} (h:fn.results=#[.tmp t,.tmp u,.tmp v,.tmp x]) (tmps:Array Value) (P:Program) (w:World) :
 (results fn tmps).run P w=.ok (.tuple #[tmps.getD t undef,tmps.getD u undef,tmps.getD v undef,tmps.getD x undef]) w:=by
 simp [results,h]
theorem of_any (w:World) (m:Int) (hm:w.cell? ⟨0,0,none⟩=some (.int .i64 m)) (htab:Lib.TabIs Tryz.prog w "strings.asciiSpace" .u8 Lib.asciiSpaceTab)
 (k0 o0:Int) (u0:Bool) (s:List UInt8) (hx:((k0,o0,u0),s)∈tabL) (hone:∀y∈tabL,y.2=s→y=((k0,o0,u0),s)) :
 Calls Tryz.prog 133 #[.string ⟨s.toArray⟩] w fun e w'=>e=.returned (.tuple #[.int .i64 k0,.int .i64 o0,.bool u0,.bool true])∧Below w.heap.size w w':=by
 go_enter Tryz.func133,Tryz.ntmps133
 go_wp2_with (first
  | (with_reducible refine (table_any _ m hm htab).mono ?_;rintro e w1 ⟨B,rfl,hB,hB1,hW1⟩)
  | (at_range;refine wpList_range_map _ rfl _ 262 rfl 265 9 Tryz.underlying262 B _ rfl hB1 ?_;intro w2 hit hg2 hs2)
  | go_in)
 have hr1:w.heap.size≤w1.heap.size:=hW1.size;have B0:Below w.heap.size w w2:=hW1.grown hg2 hW1.size (fun j hj=>by cases hj);generalize hR:w1.heap.size=r at hit hr1 ⊢;clear hR hs2 hg2 hW1 hB1;have HIT:=Aside.mk hit;have HB:=Aside.mk B0;have HX:=Aside.mk hx;have HONE:=Aside.mk hone;clear hit B0 hx hone
 go_frame
 go_loopw [10] (fun _ wr=>∃(left:List Row),Aside (IterAt wr B r (tabL.map pv) (left.map pv))∧Aside (Below w.heap.size w wr)∧Aside (∀x∈left,x∈tabL)∧Aside (((k0,o0,u0),s)∈left)) (fun _ wr=>wr.rangeLeft B r)
 case atStart=>exact ⟨tabL,HIT,HB,⟨fun x h=>h⟩,HX⟩
 case round =>
  obtain ⟨left,HI,HW,HS,HL⟩:=hrel
  go_wp2_with (first
   | (at_next;refine wpList_next_map (α:=RowX) _ pvX rfl _ rfl B r _ left rfl HI.out ?_ ?_)
   | go_in)
  · intro hl
    have:=HL.out;rw [show left=[] from hl] at this;cases this
  · intro x left' w3 hp hI3 hg3 hs3 hen
    obtain ⟨wo,hwo⟩:∃x,x=wr:=⟨_,rfl⟩;subst hwo;obtain ⟨⟨k,o,u⟩,t⟩:=x;have hxr:((k,o,u),t)∈tabL:=HS.out _ (hp.symm.mem_iff.1 List.mem_cons_self);have hen':(Instr.entry (.pointer (some ⟨r,0,none⟩))).run Tryz.prog w3=.ok (.tuple #[.agg #[.int .i64 k,.int .i64 o,.bool u],.string ⟨t.toArray⟩]) w3:=hen;have e0:(pvX ((k,o,u),t)).1=.agg #[.int .i64 k,.int .i64 o,.bool u]:=rfl;have e1:(pvX ((k,o,u),t)).2=.string ⟨t.toArray⟩:=rfl
    rw [e0,e1];clear hen e0 e1;have H3:=Aside.mk hI3;have W3:=Aside.mk (HW.out.grown hg3 HW.out.size (fun j hj=>by cases hj;omega));have HXR:=Aside.mk hxr;have HPP:=Aside.mk hp;have hlt3:=HW.out.size
    have hsz3:w.heap.size≤w3.heap.size:=by omega
    clear hI3 hg3 hxr hp
    by_cases hts:t=s
    · subst hts
      have:=HONE.out _ HXR.out rfl;cases this;go_wp2
      go_quiet (fail)
      generalize hK:World.drewN _ _=Wc
      have HC:Aside (Below w.heap.size w Wc):=⟨by
       rw [←hK];have h1:=W3.out.alloc hsz3 (.cells #[.int .i64 k0,.int .i64 o0,.bool u0] 265)
       exact ⟨h1.os,h1.tape,h1.output,h1.size,h1.block⟩⟩
      clear hK;go_wp2
      (try simp only [Exit.inBlock,Exit.then])
      refine bodyPost_ret (results_tmp4 rfl _ _ _) rfl ?_;exact ⟨rfl,HC.out⟩
    · have hts':(t==s)=false:=by simpa using hts
      go_wp2;have hg4:=World.grownBy_alloc w3 (.cells #[.int .i64 k,.int .i64 o,.bool u] 265) none;have hIw:=H3.out.kept hg4 (by simp) (by simp);have hpp:List.Perm left (((k,o,u),t)::left'):=HPP.out;refine ⟨⟨left',⟨hIw⟩,⟨W3.out.alloc hsz3 _⟩,⟨fun y hy=>HS.out y (hpp.symm.mem_iff.1 (List.mem_cons_of_mem _ hy))⟩,⟨?_⟩⟩,?_⟩
      · rcases List.mem_cons.1 (hpp.mem_iff.1 HL.out) with e | e
        · cases e
          exact absurd rfl hts
        · exact e
      · rw [hIw.left_eq,HI.out.left_eq,List.length_map,List.length_map]
        have h1:left.length=List.length (α:=RowX) left'+1:=hpp.length_eq;omega
end Go.Proofs.YtjmiaemabhlnjaaGreatDoor.Top
end
section
set_option linter.all false
set_option maxRecDepth 20000
namespace Go.Proofs.YtjmiaemabhlnjaaGreatDoor.Sym
open Go Go.RowKit
noncomputable section
inductive PT (α:Type) where
 | nil
 | node (l:PT α) (v:Option α) (r:PT α)
def PT.get {α:Type} (t:PT α):Nat→Option α :=
 PT.rec (motive:=fun _=>Nat→Option α) (fun _=>none)
  (fun _ v _ gl gr n=>Nat.rec (motive:=fun _=>Option α) v (fun m _=>Nat.rec (motive:=fun _=>Option α) (gl (Nat.div m 2)) (fun _ _=>gr (Nat.div m 2)) (Nat.mod m 2)) n) t
def PT.setF {α:Type} (x:Option α) (f:Nat):PT α→Nat→PT α :=
 Nat.rec (motive:=fun _=>PT α→Nat→PT α) (fun t _=>t)
  (fun _ ih t n=>PT.rec (motive:=fun _=>PT α)
    (Nat.rec (motive:=fun _=>PT α) (.node .nil x .nil) (fun m _=>Nat.rec (motive:=fun _=>PT α) (.node (ih .nil (Nat.div m 2)) none .nil) (fun _ _=>.node .nil none (ih .nil (Nat.div m 2))) (Nat.mod m 2)) n)
    (fun l v r _ _=>Nat.rec (motive:=fun _=>PT α) (.node l x r) (fun m _=>Nat.rec (motive:=fun _=>PT α) (.node (ih l (Nat.div m 2)) v r) (fun _ _=>.node l v (ih r (Nat.div m 2))) (Nat.mod m 2)) n) t) f
def PT.set {α:Type} (t:PT α) (n:Nat) (x:α):PT α:=PT.setF (some x) (Nat.succ n) t n
def PT.del {α:Type} (t:PT α) (n:Nat):PT α:=PT.setF none (Nat.succ n) t n
theorem PT.get_nil {α:Type} (n:Nat):(PT.nil:PT α).get n=none:=rfl
theorem PT.get_zero {α:Type} (l r:PT α) (v:Option α):(PT.node l v r).get 0=v:=rfl
theorem PT.get_even {α:Type} (l r:PT α) (v:Option α) {m:Nat} (h:m%2=0):(PT.node l v r).get (m+1)=l.get (m / 2):=by
 show Nat.rec (motive:=fun _=>Option α) (l.get (m / 2)) (fun _ _=>r.get (m / 2)) (m%2)=_
 rw [h]
 rfl
theorem PT.get_odd {α:Type} (l r:PT α) (v:Option α) {m:Nat} (h:m%2≠0):(PT.node l v r).get (m+1)=r.get (m / 2):=by
 show Nat.rec (motive:=fun _=>Option α) (l.get (m / 2)) (fun _ _=>r.get (m / 2)) (m%2)=_
 have:m%2=1:=by omega
 rw [this]
 rfl
theorem PT.set_nil_zero {α:Type} (x:Option α) (f:Nat):PT.setF x (f+1) .nil 0=.node .nil x .nil:=rfl
theorem PT.set_nil_even {α:Type} (x:Option α) (f:Nat) {m:Nat} (h:m%2=0):PT.setF x (f+1) .nil (m+1)=.node (PT.setF x f .nil (m / 2)) none .nil:=by
 show Nat.rec (motive:=fun _=>PT α) (.node (PT.setF x f .nil (m / 2)) none .nil) (fun _ _=>.node .nil none (PT.setF x f .nil (m / 2))) (m%2)=_
 rw [h]
 rfl
theorem PT.set_nil_odd {α:Type} (x:Option α) (f:Nat) {m:Nat} (h:m%2≠0):PT.setF x (f+1) .nil (m+1)=.node .nil none (PT.setF x f .nil (m / 2)):=by
 show Nat.rec (motive:=fun _=>PT α) (.node (PT.setF x f .nil (m / 2)) none .nil) (fun _ _=>.node .nil none (PT.setF x f .nil (m / 2))) (m%2)=_
 have:m%2=1:=by omega
 rw [this]
 rfl
theorem PT.set_node_zero {α:Type} (x:Option α) (f:Nat) (l r:PT α) (v:Option α):PT.setF x (f+1) (.node l v r) 0=.node l x r:=rfl
theorem PT.set_node_even {α:Type} (x:Option α) (f:Nat) (l r:PT α) (v:Option α) {m:Nat} (h:m%2=0):PT.setF x (f+1) (.node l v r) (m+1)=.node (PT.setF x f l (m / 2)) v r:=by
 show Nat.rec (motive:=fun _=>PT α) (.node (PT.setF x f l (m / 2)) v r) (fun _ _=>.node l v (PT.setF x f r (m / 2))) (m%2)=_
 rw [h]
 rfl
theorem PT.set_node_odd {α:Type} (x:Option α) (f:Nat) (l r:PT α) (v:Option α) {m:Nat} (h:m%2≠0):PT.setF x (f+1) (.node l v r) (m+1)=.node l v (PT.setF x f r (m / 2)):=by
 show Nat.rec (motive:=fun _=>PT α) (.node (PT.setF x f l (m / 2)) v r) (fun _ _=>.node l v (PT.setF x f r (m / 2))) (m%2)=_
 have:m%2=1:=by omega
 rw [this]
 rfl
theorem PT.half_inj {n m:Nat} (h2:n%2=m%2) (h:n / 2=m / 2):n=m:=by
 have:=Nat.div_add_mod n 2;have:=Nat.div_add_mod m 2;omega
theorem PT.if_half {α:Type} {n m:Nat} (g:m%2=n%2) (a b:α):(if m / 2=n / 2 then a else b)=if m=n then a else b:=by
 by_cases h:m=n
 · simp [h]
 · rw [if_neg h,if_neg (fun e=>h (PT.half_inj g e))]
theorem PT.get_setF {α:Type} (x:Option α):∀(f:Nat) (t:PT α) (n m:Nat),n<f→(PT.setF x f t n).get m=if m=n then x else t.get m:=by
 intro f
 induction f with
 | zero=>intro t n m h;omega
 | succ f ih =>
   intro t n m hn
   cases t with
   | nil =>
     cases n with
     | zero =>
       rw [PT.set_nil_zero,PT.get_nil]
       cases m with
       | zero=>rfl
       | succ m =>
         by_cases h1:m%2=0
         · rw [PT.get_even _ _ _ h1,PT.get_nil,if_neg (by omega)]
         · rw [PT.get_odd _ _ _ h1,PT.get_nil,if_neg (by omega)]
     | succ n =>
       have hn2:n / 2<f:=by omega
       rw [PT.get_nil]
       by_cases h0:n%2=0
       · rw [PT.set_nil_even x f h0]
         cases m with
         | zero=>rw [PT.get_zero,if_neg (by omega)]
         | succ m =>
           by_cases h1:m%2=0
           · rw [PT.get_even _ _ _ h1,ih _ _ _ hn2,PT.get_nil,PT.if_half (h1.trans h0.symm)]
             simp only [Nat.add_right_cancel_iff]
           · rw [PT.get_odd _ _ _ h1,PT.get_nil,if_neg (by omega)]
       · rw [PT.set_nil_odd x f h0]
         cases m with
         | zero=>rw [PT.get_zero,if_neg (by omega)]
         | succ m =>
           by_cases h1:m%2=0
           · rw [PT.get_even _ _ _ h1,PT.get_nil,if_neg (by omega)]
           · rw [PT.get_odd _ _ _ h1,ih _ _ _ hn2,PT.get_nil,PT.if_half (by omega)]
             simp only [Nat.add_right_cancel_iff]
   | node l v r =>
     cases n with
     | zero =>
       rw [PT.set_node_zero]
       cases m with
       | zero=>rfl
       | succ m =>
         by_cases h1:m%2=0
         · rw [PT.get_even _ _ _ h1,PT.get_even _ _ _ h1,if_neg (by omega)]
         · rw [PT.get_odd _ _ _ h1,PT.get_odd _ _ _ h1,if_neg (by omega)]
     | succ n =>
       have hn2:n / 2<f:=by omega
       by_cases h0:n%2=0
       · rw [PT.set_node_even x f l r v h0]
         cases m with
         | zero=>rw [PT.get_zero,PT.get_zero,if_neg (by omega)]
         | succ m =>
           by_cases h1:m%2=0
           · rw [PT.get_even _ _ _ h1,PT.get_even _ _ _ h1,ih _ _ _ hn2,PT.if_half (h1.trans h0.symm)]
             simp only [Nat.add_right_cancel_iff]
           · rw [PT.get_odd _ _ _ h1,PT.get_odd _ _ _ h1,if_neg (by omega)]
       · rw [PT.set_node_odd x f l r v h0]
         cases m with
         | zero=>rw [PT.get_zero,PT.get_zero,if_neg (by omega)]
         | succ m =>
           by_cases h1:m%2=0
           · rw [PT.get_even _ _ _ h1,PT.get_even _ _ _ h1,if_neg (by omega)]
           · rw [PT.get_odd _ _ _ h1,PT.get_odd _ _ _ h1,ih _ _ _ hn2,PT.if_half (by omega)]
             simp only [Nat.add_right_cancel_iff]
theorem PT.get_set {α:Type} (t:PT α) (n m:Nat) (x:α):(t.set n x).get m=if m=n then some x else t.get m :=
 PT.get_setF _ _ _ _ _ (Nat.lt_succ_self n)
theorem PT.get_del {α:Type} (t:PT α) (n m:Nat):(t.del n).get m=if m=n then none else t.get m :=
 PT.get_setF _ _ _ _ _ (Nat.lt_succ_self n)
inductive SV where
 | bool (b:Bool)
 | int (k:IntKind) (n:Int)
 | str (l:List UInt8)
 | nilp
 | ptr (id off:Nat)
 | glob (g off:Nat)
 | nils
 | slice (id off es len:Nat) (cap:Option Nat)
 | nilm
 | map (id:Nat)
 | func (f:FuncId) (first captured:List SV)
 | nilf
 | iface (t:TypeId) (v:SV)
 | nili
 | agg (l:List SV)
 | tup (l:List SV)
 | opq (k:Nat)
 deriving Inhabited
def SV.undef:SV:=.tup []
structure Env where
 bl:List (Nat×Nat)
 op:List Value
mutual
def conc (σ:Env):SV→Option Value
 | .bool b=>some (.bool b)
 | .int k n=>some (.int k n)
 | .str l=>some (.string ⟨⟨l⟩⟩)
 | .nilp=>some (.pointer none)
 | .ptr id off=>(σ.bl[id]?).map fun x=>.pointer (some ⟨x.1,off,none⟩)
 | .glob g off=>some (.pointer (some ⟨g,off,none⟩))
 | .nils=>some (.slice none 0 0)
 | .slice id off es len cap=>(σ.bl[id]?).map fun x=>.slice (some ⟨x.1,off*es,none⟩) len (cap.getD (x.2 - off))
 | .nilm=>some (.map none)
 | .map id=>(σ.bl[id]?).map fun x=>.map (some x.1)
 | .func f a b=>(concL σ a).bind fun a=>(concL σ b).map fun b=>.func (.func f) a.toArray b.toArray
 | .nilf=>some .nilFunc
 | .iface t v=>(conc σ v).map fun v=>.iface t v
 | .nili=>some .nilIface
 | .agg l=>(concL σ l).map fun l=>.agg l.toArray
 | .tup l=>(concL σ l).map fun l=>.tuple l.toArray
 | .opq k=>(σ.op[k]?).bind fun v=>if v.oneCell' then some v else none
def concL (σ:Env):List SV→Option (List Value)
 | []=>some []
 | x::l=>(conc σ x).bind fun v=>(concL σ l).map fun vs=>v::vs
end
theorem conc_undef (σ:Env):conc σ .undef=some undef:=rfl
theorem concL_cons {σ:Env} {x:SV} {l:List SV} {vs:List Value} (h:concL σ (x::l)=some vs) :
 ∃v us,conc σ x=some v∧concL σ l=some us∧vs=v::us:=by
 simp only [concL,Option.bind_eq_some_iff,Option.map_eq_some_iff] at h;obtain ⟨v,hv,us,hu,rfl⟩:=h;exact ⟨v,us,hv,hu,rfl⟩
theorem concL_mk {σ:Env} {x:SV} {l:List SV} {v:Value} {vs:List Value} (h:conc σ x=some v) (k:concL σ l=some vs):concL σ (x::l)=some (v::vs):=by
 simp [concL,h,k]
theorem concL_length {σ:Env}:∀{l:List SV} {vs:List Value},concL σ l=some vs→vs.length=l.length
 | [],vs,h=>by cases h;rfl
 | x::l,vs,h=>by
   obtain ⟨v,us,_,hu,rfl⟩:=concL_cons h;simp [concL_length hu]
theorem concL_get {σ:Env}:∀{l:List SV} {vs:List Value} {i:Nat} {x:SV},concL σ l=some vs→l[i]? = some x→∃v,vs[i]? = some v∧conc σ x=some v
 | [],vs,i,x,h,hx=>by simp at hx
 | y::l,vs,0,x,h,hx=>by
   obtain ⟨v,us,hv,hu,rfl⟩:=concL_cons h;simp at hx;subst hx;exact ⟨v,rfl,hv⟩
 | y::l,vs,i+1,x,h,hx=>by
   obtain ⟨v,us,hv,hu,rfl⟩:=concL_cons h;exact concL_get (i:=i) hu (by simpa using hx)
theorem concL_append {σ:Env}:∀{a b:List SV} {va vb:List Value},concL σ a=some va→concL σ b=some vb→concL σ (a++b)=some (va++vb)
 | [],b,va,vb,ha,hb=>by cases ha;exact hb
 | x::a,b,va,vb,ha,hb=>by
   obtain ⟨v,us,hv,hu,rfl⟩:=concL_cons ha;exact concL_mk hv (concL_append hu hb)
theorem concL_drop {σ:Env}:∀{l:List SV} {vs:List Value} (n:Nat),concL σ l=some vs→concL σ (l.drop n)=some (vs.drop n)
 | l,vs,0,h=>by simpa using h
 | [],vs,n+1,h=>by cases h;rfl
 | x::l,vs,n+1,h=>by
   obtain ⟨v,us,hv,hu,rfl⟩:=concL_cons h;exact concL_drop n hu
theorem concL_take {σ:Env}:∀{l:List SV} {vs:List Value} (n:Nat),concL σ l=some vs→concL σ (l.take n)=some (vs.take n)
 | l,vs,0,h=>rfl
 | [],vs,n+1,h=>by cases h;rfl
 | x::l,vs,n+1,h=>by
   obtain ⟨v,us,hv,hu,rfl⟩:=concL_cons h;exact concL_mk hv (concL_take n hu)
structure Env.le (σ τ:Env):Prop where
 bl:∃t,τ.bl=σ.bl++t
 op:τ.op=σ.op
theorem Env.le.refl (σ:Env):σ.le σ:=⟨⟨[],by simp⟩,rfl⟩
theorem Env.le.trans {σ τ υ:Env} (h:σ.le τ) (k:τ.le υ):σ.le υ:=by
 obtain ⟨⟨a,ha⟩,h1⟩:=h;obtain ⟨⟨b,hb⟩,h2⟩:=k;exact ⟨⟨a++b,by rw [hb,ha,List.append_assoc]⟩,h2.trans h1⟩
theorem Env.le.get {σ τ:Env} (h:σ.le τ) {id:Nat} {x:Nat×Nat} (hx:σ.bl[id]? = some x):τ.bl[id]? = some x:=by
 obtain ⟨⟨t,ht⟩,_⟩:=h;rw [ht,List.getElem?_append_left (List.getElem?_eq_some_iff.1 hx).1,hx]
mutual
theorem conc_le {σ τ:Env} (h:σ.le τ):∀{x:SV} {v:Value},conc σ x=some v→conc τ x=some v
 | .bool b,v,e=>by simpa [conc] using e
 | .int k n,v,e=>by simpa [conc] using e
 | .str l,v,e=>by simpa [conc] using e
 | .nilp,v,e=>by simpa [conc] using e
 | .ptr id off,v,e=>by
   simp only [conc,Option.map_eq_some_iff] at e ⊢;obtain ⟨x,hx,rfl⟩:=e;exact ⟨x,h.get hx,rfl⟩
 | .glob g off,v,e=>by simpa [conc] using e
 | .nils,v,e=>by simpa [conc] using e
 | .slice id off es len cap,v,e=>by
   simp only [conc,Option.map_eq_some_iff] at e ⊢;obtain ⟨x,hx,rfl⟩:=e;exact ⟨x,h.get hx,rfl⟩
 | .nilm,v,e=>by simpa [conc] using e
 | .map id,v,e=>by
   simp only [conc,Option.map_eq_some_iff] at e ⊢;obtain ⟨x,hx,rfl⟩:=e;exact ⟨x,h.get hx,rfl⟩
 | .func f a b,v,e=>by
   simp only [conc,Option.bind_eq_some_iff,Option.map_eq_some_iff] at e ⊢;obtain ⟨va,ha,vb,hb,rfl⟩:=e;exact ⟨va,concL_le h ha,vb,concL_le h hb,rfl⟩
 | .nilf,v,e=>by simpa [conc] using e
 | .iface t x,v,e=>by
   simp only [conc,Option.map_eq_some_iff] at e ⊢;obtain ⟨u,hu,rfl⟩:=e;exact ⟨u,conc_le h hu,rfl⟩
 | .nili,v,e=>by simpa [conc] using e
 | .agg l,v,e=>by
   simp only [conc,Option.map_eq_some_iff] at e ⊢;obtain ⟨u,hu,rfl⟩:=e;exact ⟨u,concL_le h hu,rfl⟩
 | .tup l,v,e=>by
   simp only [conc,Option.map_eq_some_iff] at e ⊢;obtain ⟨u,hu,rfl⟩:=e;exact ⟨u,concL_le h hu,rfl⟩
 | .opq k,v,e=>by
   simp only [conc] at e ⊢;rw [h.op];exact e
theorem concL_le {σ τ:Env} (h:σ.le τ):∀{l:List SV} {vs:List Value},concL σ l=some vs→concL τ l=some vs
 | [],vs,e=>by simpa [concL] using e
 | x::l,vs,e=>by
   simp only [concL,Option.bind_eq_some_iff,Option.map_eq_some_iff] at e ⊢;obtain ⟨v,hv,us,hu,rfl⟩:=e;exact ⟨v,conc_le h hv,us,concL_le h hu,rfl⟩
end
def ofV1:Value→Option SV
 | .bool b=>some (.bool b)
 | .int k n=>some (.int k n)
 | .string s=>some (.str s.data.toList)
 | .pointer none=>some .nilp
 | .slice none 0 0=>some .nils
 | .map none=>some .nilm
 | .nilFunc=>some .nilf
 | .nilIface=>some .nili
 | _=>none
def ofVL:List Value→Option (List SV)
 | []=>some []
 | v::l=>match ofV1 v,ofVL l with
   | some x,some xs=>some (x::xs)
   | _,_=>none
def ofV:Value→Option SV
 | .agg cs=>(ofVL cs.toList).map .agg
 | .tuple cs=>(ofVL cs.toList).map .tup
 | v=>ofV1 v
theorem ofV1_conc {σ:Env} {v:Value} {x:SV} (h:ofV1 v=some x):conc σ x=some v:=by
 unfold ofV1 at h
 split at h<;>first | (cases h;rfl) | cases h
theorem ofVL_conc {σ:Env}:∀{l:List Value} {xs:List SV},ofVL l=some xs→concL σ xs=some l
 | [],xs,h=>by cases h;rfl
 | v::l,xs,h=>by
   simp only [ofVL] at h
   split at h
   · rename_i x ys hx hy
     cases h;exact concL_mk (ofV1_conc hx) (ofVL_conc hy)
   · cases h
theorem ofV_conc {σ:Env} {v:Value} {x:SV} (h:ofV v=some x):conc σ x=some v:=by
 unfold ofV at h
 split at h
 · simp only [Option.map_eq_some_iff] at h
   obtain ⟨l,hl,rfl⟩:=h;simp [conc,ofVL_conc hl]
 · simp only [Option.map_eq_some_iff] at h
   obtain ⟨l,hl,rfl⟩:=h;simp [conc,ofVL_conc hl]
 · exact ofV1_conc h
def SV.one:SV→Bool
 | .agg _ | .tup _=>false
 | _=>true
theorem SV.one_cell {σ:Env} {x:SV} {v:Value} (h:x.one=true) (hv:conc σ x=some v):v.oneCell'=true:=by
 cases x with
 | opq k =>
   simp only [conc,Option.bind_eq_some_iff] at hv;obtain ⟨u,_,hu⟩:=hv
   split at hu
   · rename_i h1;cases hu;exact h1
   · cases hu
 | _ =>
   simp only [SV.one,Bool.false_eq_true] at h<;>simp only [conc,Option.map_eq_some_iff,Option.bind_eq_some_iff,Option.some.injEq] at hv <;>
   first
    | (subst hv;rfl)
    | (obtain ⟨_,_,rfl⟩:=hv;rfl)
    | (obtain ⟨_,_,_,_,rfl⟩:=hv;rfl)
def SV.cells:SV→List SV
 | .agg l=>l
 | x=>[x]
theorem SV.cells_conc {σ:Env} {x:SV} {v:Value} (hv:conc σ x=some v) (ho:x.cells.all SV.one=true):concL σ x.cells=some v.cells.toList:=by
 cases x with
 | agg l =>
   simp only [conc,Option.map_eq_some_iff] at hv;obtain ⟨vs,h,rfl⟩:=hv
   simpa [SV.cells,Value.cells] using h
 | _ =>
   have h1:=SV.one_cell (σ:=σ) (v:=v) (by simpa [SV.cells] using ho) hv
   have h2:v.cells=#[v]:=by cases v<;>simp [Value.oneCell',Value.cells] at h1 ⊢
   rw [h2];exact concL_mk hv rfl
def TRel (σ:Env) (t:PT SV) (a:Array Value):Prop:=∀i,conc σ ((t.get i).getD .undef)=some (a.getD i undef)
theorem TRel.le {σ τ:Env} {t:PT SV} {a:Array Value} (h:TRel σ t a) (hl:σ.le τ):TRel τ t a:=fun i=>conc_le hl (h i)
theorem TRel.put {σ:Env} {t:PT SV} {a:Act} {d:Nat} {x:SV} {v:Value} (h:TRel σ t a.tmps) (hx:conc σ x=some v) (hd:d<a.tmps.size) :
 TRel σ (t.set d x) (a.put (some d) v).tmps:=by
 intro i;rw [PT.get_set];simp only [Act.put,Array.getD_eq_getD_getElem?,Array.getElem?_setIfInBounds]
 by_cases hi:i=d
 · subst hi
   simp [hd,hx]
 · rw [if_neg hi,if_neg (Ne.symm hi)]
   simpa using h i
def evOperand (t:PT SV):Operand→Option SV
 | .tmp i=>some ((t.get i).getD .undef)
 | .const v=>ofV v
 | .global g=>some (.glob g 0)
 | .func f=>some (.func f [] [])
theorem evOperand_conc {σ:Env} {t:PT SV} {a:Act} (h:TRel σ t a.tmps) {o:Operand} {x:SV} (ho:evOperand t o=some x):conc σ x=some (a.eval o):=by
 cases o with
 | tmp i=>simp only [evOperand,Option.some.injEq] at ho;subst ho;exact h i
 | const v=>exact ofV_conc ho
 | global g=>simp only [evOperand,Option.some.injEq] at ho;subst ho;rfl
 | func f=>simp only [evOperand,Option.some.injEq] at ho;subst ho;rfl
inductive AObj where
 | row (cells:List SV) (op:Option Nat)
 | map (ents:List (SV×SV))
 | ro (cells:List SV)
abbrev Hp:=PT AObj
def cellsAt (h:Hp) (id:Nat):Option (List SV) :=
 match h.get id with
 | some (.row cells _)=>some cells
 | some (.ro cells)=>some cells
 | _=>none
def entsOf (σ:Env):List (SV×SV)→Nat→Option (List MapEntry)
 | [],_=>some []
 | (k,v)::l,n=>(conc σ k).bind fun k=>(conc σ v).bind fun v=>(entsOf σ l (n+1)).map fun es=>⟨k,v,n⟩::es
theorem entsOf_le {σ τ:Env} (h:σ.le τ):∀{l:List (SV×SV)} {n:Nat} {es:List MapEntry},entsOf σ l n=some es→entsOf τ l n=some es
 | [],n,es,e=>by simpa [entsOf] using e
 | (k,v)::l,n,es,e=>by
  simp only [entsOf,Option.bind_eq_some_iff,Option.map_eq_some_iff] at e ⊢;obtain ⟨k',hk,v',hv,es',he,rfl⟩:=e;exact ⟨k',conc_le h hk,v',conc_le h hv,es',entsOf_le h he,rfl⟩
def ORel (σ:Env) (w:World) (id:Nat):AObj→Prop
 | .row cells op=>∃(b K:Nat) (c:Array Value) (el:TypeId) (vs:List Value),σ.bl[id]? = some (b,K)∧w.heap[b]? = some (.cells c el (0,0))∧concL σ cells=some vs ∧
    (∀(j:Nat) (v:Value),vs[j]? = some v→c[j]? = some v)∧match op with
      | none=>c.size=cells.length
      | some es=>0<es∧c.size=K*es∧K≤maxLen∧cells.length≤c.size
 | .ro cells=>∃(b K:Nat) (c:Array Value) (el:TypeId) (fr:Nat×Nat) (vs:List Value),σ.bl[id]? = some (b,K)∧w.heap[b]? = some (.cells c el fr)∧concL σ cells=some vs ∧
    (∀(j:Nat) (v:Value),vs[j]? = some v→c[j]? = some v)
 | .map ents=>∃(b K:Nat) (es:List MapEntry),σ.bl[id]? = some (b,K)∧w.heap[b]? = some (.map es.toArray ents.length)∧entsOf σ ents 0=some es
structure HRel (W:World) (σ:Env) (h:Hp) (w:World):Prop where
 obj:∀id o,h.get id=some o→ORel σ w id o
 apart:∀i j o u b K b' K',h.get i=some o→h.get j=some u→i≠j→σ.bl[i]? = some (b,K)→σ.bl[j]? = some (b',K')→b≠b'
 own:∀id o b K,h.get id=some o→σ.bl[id]? = some (b,K)→W.heap.size≤b
 below:Below W.heap.size W w
theorem ORel.block {σ:Env} {w:World} {id:Nat} {o:AObj} (h:ORel σ w id o):∃b K,σ.bl[id]? = some (b,K)∧b<w.heap.size:=by
 cases o with
 | row cells op =>
   obtain ⟨b,K,c,el,vs,h1,h2,_⟩:=h;exact ⟨b,K,h1,(Array.getElem?_eq_some_iff.1 h2).1⟩
 | ro cells =>
   obtain ⟨b,K,c,el,fr,vs,h1,h2,_⟩:=h;exact ⟨b,K,h1,(Array.getElem?_eq_some_iff.1 h2).1⟩
 | map ents =>
   obtain ⟨b,K,es,h1,h2,_⟩:=h;exact ⟨b,K,h1,(Array.getElem?_eq_some_iff.1 h2).1⟩
theorem ORel.le {σ τ:Env} (hl:σ.le τ) {w w':World} {id:Nat} {o:AObj} (h:ORel σ w id o) (hw:∀b K,σ.bl[id]? = some (b,K)→w'.heap[b]? = w.heap[b]?):ORel τ w' id o:=by
 cases o with
 | row cells op =>
   obtain ⟨b,K,c,el,vs,h1,h2,h3,h4,h5⟩:=h;exact ⟨b,K,c,el,vs,hl.get h1,by rw [hw b K h1];exact h2,concL_le hl h3,h4,h5⟩
 | ro cells =>
   obtain ⟨b,K,c,el,fr,vs,h1,h2,h3,h4⟩:=h;exact ⟨b,K,c,el,fr,vs,hl.get h1,by rw [hw b K h1];exact h2,concL_le hl h3,h4⟩
 | map ents =>
   obtain ⟨b,K,es,h1,h2,h3⟩:=h;exact ⟨b,K,es,hl.get h1,by rw [hw b K h1];exact h2,entsOf_le hl h3⟩
theorem HRel.kept {W:World} {σ:Env} {h:Hp} {w w':World} (H:HRel W σ h w) (k:Below w.heap.size w w'):HRel W σ h w':=by
 refine ⟨fun id o ho=>(H.obj id o ho).le (.refl σ) fun b K hb=>?_,H.apart,H.own,
  H.below.trans ⟨k.os,k.tape,k.output,k.size,fun i hi=>k.block i (Nat.lt_of_lt_of_le hi H.below.size)⟩⟩
 obtain ⟨b',K',h1,h2⟩:=(H.obj id o ho).block;rw [h1] at hb;cases hb;exact k.block b h2
theorem HRel.drew {W:World} {σ:Env} {h:Hp} {w:World} (H:HRel W σ h w):HRel W σ h w.drew :=
 H.kept (Below.refl _ _).drew
theorem HRel.alloc {W:World} {σ:Env} {h:Hp} {w:World} (H:HRel W σ h w) (ob:Obj) (u:AObj) (K:Nat)
 (hu:∀τ,σ.le τ→τ.bl[σ.bl.length]? = some (w.heap.size,K)→ORel τ (w.alloc ob) σ.bl.length u) :
 HRel W ⟨σ.bl++[(w.heap.size,K)],σ.op⟩ (h.set σ.bl.length u) (w.alloc ob):=by
 have hl:σ.le ⟨σ.bl++[(w.heap.size,K)],σ.op⟩:=⟨⟨_,rfl⟩,rfl⟩
 have hnew:(σ.bl++[(w.heap.size,K)])[σ.bl.length]? = some (w.heap.size,K):=by simp
 have key:∀id o,h.get id=some o→∃b K,σ.bl[id]? = some (b,K)∧b<w.heap.size∧id<σ.bl.length:=by
  intro id o ho;obtain ⟨b,K,h1,h2⟩:=(H.obj id o ho).block;exact ⟨b,K,h1,h2,(List.getElem?_eq_some_iff.1 h1).1⟩
 refine ⟨fun id o ho=>?_,fun i j o v b K1 b' K1' hi hj hij hb hb'=>?_,fun id o b K1 ho hb=>?_,H.below.alloc H.below.size ob⟩
 · rw [PT.get_set] at ho
   split at ho
   · rename_i he
     cases ho;subst he;exact hu _ hl hnew
   · obtain ⟨b,K2,h1,h2,h3⟩:=key id o ho
     refine (H.obj id o ho).le hl fun b' K' hb'=>?_;rw [h1] at hb';cases hb';exact Below.heap_alloc w ob b h2
 · rw [PT.get_set] at hi hj
   split at hi
   · rename_i he
     subst he;rw [if_neg (Ne.symm hij)] at hj;obtain ⟨b2,K2,h1,h2,h3⟩:=key j v hj;rw [hl.get h1] at hb';rw [hnew] at hb;cases hb;cases hb';omega
   · obtain ⟨b2,K2,h1,h2,h3⟩:=key i o hi
     rw [hl.get h1] at hb;cases hb
     split at hj
     · rename_i he
       subst he;rw [hnew] at hb';cases hb';omega
     · obtain ⟨b3,K3,h4,h5,h6⟩:=key j v hj
       rw [hl.get h4] at hb';cases hb';exact H.apart i j o v _ _ _ _ hi hj hij h1 h4
 · rw [PT.get_set] at ho
   split at ho
   · rename_i he
     subst he;rw [hnew] at hb;cases hb;exact H.below.size
   · obtain ⟨b2,K2,h1,h2,h3⟩:=key id o ho
     rw [hl.get h1] at hb;cases hb;exact H.own id o _ _ ho h1
theorem HRel.turn {W:World} {σ:Env} {h:Hp} {w w':World} (H:HRel W σ h w) {id:Nat} {o u:AObj} {b K:Nat} (ho:h.get id=some o) (hb:σ.bl[id]? = some (b,K))
 (hg:Below W.heap.size w w') (hk:∀k,k≠b→w'.heap[k]? = w.heap[k]?) (hu:ORel σ w' id u):HRel W σ (h.set id u) w':=by
 refine ⟨fun i v hi=>?_,fun i j v x b1 K1 b2 K2 hi hj hij h1 h2=>?_,fun i v b1 K1 hi h1=>?_,H.below.trans hg⟩
 · rw [PT.get_set] at hi
   split at hi
   · rename_i he;cases hi;subst he;exact hu
   · rename_i he
     exact (H.obj i v hi).le (.refl σ) fun b1 K1 h1=>hk b1 (fun e=>H.apart i id v o b1 K1 b K hi ho he h1 hb e)
 · rw [PT.get_set] at hi hj
   split at hi
   · rename_i he;cases hi;subst he
     rw [if_neg (Ne.symm hij)] at hj;exact H.apart _ _ _ _ _ _ _ _ ho hj hij h1 h2
   · split at hj
     · rename_i he;cases hj;subst he
       exact H.apart _ _ _ _ _ _ _ _ hi ho hij h1 h2
     · exact H.apart _ _ _ _ _ _ _ _ hi hj hij h1 h2
 · rw [PT.get_set] at hi
   split at hi
   · rename_i he;cases hi;subst he
     exact H.own _ _ _ _ ho h1
   · exact H.own _ _ _ _ hi h1
end
noncomputable section
structure TI where
 d:TypeDesc
 size:Nat
 bytes:Nat
 zero:List SV
 cmp:Bool
structure Tab where
 T:Nat→Option TI
 G:Nat→Option (List SV)
 E:Nat→Option (List Nat)
def kindIs (P:Program) (t:TypeId):Nat→Prop
 | 0=>∃k,P.underlying t=some (.int k)
 | 1=>P.underlying t=some .bool
 | _=>P.underlying t=some .string
structure TabOk (P:Program) (W:World) (op:List Value) (B:Tab):Prop where
 under:∀t ti,B.T t=some ti→P.underlying t=some ti.d
 info:∀t ti,B.T t=some ti→∃i z,P.info? t=some i∧i.size=ti.size∧i.bytes=ti.bytes∧i.zero=some z∧i.comparable=ti.cmp∧∀σ,concL σ ti.zero=some z.cells.toList
 glob:∀g l,B.G g=some l→∃vs,(∀σ:Env,σ.op=op→concL σ l=some vs)∧∀(j:Nat) (v:Value),vs[j]? = some v→W.cell? ⟨g,j,none⟩=some v
 eqs:∀t l,B.E t=some l→∃fs,P.underlying t=some (.struct fs)∧P.stoodInHeld t=false∧P.eqGuardType P.depth t=false∧fs.size=l.length ∧
  ∀(i:Nat) (f:Field),fs[i]? = some f→f.name ≠ "_"∧f.offset=i∧∃k,l[i]? = some k∧kindIs P f.type k
abbrev Rec:=Nat×Nat×List SV
def Reads (σ:Env) (w:World) (r:Rec):Prop :=
 ∃b K vs,σ.bl[r.1]? = some (b,K)∧concL σ r.2.2=some vs∧∀(j:Nat) (v:Value),vs[j]? = some v→w.cell? ⟨b,r.2.1+j,none⟩=some v
def Y (P:Program) (W:World) (σ:Env) (w0:World) (s:Sem Value) (x:SV) (L:List Rec):Prop :=
 (∀r∈L,Reads σ w0 r)∧∃V,conc σ x=some V∧∀w,Below W.heap.size W w→(∀r∈L,Reads σ w r)→s.run P w=.ok V w
section
variable {P:Program} {W:World} {σ:Env} {w0:World}
theorem Y.mk0 {s:Sem Value} {x:SV} {V:Value} (hx:conc σ x=some V) (hs:∀w,s.run P w=.ok V w):Y P W σ w0 s x [] :=
 ⟨fun _ h=>absurd h (by simp),V,hx,fun w _ _=>hs w⟩
def takeN {α:Type}:Nat→List α→Option (List α)
 | 0,_=>some []
 | _+1,[]=>none
 | n+1,x::l=>match takeN n l with
   | some r=>some (x::r)
   | none=>none
theorem takeN_spec {α:Type}:∀{n:Nat} {l r:List α},takeN n l=some r→r=l.take n∧n≤l.length
 | 0,l,r,h=>by cases h;simp
 | n+1,[],r,h=>by cases h
 | n+1,x::l,r,h=>by
   simp only [takeN] at h
   split at h
   · rename_i r' hr
     cases h;obtain ⟨rfl,h2⟩:=takeN_spec hr;simp [h2]
   · cases h
def isAggD:TypeDesc→Bool
 | .struct _ | .array _ _=>true
 | _=>false
theorem run_isAgg {t:TypeId} {d:TypeDesc} (h:P.underlying t=some d) (w:World):(isAgg t).run P w=.ok (isAggD d) w:=by
 simp only [isAgg,Sem.run_bind,run_underlying h,Result.andThen_ok]
 cases d<;>rfl
theorem run_sizeOf' {t:TypeId} {i:TypeInfo} (h:P.info? t=some i) (w:World):(sizeOf t).run P w=.ok i.size w:=by
 simp [sizeOf,typeInfo,h]
theorem run_typeInfo' {t:TypeId} {i:TypeInfo} (h:P.info? t=some i) (w:World):(typeInfo t).run P w=.ok i w:=by
 simp [typeInfo,h]
theorem run_zeroValue' {t:TypeId} {i:TypeInfo} {z:Value} (h:P.info? t=some i) (hz:i.zero=some z) (w:World):(zeroValue t).run P w=.ok z w:=by
 simp [zeroValue,typeInfo,h,hz]
theorem addr_add (b off n:Nat):(⟨b,off,none⟩:Addr).add n=⟨b,off+n,none⟩:=by
 unfold Addr.add
 split
 · rename_i h;simp [h]
 · rfl
def rowAt (size:Nat) (agg:Bool) (off:Nat) (cells:List SV):Option (SV×List SV) :=
 if agg then match takeN size (cells.drop off) with
  | some l=>some (.agg l,l)
  | none=>none
 else match cells.drop off with
  | x::_=>some (x,[x])
  | []=>none
def evLoad (B:Tab) (h:Hp) (t:TypeId) (x:SV):Option (SV×List Rec) :=
 match x,B.T t with
 | .ptr id off,some ti=>match cellsAt h id with
   | some cells=>match rowAt ti.size (isAggD ti.d) off cells with
     | some (v,l)=>some (v,[(id,off,l)])
     | none=>none
   | none=>none
 | .glob g off,some ti=>match B.G g with
   | some cells=>match rowAt ti.size (isAggD ti.d) off cells with
     | some (v,_)=>some (v,[])
     | none=>none
   | none=>none
 | _,_=>none
theorem run_loadAt_row {t:TypeId} {d:TypeDesc} {i:TypeInfo} (hd:P.underlying t=some d) (hi:P.info? t=some i) {cells l:List SV} {x:SV} {b off:Nat} {vs:List Value}
 (hr:rowAt i.size (isAggD d) off cells=some (x,l)) (hl:concL σ l=some vs):∃V,conc σ x=some V ∧
 ∀w,(∀(j:Nat) (v:Value),vs[j]? = some v→w.cell? ⟨b,off+j,none⟩=some v)→(Instr.loadAt t (.pointer (some ⟨b,off,none⟩))).run P w=.ok V w:=by
 unfold rowAt at hr
 split at hr
 · rename_i ha
   split at hr
   · rename_i l' hl'
     cases hr;obtain ⟨h1,h2⟩:=takeN_spec hl';refine ⟨.agg vs.toArray,by simp [conc,hl],fun w hw=>?_⟩
     have hlen:vs.length=i.size:=by
      rw [concL_length hl,h1,List.length_take];omega
     simp only [Instr.loadAt,Instr.sureAddr,loadVar,Sem.run_bind,Sem.run_pure,Result.andThen_ok,run_isAgg hd,ha,if_true,run_sizeOf' hi];rw [←hlen,run_loadCells_list w ⟨b,off,none⟩ vs (fun j v hv=>by rw [addr_add];exact hw j v hv)]
     rfl
   · cases hr
 · rename_i ha
   split at hr
   · rename_i y r hy
     cases hr;obtain ⟨v,us,hv,hu,rfl⟩:=concL_cons hl;cases hu;refine ⟨v,hv,fun w hw=>?_⟩;have h0:=hw 0 v rfl;simp only [Bool.not_eq_true] at ha;simp only [Instr.loadAt,Instr.sureAddr,loadVar,Sem.run_bind,Sem.run_pure,Result.andThen_ok,run_isAgg hd,ha,Bool.false_eq_true,if_false,run_load];rw [show (⟨b,off,none⟩:Addr)=⟨b,off+0,none⟩ from rfl,h0]
   · cases hr
theorem rowAt_sub {size:Nat} {agg:Bool} {off:Nat} {cells l:List SV} {x:SV} (hr:rowAt size agg off cells=some (x,l)):∃n,l=(cells.drop off).take n:=by
 unfold rowAt at hr
 split at hr
 · split at hr
   · rename_i l' hl'
     cases hr;exact ⟨size,(takeN_spec hl').1⟩
   · cases hr
 · split at hr
   · rename_i y r hy
     cases hr;exact ⟨1,by simp [hy]⟩
   · cases hr
theorem HRel.readsC {h:Hp} {w:World} (H:HRel W σ h w) {id:Nat} {cells:List SV} (ho:cellsAt h id=some cells) (off n:Nat):Reads σ w (id,off,(cells.drop off).take n):=by
 have key:∃(b K:Nat) (c:Array Value) (el:TypeId) (fr:Nat×Nat) (vs:List Value),σ.bl[id]? = some (b,K)∧w.heap[b]? = some (.cells c el fr)∧concL σ cells=some vs∧(∀(j:Nat) (v:Value),vs[j]? = some v→c[j]? = some v):=by
  unfold cellsAt at ho
  split at ho
  · rename_i c0 op hg
    cases ho;obtain ⟨b,K,c,el,vs,h1,h2,h3,h4,h5⟩:=H.obj id _ hg;exact ⟨b,K,c,el,_,vs,h1,h2,h3,h4⟩
  · rename_i c0 hg
    cases ho;exact H.obj id _ hg
  · cases ho
 obtain ⟨b,K,c,el,fr,vs,h1,h2,h3,h4⟩:=key;refine ⟨b,K,_,h1,concL_take n (concL_drop off h3),fun j v hv=>?_⟩;rw [List.getElem?_take] at hv
 split at hv
 · rw [List.getElem?_drop] at hv
   have:=h4 _ v hv;simp only [World.cell?,h2]
   simpa using this
 · cases hv
theorem HRel.reads {h:Hp} {w:World} (H:HRel W σ h w) {id:Nat} {cells:List SV} {op:Option Nat} (ho:h.get id=some (.row cells op)) (off n:Nat):Reads σ w (id,off,(cells.drop off).take n) :=
 H.readsC (by simp [cellsAt,ho]) off n
theorem evLoad_ok {B:Tab} {h:Hp} {t:TypeId} {x y:SV} {L:List Rec} {V:Value} (hB:TabOk P W σ.op B) (H:HRel W σ h w0) (hx:conc σ x=some V) (he:evLoad B h t x=some (y,L)) :
 Y P W σ w0 (Instr.loadAt t V) y L:=by
 unfold evLoad at he
 split at he
 · rename_i id off ti ht
   obtain ⟨i,z,hi,hs,_⟩:=hB.info _ _ ht;have hd:=hB.under _ _ ht
   split at he
   · rename_i cells ho
     split at he
     · rename_i v l hr
       cases he;obtain ⟨n,hn⟩:=rowAt_sub hr
       have hrd:Reads σ w0 (id,off,l):=by rw [hn];exact H.readsC ho off n
       refine ⟨fun r hr=>by simp only [List.mem_singleton] at hr;subst hr;exact hrd,?_⟩;obtain ⟨b,K,vs,h1,h2,h3⟩:=hrd;rw [←hs] at hr;obtain ⟨V',hV',hrun⟩:=run_loadAt_row (b:=b) hd hi hr h2;refine ⟨V',hV',fun w _ hw=>?_⟩;obtain ⟨b',K',vs',h1',h2',h3'⟩:=hw _ (List.mem_singleton.2 rfl);simp only at h1 h2 h3 h1' h2' h3';rw [h1] at h1';rw [h2] at h2';cases h1';cases h2';simp only [conc,h1,Option.map_some,Option.some.injEq] at hx
       subst hx;exact hrun w h3'
     · cases he
   · cases he
 · rename_i g off ti ht
   obtain ⟨i,z,hi,hs,_⟩:=hB.info _ _ ht;have hd:=hB.under _ _ ht
   split at he
   · rename_i cells hg
     split at he
     · rename_i v l hr
       cases he;obtain ⟨n,hn⟩:=rowAt_sub hr;obtain ⟨vs,hvs,hc⟩:=hB.glob _ _ hg
       have h2:concL σ l=some ((vs.drop off).take n):=by rw [hn];exact concL_take n (concL_drop off (hvs σ rfl))
       rw [←hs] at hr;obtain ⟨V',hV',hrun⟩:=run_loadAt_row (b:=g) hd hi hr h2;refine ⟨fun r hr=>absurd hr (by simp),V',hV',fun w hb _=>?_⟩;simp only [conc,Option.some.injEq] at hx;subst hx;refine hrun w fun j v hv=>?_;rw [List.getElem?_take] at hv
       split at hv
       · rw [List.getElem?_drop] at hv
         have:=hc _ v hv;rw [hb.cell (World.block_lt_of_cell? W _ this)];exact this
       · cases hv
     · cases he
   · cases he
 · cases he
def evFieldAddr (B:Tab) (s:TypeId) (x:SV) (f:Nat):Option SV :=
 match B.T s with
 | some ti=>match ti.d with
   | .struct fields=>match fields[f]? with
     | some fld=>match B.T fld.type with
       | some ft=>if ft.size=0 then none else match x with
         | .ptr id off=>some (.ptr id (off+fld.offset))
         | .glob g off=>some (.glob g (off+fld.offset))
         | _=>none
       | none=>none
     | none=>none
   | _=>none
 | none=>none
theorem evFieldAddr_ok {B:Tab} {s:TypeId} {x y:SV} {f:Nat} {V:Value} (hB:TabOk P W σ.op B) (hx:conc σ x=some V) (he:evFieldAddr B s x f=some y) :
 Y P W σ w0 (Instr.fieldAt s V f) y []:=by
 unfold evFieldAddr at he
 split at he
 · rename_i ti ht
   have hd:=hB.under _ _ ht
   split at he
   · rename_i fields hf
     rw [hf] at hd
     split at he
     · rename_i fld hfld
       split at he
       · rename_i ft hft
         obtain ⟨i,z,hi,hs,_⟩:=hB.info _ _ hft
         split at he
         · cases he
         · rename_i h0
           have key:∀b off:Nat,∀w,(Instr.fieldAt s (.pointer (some ⟨b,off,none⟩)) f).run P w=.ok (.pointer (some ⟨b,off+fld.offset,none⟩)) w:=by
            intro b off w;simp only [Instr.fieldAt,Sem.run_bind,run_underlying hd,Result.andThen_ok,hfld,Instr.sureAddr,Sem.run_pure,fieldPlace,run_sizeOf' hi,hs,h0,if_false,addr_add]
           split at he
           · rename_i id off
             cases he;simp only [conc,Option.map_eq_some_iff] at hx;obtain ⟨x,hx,rfl⟩:=hx;exact Y.mk0 (by simp [conc,hx]) (key _ _)
           · rename_i g off
             cases he;simp only [conc,Option.some.injEq] at hx;subst hx;exact Y.mk0 (by simp [conc]) (key _ _)
           · cases he
       · cases he
     · cases he
   · cases he
 · cases he
def evIndexAddr (B:Tab) (t:TypeId) (x i:SV):Option SV :=
 match i,B.T t with
 | .int k (.ofNat n),some ti=>match ti.d,x with
   | .array len elem,.ptr id off=>match B.T elem with
     | some et=>if n<len then some (.ptr id (off+n*et.size)) else none
     | none=>none
   | .array len elem,.glob g off=>match B.T elem with
     | some et=>if n<len then some (.glob g (off+n*et.size)) else none
     | none=>none
   | .slice elem,.slice id off es len _=>match B.T elem with
     | some et=>if n<len then some (.ptr id (off*es+n*et.size)) else none
     | none=>none
   | _,_=>none
 | _,_=>none
theorem run_indexAt_arr {t elem:TypeId} {len:Nat} {i:TypeInfo} (h:P.underlying t=some (.array len elem)) (hi:P.info? elem=some i) (b off n:Nat) (k:IntKind) (hn:n<len) (w:World) :
 (Instr.indexAt t (.pointer (some ⟨b,off,none⟩)) (.int k (.ofNat n))).run P w=.ok (.pointer (some ⟨b,off+n*i.size,none⟩)) w:=by
 have h1:(0:Int)≤(n:Int)∧(n:Int)<(len:Int):=⟨Int.natCast_nonneg n,by simpa using hn⟩;simp only [Instr.indexAt,asIntOf,Sem.run_bind,Sem.run_pure,Result.andThen_ok,run_underlying h,Instr.sureAddr];simp only [Sem.run_ite,Sem.run_bind,run_sizeOf' hi,Result.andThen_ok,Sem.run_pure,addr_add,Int.ofNat_eq_natCast,Int.toNat_natCast];rw [if_pos h1]
theorem run_indexAt_sl {t elem:TypeId} {i:TypeInfo} (h:P.underlying t=some (.slice elem)) (hi:P.info? elem=some i) (b off len cap n:Nat) (k:IntKind) (hn:n<len) (w:World) :
 (Instr.indexAt t (.slice (some ⟨b,off,none⟩) len cap) (.int k (.ofNat n))).run P w=.ok (.pointer (some ⟨b,off+n*i.size,none⟩)) w:=by
 have h1:(0:Int)≤(n:Int)∧(n:Int)<(len:Int):=⟨Int.natCast_nonneg n,by simpa using hn⟩;simp only [Instr.indexAt,asIntOf,Sem.run_bind,Sem.run_pure,Result.andThen_ok,run_underlying h];simp only [Sem.run_ite,Sem.run_bind,run_sizeOf' hi,Result.andThen_ok,Sem.run_pure,addr_add,Int.ofNat_eq_natCast,Int.toNat_natCast];rw [if_pos h1]
theorem evIndexAddr_ok {B:Tab} {t:TypeId} {x i y:SV} {V I:Value} (hB:TabOk P W σ.op B) (hx:conc σ x=some V) (hi:conc σ i=some I) (he:evIndexAddr B t x i=some y) :
 Y P W σ w0 (Instr.indexAt t V I) y []:=by
 unfold evIndexAddr at he
 split at he
 · rename_i k n ti ht
   have hd:=hB.under _ _ ht;simp only [conc,Option.some.injEq] at hi;subst hi
   split at he
   · rename_i len elem id off hti
     rw [hti] at hd
     split at he
     · rename_i et het
       obtain ⟨j,z,hj,hs,_⟩:=hB.info _ _ het
       split at he
       · rename_i hn
         cases he;simp only [conc,Option.map_eq_some_iff] at hx;obtain ⟨x,hx,rfl⟩:=hx;exact Y.mk0 (by simp [conc,hx,←hs]) (run_indexAt_arr hd hj _ _ _ _ hn)
       · cases he
     · cases he
   · rename_i len elem g off hti
     rw [hti] at hd
     split at he
     · rename_i et het
       obtain ⟨j,z,hj,hs,_⟩:=hB.info _ _ het
       split at he
       · rename_i hn
         cases he;simp only [conc,Option.some.injEq] at hx;subst hx;exact Y.mk0 (by simp [conc,←hs]) (run_indexAt_arr hd hj _ _ _ _ hn)
       · cases he
     · cases he
   · rename_i elem id off es len cap hti
     rw [hti] at hd
     split at he
     · rename_i et het
       obtain ⟨j,z,hj,hs,_⟩:=hB.info _ _ het
       split at he
       · rename_i hn
         cases he;simp only [conc,Option.map_eq_some_iff] at hx;obtain ⟨x,hx,rfl⟩:=hx;exact Y.mk0 (by simp [conc,hx,←hs]) (run_indexAt_sl hd hj _ _ _ _ _ _ hn)
       · cases he
     · cases he
   · cases he
 · cases he
theorem run_part_row {t:TypeId} {d:TypeDesc} {i:TypeInfo} (hd:P.underlying t=some d) (hi:P.info? t=some i) {cells l:List SV} {x:SV} {off:Nat} {us:List Value}
 (hr:rowAt i.size (isAggD d) off cells=some (x,l)) (hl:concL σ cells=some us):∃V,conc σ x=some V∧∀w,(part t us.toArray off).run P w=.ok V w:=by
 unfold rowAt at hr
 split at hr
 · rename_i ha
   split at hr
   · rename_i l' hl'
     cases hr;obtain ⟨h1,h2⟩:=takeN_spec hl';have h3:=concL_take i.size (concL_drop off hl);rw [←h1] at h3;refine ⟨.agg ((us.drop off).take i.size).toArray,by simp [conc,h3],fun w=>?_⟩;simp only [part,Sem.run_bind,run_isAgg hd,ha,Result.andThen_ok,if_true,run_sizeOf' hi,Sem.run_pure]
     congr 2
     apply Array.ext'
     simp [List.extract_eq_take_drop,List.drop_take]
   · cases hr
 · rename_i ha
   split at hr
   · rename_i y r hy
     cases hr;have h3:=concL_drop off hl;rw [hy] at h3;obtain ⟨v,vs,hv,hu,he⟩:=concL_cons h3;refine ⟨v,hv,fun w=>?_⟩
     have h4:us[off]? = some v:=by
      have:=congrArg (fun l:List Value=>l[0]?) he
      simpa using this
     simp only [Bool.not_eq_true] at ha;simp only [part,Sem.run_bind,run_isAgg hd,ha,Result.andThen_ok,Bool.false_eq_true,if_false,List.getElem?_toArray,h4,Sem.run_pure]
   · cases hr
def evField (B:Tab) (t:TypeId) (x:SV) (f:Nat):Option SV :=
 match B.T t,x with
 | some ti,.agg cells=>match ti.d with
   | .struct fields=>match fields[f]? with
     | some fld=>match B.T fld.type with
       | some ft=>match rowAt ft.size (isAggD ft.d) fld.offset cells with
         | some (v,_)=>some v
         | none=>none
       | none=>none
     | none=>none
   | _=>none
 | _,_=>none
theorem evField_ok {B:Tab} {t:TypeId} {x y:SV} {f:Nat} {V:Value} (hB:TabOk P W σ.op B) (hx:conc σ x=some V) (he:evField B t x f=some y) :
 Y P W σ w0 (Instr.field t V f) y []:=by
 unfold evField at he
 split at he
 · rename_i ti cells ht
   have hd:=hB.under _ _ ht;simp only [conc,Option.map_eq_some_iff] at hx;obtain ⟨us,hus,rfl⟩:=hx
   split at he
   · rename_i fields hf
     rw [hf] at hd
     split at he
     · rename_i fld hfld
       split at he
       · rename_i ft hft
         obtain ⟨i,z,hi,hs,_⟩:=hB.info _ _ hft
         split at he
         · rename_i v l hr
           cases he;rw [←hs] at hr;obtain ⟨V',hV',hrun⟩:=run_part_row (hB.under _ _ hft) hi hr hus;refine Y.mk0 hV' fun w=>?_;simp only [Instr.field,Sem.run_bind,run_underlying hd,Result.andThen_ok,hfld,asAgg,Sem.run_pure];exact hrun w
         · cases he
       · cases he
     · cases he
   · cases he
 · cases he
def evIndex (B:Tab) (t:TypeId) (x i:SV):Option SV :=
 match i,B.T t with
 | .int k (.ofNat n),some ti=>match ti.d,x with
   | .array len elem,.agg cells=>match B.T elem with
     | some et=>if n<len then match rowAt et.size (isAggD et.d) (n*et.size) cells with
        | some (v,_)=>some v
        | none=>none
       else none
     | none=>none
   | .string,.str l=>match l.drop n with
     | b::_=>some (.int .u8 b.toNat)
     | []=>none
   | _,_=>none
 | _,_=>none
theorem evIndex_ok {B:Tab} {t:TypeId} {x i y:SV} {V I:Value} (hB:TabOk P W σ.op B) (hx:conc σ x=some V) (hi:conc σ i=some I) (he:evIndex B t x i=some y) :
 Y P W σ w0 (Instr.index t V I) y []:=by
 unfold evIndex at he
 split at he
 · rename_i k n ti ht
   have hd:=hB.under _ _ ht;simp only [conc,Option.some.injEq] at hi;subst hi
   split at he
   · rename_i len elem cells hti
     rw [hti] at hd;simp only [conc,Option.map_eq_some_iff] at hx;obtain ⟨us,hus,rfl⟩:=hx
     split at he
     · rename_i et het
       obtain ⟨j,z,hj,hs,_⟩:=hB.info _ _ het
       split at he
       · rename_i hn
         split at he
         · rename_i v l hr
           cases he;rw [←hs] at hr;obtain ⟨V',hV',hrun⟩:=run_part_row (hB.under _ _ het) hj hr hus;refine Y.mk0 hV' fun w=>?_;have h1:(0:Int)≤(n:Int)∧(n:Int)<(len:Int):=⟨Int.natCast_nonneg n,by simpa using hn⟩;simp only [Instr.index,asIntOf,Sem.run_bind,Sem.run_pure,Result.andThen_ok,run_underlying hd];simp only [Sem.run_ite,Sem.run_bind,run_sizeOf' hj,Result.andThen_ok,Int.ofNat_eq_natCast,Int.toNat_natCast]
           rw [if_pos h1];exact hrun w
         · cases he
       · cases he
     · cases he
   · rename_i l hti
     rw [hti] at hd;simp only [conc,Option.some.injEq] at hx;subst hx
     split at he
     · rename_i b r hb
       cases he;refine Y.mk0 rfl fun w=>?_
       have h1:l[n]? = some b:=by
        have:=congrArg (fun l:List UInt8=>l[0]?) hb
        simpa using this
       have h2:n<l.length:=(List.getElem?_eq_some_iff.1 h1).1
       have h3:(⟨⟨l⟩⟩:ByteArray)[n]? = some b:=by
        rw [ByteArray.getElem?_lt' _ n (by simpa [ByteArray.size] using h2)];have:l[n]=b:=(List.getElem?_eq_some_iff.1 h1).2
        simpa [ByteArray.getElem_eq_getElem_data] using this
       simp only [Instr.index,asIntOf,Sem.run_bind,Sem.run_pure,Result.andThen_ok,run_underlying hd];simp [h3]
     · cases he
   · cases he
 · cases he
end
end
end Go.Proofs.YtjmiaemabhlnjaaGreatDoor.Sym
end
