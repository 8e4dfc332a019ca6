/- TopShifts, the tied card: two machines with the same object, each at its own place, make the same steps, but for addresses. For every input; the listed package variables are tied to the text of the program (the given tie). -/
import Derived.Test.YtjmiaemabhlnjaaGreatDoorRows
import Derived.Test.YtjmiaemabhlnjaaGreatDoorR44
import Derived.Test.YtjmiaemabhlnjaaGreatDoorR23
import Derived.Test.YtjmiaemabhlnjaaGreatDoorQ42
import Derived.Test.YtjmiaemabhlnjaaGreatDoorQ43
import Derived.WalkKit
import Derived.ProofKit
import Derived.OpenShut
import Derived.ShutString
import Derived.ChangeOld
import Derived.Below
import Derived.SizedLaws
import Derived.HandedShaped
import Derived.LaidLaws
import Derived.SliceStrings
import Derived.ChangeSlices
import Derived.Lib.SmallJoins
import Derived.Test.YtjmiaemabhlnjaaGreatDoorTie
import Derived.Test.YtjmiaemabhlnjaaGreatDoorCards
import Derived.SevenTiedAt
section
set_option linter.all false
namespace Go.Proofs.YtjmiaemabhlnjaaGreatDoor.topShifts
open Go Go.ChangeShapes Go.WideShapes Go.ChangeAt Go.RowKit Go.Joins
open Go.Proofs.YtjmiaemabhlnjaaGreatDoor.Chains Go.Proofs.YtjmiaemabhlnjaaGreatDoor.Chains.Shifts
theorem own:ownKnob Tryz.prog.godebug=none:=by kernel_rfl
theorem laidOut:laidOutB Tryz.prog=true:=by kernel_rfl
theorem laid_same:Rows.topShiftsRow.laid=Rows.topChainsRow.laid:=rfl
theorem wrap {H:Type} {enc:TypeId×Value→H} {a:Assume} {C:Checked} {os:Os} {f:FuncId} {fn:Func} {s:ChangeSpec} {conds:List PathCond} {apart fresh handsOn again:Bool} {X:World→Array Value→Prop}
 (hX:∀(w w':World) (args:Array Value),w.heap=w'.heap→X w args→X w' args)
 (own:ownKnob C.prog.godebug=none) (started:os.Started) (noInit:C.prog.inits.idxOf? f=none) (hfn:C.prog.funcs[f]? = some fn)
 (witness:∃(w:World) (tape:Tape) (i:Input),w.os=os∧(w.forCall tape i).Shaped C.prog∧i.vars=[]∧Input.okWide C.prog (w.forCall tape i) .any w.heap.size f i ∧
   ((s.pre enc C.prog fn conds apart (w.forCall tape i).memory i.args∧X (w.forCall tape i).memory i.args)∧sizedMet enc C.prog fn (OpenSpec.ofChange s) apart (w.forCall tape i).memory i.args)∧a.holds C.prog (lone (Frame.enter C.prog f i.args .normal) [] (w.forCall tape i)))
 (contract:∀(W:World) (base:Nat) (args:Array Value) (ds gs:List (DataW H)) (before:List MemPlace),
   (∀(j:Nat) t v,fn.params[j]? = some t→args[j]? = some v→Value.okWide C.prog W .any base t v) →
   DataW.Whole enc C.prog fn.params.toList s.vars apart W args.toList ds gs before →
   (DataW.weightsEach C.prog (fn.params.toList++s.plain.varTypes C.prog) (ds++gs)).all (·≤reachBytes)=true →
   W.ShapedOpen C.prog→X W args →
   Calls C.prog f args W fun e W'=>∃v,e=.returned v∧s.post enc C.prog fn apart fresh handsOn again W args v W') :
 ReturnsInHanded a C os f .any (fun w args=>(s.pre enc C.prog fn conds apart w args∧X w args)∧sizedMet enc C.prog fn (OpenSpec.ofChange s) apart w args) (s.post enc C.prog fn apart fresh handsOn again):=by
 refine returnsInHanded_of_calls own started noInit witness ?_;intro w tape i _ hsh _ hok hpre hholds;obtain ⟨_,_,_,fn',hfn',_,_,_,_,hval⟩:=hok;have e:fn'=fn:=Option.some.inj (hfn'.symm.trans hfn);subst e;obtain ⟨⟨⟨ds,gs,before,hw,hc⟩,hx⟩,hz⟩:=hpre;have hw':=DataW.Whole.of_heap (w':=w.forCall tape i) (by rfl) hw;refine (contract (w.forCall tape i) w.heap.size i.args ds gs before hval hw' (hz.weights hw) hsh (hX _ _ _ (by rfl) hx)).mono fun e W' ⟨v,he,hp⟩=>?_
 subst he;exact ChangeSpec.post_blind hp
theorem shown_in {W wx:World} (hW:W.ShapedOpen Tryz.prog) (h:laidMet Tryz.prog Rows.topShiftsRow.laid W) (hb:Bl W wx):Calls Tryz.prog 7 #[] wx fun e w'=>e=.returned (.bool true)∧Bl wx w':=by
 rw [laid_same] at h;obtain ⟨E,h1,h2⟩:=Sym.err_cell h;obtain ⟨m,hm⟩:=Tryz.laysM155.s1_3 W hW;refine (Sym.shown_any h1 (hb.cell h2) (hb.cell hm) (Joins.tab_stays (show Tryz.prog.globalNamed "strings.asciiSpace"=some 3 by kernel_rfl) (Sym.ascii_tab Sym.ascii_row h) hb.out (Nat.le_refl _))).mono ?_;rintro e w' ⟨rfl,hb'⟩;exact ⟨rfl,⟨hb'⟩⟩
theorem words_in {H:Type} {enc:TypeId×Value→H} {w:World} {base:Nat} {sp:Nat→Bool} {held:Bool} {fuel:Nat} {v:Value} {x:DataW H×List MemPlace} (h:DataW.trod enc Tryz.prog w base sp held fuel 22 [v]=some x) :
 ∃A n c l,v=.slice A n c∧Rd w A c l∧l.length=n∧n≤9223372036854775807∧∀x∈l,0≤x∧x<4294967296:=by
 rcases open_ints Tryz.underlying22 Tryz.underlying56 (by kernel_rfl) h with ⟨hcs,_⟩ | ⟨a,len,cap,zs,hcs,_,hl,hm,hz,_,hcell,hwz⟩
 · obtain rfl:v=.slice none 0 0:=by simpa using hcs
   exact ⟨none,0,0,[],rfl,⟨Nat.le_refl _,by decide,fun _=>⟨rfl,rfl⟩,fun _ h=>(by cases h)⟩,rfl,by omega,fun _ h=>by cases h⟩
 · obtain rfl:v=.slice (some a) len cap:=by simpa using hcs
   have hle:len≤zs.length:=by rw [hz];split<;>omega
   have hm':=hm;unfold maxLen at hm';refine ⟨some a,len,cap,zs.take len,rfl,⟨by simp;omega,hm,fun h=>(by cases h),fun ad ha j x hj=>?_⟩,by simp;omega,by omega,fun x hx=>?_⟩
   · obtain rfl:=Option.some.inj ha
     rw [List.getElem?_take] at hj
     split at hj
     · have hjl:=(List.getElem?_eq_some_iff.1 hj).1
       rw [hcell j hjl,List.getD_eq_getElem?_getD,hj]
       rfl
     · cases hj
   · have:=hwz x (List.mem_of_mem_take hx)
     simp [Lit.wf,IntKind.min,IntKind.max,IntKind.bits,IntKind.signed] at this;omega
theorem bytes_in {H:Type} {enc:TypeId×Value→H} {w:World} {base:Nat} {sp:Nat→Bool} {held:Bool} {fuel:Nat} {v:Value} {x:DataW H×List MemPlace} (h:DataW.trod enc Tryz.prog w base sp held fuel 23 [v]=some x) :
 ∃A n c,∃b:List Nat,v=.slice A n c∧b.length=n∧n≤c∧n≤9223372036854775807∧(∀ad,A=some ad→∀(i x:Nat),b[i]? = some x→w.cell? (ad.add i)=some (.int .u8 (x:Int)))∧(A=none→n=0)∧∀x∈b,x<256:=by
 rcases open_ints Tryz.underlying23 Tryz.underlying5 (by kernel_rfl) h with ⟨hcs,_⟩ | ⟨a,len,cap,zs,hcs,_,hl,hm,hz,_,hcell,hwz⟩
 · obtain rfl:v=.slice none 0 0:=by simpa using hcs
   exact ⟨none,0,0,[],rfl,rfl,Nat.le_refl _,by omega,fun _ h=>(by cases h),fun _=>rfl,fun _ h=>by cases h⟩
 · obtain rfl:v=.slice (some a) len cap:=by simpa using hcs
   have hle:len≤zs.length:=by rw [hz];split<;>omega
   have hm':=hm;unfold maxLen at hm'
   have hr:∀x∈zs,0≤x∧x<256:=fun x hx=>by
    have:=hwz x hx;simp [Lit.wf,IntKind.min,IntKind.max,IntKind.bits,IntKind.signed] at this;omega
   refine ⟨some a,len,cap,(zs.take len).map Int.toNat,rfl,by simp;omega,hl,by omega,fun ad ha j x hj=>?_,fun h=>(by cases h),fun x hx=>?_⟩
   · obtain rfl:=Option.some.inj ha
     rw [List.getElem?_map,List.getElem?_take] at hj
     split at hj
     · cases hq:zs[j]? with
       | none=>rw [hq] at hj;cases hj
       | some z =>
         rw [hq] at hj;obtain rfl:=Option.some.inj hj;have hjl:=(List.getElem?_eq_some_iff.1 hq).1;have:=hr z (List.mem_of_getElem? hq);rw [hcell j hjl,List.getD_eq_getElem?_getD,hq]
         show some (Value.int .u8 z)=some (Value.int .u8 ((z.toNat:Nat):Int))
         rw [Int.toNat_of_nonneg this.1]
     · cases hj
   · obtain ⟨z,hz1,rfl⟩:=List.mem_map.1 hx
     have:=hr z (List.mem_of_mem_take hz1);omega
theorem weights_all {H:Type} {P:Program} {e:TypeId}:∀{ds:List (DataW H)} {d:DataW H},d∈ds→∀n∈d.weights P e,n∈DataW.weightsAll P e ds
 | d0::ds,d,hd,n,hn=>by
   simp only [DataW.weightsAll,List.mem_append]
   rcases List.mem_cons.1 hd with rfl | hd
   · exact .inl hn
   · exact .inr (weights_all hd n hn)
 | [],_,hd,_,_=>by cases hd
theorem names_in {H:Type} {enc:TypeId×Value→H} {w:World} {base:Nat} {sp:Nat→Bool} {held:Bool} {fuel:Nat} {v:Value} {x:DataW H×List MemPlace} (h:DataW.trod enc Tryz.prog w base sp held fuel 24 [v]=some x) (hz:∀n∈x.1.weights Tryz.prog 24,n≤reachBytes) :
 ∃A n c l,v=.slice A n c∧RdN w A c l∧l.length=n∧∀x∈l,x.size≤140737488355328:=by
 rcases open_strings Tryz.underlying24 Tryz.underlying9 (by kernel_rfl) h with ⟨hcs,_⟩ | ⟨a,len,cap,ss,hcs,_,hl,hm,hlen,hxx,hcell,hwz⟩
 · obtain rfl:v=.slice none 0 0:=by simpa using hcs
   exact ⟨none,0,0,[],rfl,⟨Nat.le_refl _,fun _=>⟨rfl,rfl⟩,fun _ h=>(by cases h)⟩,rfl,fun _ h=>by cases h⟩
 · obtain rfl:v=.slice (some a) len cap:=by simpa using hcs
   have hle:len≤ss.length:=by rw [hlen];split<;>omega
   refine ⟨some a,len,cap,ss.take len,rfl,⟨by simp;omega,fun h=>(by cases h),fun ad ha j x hj=>?_⟩,by simp;omega,fun s hs=>?_⟩
   · obtain rfl:=Option.some.inj ha
     rw [List.getElem?_take] at hj
     split at hj
     · have hjl:=(List.getElem?_eq_some_iff.1 hj).1
       rw [hcell j hjl,List.getD_eq_getElem?_getD,hj]
       rfl
     · cases hj
   · have q:=hz s.data.toList.length (by
      rw [hxx]
      have e:(DataW.lit (H:=H) (.string s.data.toList))∈strs (ss.take len):=by unfold strs;exact List.mem_map_of_mem (f:=fun s=>DataW.lit (.string s.data.toList)) hs
      have q:=weights_all (P:=Tryz.prog) (e:=9) e s.data.toList.length (by simp [DataW.weights]);simp only [DataW.weights,Tryz.underlying24,List.mem_cons,List.mem_append]
      exact .inr (.inl q))
     have e2:s.data.toList.length=s.size:=by rw [Array.length_toList];rfl
     have:reachBytes=140737488351232:=rfl;omega
theorem f26:∃f0 f1 f2,Tryz.prog.underlying 26=some (.struct #[f0,f1,f2])∧Deep.oneCellFields Tryz.prog #[f0,f1,f2]=true∧f0.type=22∧f1.type=23∧f2.type=24:=⟨_,_,_,Tryz.underlying26,by kernel_rfl,rfl,rfl,rfl⟩
theorem f28:∃f0 f1 f2 f3,Tryz.prog.underlying 28=some (.struct #[f0,f1,f2,f3])∧Deep.oneCellFields Tryz.prog #[f0,f1,f2,f3]=true∧f0.type=3∧f1.type=3∧f2.type=22∧f3.type=5:=⟨_,_,_,_,Tryz.underlying28,by kernel_rfl,rfl,rfl,rfl,rfl⟩
set_option maxRecDepth 100000 in
theorem where_in {H:Type} {enc:TypeId×Value→H} {w:World} {base:Nat} {sp:Nat→Bool} {held:Bool} {r:Reach} {b0:Nat} {v:Value} {d:DataW H} {p:List MemPlace} (hv:Value.okWide Tryz.prog w r b0 28 v) (h:DataW.Trod enc Tryz.prog w base sp held 28 v d p) :
 ∃xb xm A n c l,∃fl:Nat,v=.agg #[.int .i64 xb,.int .i64 xm,.slice A n c,.int .u8 (fl:Int)]∧Rd w A c l∧l.length=n∧n≤9223372036854775807∧(∀x∈l,0≤x∧x<4294967296)∧fl<256:=by
 obtain ⟨f0,f1,f2,f3,hf,hone,t0,t1,t2,t3⟩:=f28;obtain ⟨a0,a1,a2,a3,y0,y1,y2,y3,fu,rfl,_,_,g0,g1,g2,g3⟩:=open_agg4 hf hone (by kernel_rfl) hv h;rw [t0] at g0;rw [t1] at g1;rw [t2] at g2;rw [t3] at g3;obtain ⟨xb,hb,_,_⟩:=DataW.trod_int Tryz.underlying3 g0;obtain ⟨xm,hm,_,_⟩:=DataW.trod_int Tryz.underlying3 g1;obtain ⟨A,n,c,l,rfl,hR,hn,h63,hlow⟩:=words_in g2;obtain ⟨fl,hfl,_,hw⟩:=DataW.trod_int Tryz.underlying5 g3
 obtain rfl:a0=.int .i64 xb:=by simpa using hb
 obtain rfl:a1=.int .i64 xm:=by simpa using hm
 obtain rfl:a3=.int .u8 fl:=by simpa using hfl
 simp [Lit.wf,IntKind.min,IntKind.max,IntKind.bits,IntKind.signed] at hw;refine ⟨xb,xm,A,n,c,l,fl.toNat,?_,hR,hn,h63,hlow,by omega⟩;rw [Int.toNat_of_nonneg (by omega)]
set_option maxRecDepth 100000 in
theorem lifted (os:Os) (started:os.Started) (H:Type) (enc:TypeId×Value→H) :
 ReturnsInHanded {} Tryz.checked os 3 .any (fun w args=>(Rows.topShiftsSpec.pre enc Tryz.prog Tryz.f3 Rows.topShiftsRow.domain false w args∧laidMetH Tryz.prog Rows.topShiftsRow.laid w)∧sizedMet enc Tryz.prog Tryz.f3 (OpenSpec.ofChange Rows.topShiftsSpec) false w args)
  (Rows.topShiftsSpec.post enc Tryz.prog Tryz.f3 false true false false):=by
 have hplain:∀w,laidMetH Tryz.prog Rows.topShiftsRow.laid w=laidMet Tryz.prog Rows.topShiftsRow.laid w:=fun w=>MakeChecks.laidMetH_plain _ _ _ (by kernel_rfl)
 refine wrap (C:=Tryz.checked) (X:=fun w _=>laidMetH Tryz.prog Rows.topShiftsRow.laid w) (fun _ _ _ hh h=>h.of_heap hh) own started (by kernel_rfl) Tryz.func3
  (ChangeSpec.witness_shaped (enc:=enc) (C:=Tryz.checked) (os:=os) (X:=fun w _=>laidMetH Tryz.prog Rows.topShiftsRow.laid w) false (Wit.start os) #[.agg #[.slice none 0 0,.slice none 0 0,.slice none 0 0],.agg #[.int .i64 0,.int .i64 0,.slice none 0 0,.int .u8 0],.agg #[.int .i64 0,.int .i64 0,.slice none 0 0,.int .u8 0]] 8 (Wit.start_os _)
    (Wit.shaped os _) (by kernel_rfl) (by kernel_rfl) (by kernel_rfl) (by rw [hplain,laid_same];exact Wit.met os _)) ?_
 intro W base args ds gs before hval0 hW hwt hsh hL0;have hval:∀(j:Nat) t v,Tryz.f3.params[j]? = some t→args[j]? = some v→Value.okWide Tryz.prog W .any base t v:=hval0
 have hL:laidMet Tryz.prog Rows.topShiftsRow.laid W:=by rw [←hplain];exact hL0
 have hW':=hW;obtain ⟨p,q,hA0,hV,rfl,hfz,hnd⟩:=hW;have hA:DataW.TrodAll enc Tryz.prog W 0 (fun _=>true) true Tryz.f3.params.toList args.toList ds p:=hA0;have hwt1:(DataW.weightsEach Tryz.prog (Tryz.f3.params.toList++Rows.topShiftsSpec.plain.varTypes Tryz.prog) (ds++gs)).all (·≤reachBytes)=true:=hwt;rw [Tryz.params3] at hA hval hwt1;obtain ⟨v0,vs0,d0,ds0,p0,q0,hargs,rfl,rfl,h0,r0⟩:=trodAll_cons hA;obtain ⟨v1,vs1,d1,ds1,p1,q1,hargs1,rfl,rfl,h1,r1⟩:=trodAll_cons r0
 obtain ⟨v2,vs2,d2,ds2,p2,q2,hargs2,rfl,rfl,h2,r2⟩:=trodAll_cons r1;obtain ⟨rfl,rfl,rfl⟩:=trodAll_nil r2;subst hargs2;subst hargs1
 obtain rfl:args=#[v0,v1,v2]:=by cases args;simp_all
 obtain ⟨rfl,rfl⟩:=trodVars_none hV;have k0:=h0;have k1:=h1;have k2:=h2;obtain ⟨f0,f1,f2,hf,hone,t0,t1,t2⟩:=f26;obtain ⟨a0,a1,a2,y0,y1,y2,fu,rfl,rfl,_,g0,g1,g2⟩:=open_agg3 hf hone (by kernel_rfl) (hval 0 26 v0 rfl rfl) h0;rw [t0] at g0;rw [t1] at g1;rw [t2] at g2
 have hz:∀n∈y2.1.weights Tryz.prog 24,n≤reachBytes:=fun n hn=>by
  have q1:n∈(DataW.agg [y0.1,y1.1,y2.1]).weights Tryz.prog 26:=by
   simp only [DataW.weights,hf,t0,t1,t2,List.map_cons,List.map_nil,DataW.weightsEach,List.mem_append];simp [t2,DataW.weightsEach,hn]
  have q:=List.all_eq_true.1 hwt1 n (DataW.weights_mem_each (j:=0) rfl rfl n q1)
  simpa using q
 obtain ⟨A,n,c,l,rfl,hR,hn,h63,hlow⟩:=words_in g0;obtain ⟨B,lb,cb,b,rfl,hl,hlc,h63b,hb,hnil,h256⟩:=bytes_in g1;obtain ⟨N,nn,cn,nm,rfl,hN,hnn,hns⟩:=names_in g2 hz;obtain ⟨xb,xm,XA,xn,xc,xl,fl,rfl,hX,hxn,h63x,hxl,hfl⟩:=where_in (hval 1 28 v1 rfl rfl) h1;obtain ⟨yb,ym,YA,yn,yc,yl,fl2,rfl,hY,hyn,h63y,hyl,hfl2⟩:=where_in (hval 2 28 v2 rfl rfl) h2;clear hA0 hval0;refine (tshifts_any n nn ⟨fun wx hb=>shown_in hsh hL hb⟩ ⟨hR⟩ ⟨hn⟩ ⟨hlow⟩ h63 ⟨hl⟩ hlc h63b ⟨hb⟩ ⟨hnil⟩ ⟨h256⟩ ⟨hN⟩ ⟨hnn⟩ ⟨hns⟩ xb xm fl hX hxn h63x hxl hfl yb ym (fl2:Int) hY hyn h63y).mono fun e W' ⟨he,bel⟩=>?_
 subst he;exact ⟨_,rfl,_,_,_,[],_,[],hW',trodAll_mk1 (shut_bool Tryz.underlying4 _),(trodAll_cons_mk (Below.trod laidOut (by kernel_rfl) (of_decide_eq_true (by kernel_rfl)) k0 bel.out (fun x hx=>by simpa using hW'.lt x (by simp [hx]))) (trodAll_cons_mk (Below.trod laidOut (by kernel_rfl) (of_decide_eq_true (by kernel_rfl)) k1 bel.out (fun x hx=>by simpa using hW'.lt x (by simp [hx]))) (trodAll_cons_mk (Below.trod laidOut (by kernel_rfl) (of_decide_eq_true (by kernel_rfl)) k2 bel.out (fun x hx=>by simpa using hW'.lt x (by simp [hx]))) trodAll_mk0))),rfl,bel.out.frame _,fun h=>by cases h⟩
theorem over:Rows.topShiftsRow.holds Tryz.pinned (OpenSpec.ofChange Rows.topShiftsSpec) :=
 OpenClaim.holds_of_wide 3 Tryz.f3 rfl rfl rfl rfl rfl rfl rfl ⟨rfl,rfl,rfl,rfl,rfl⟩ rfl rfl rfl rfl rfl k_named Tryz.func3 closed k_inst k_wrap
  (fun os started H enc _=>lifted os started H enc)
theorem proved:Rows.TopShiftsSaid:=over
end Go.Proofs.YtjmiaemabhlnjaaGreatDoor.topShifts
namespace Go.Proofs.YtjmiaemabhlnjaaGreatDoor
theorem topShifts_holds:Rows.TopShiftsSaid:=topShifts.proved
end Go.Proofs.YtjmiaemabhlnjaaGreatDoor
end
section
set_option linter.all false
set_option maxRecDepth 20000
namespace Go.Proofs.YtjmiaemabhlnjaaGreatDoor
open Go
theorem topShiftsCard_holds:Rows.TopShiftsCardSaid :=
 Claim7.holds_tied_plain_at .later [] [.data,.data,.data,.data,.sentinel,.sentinel,.listed,.data,.mapped,.pinned] true (true, "226a5722ef5b7ddfab7bcd4e31c5912b987deefa9ffaf5fbf9674233bb017b7d") true
  topShifts_holds (fun _ h=>by cases h) (by kernel_rfl) (fun _ h=>by cases h) topShifts_row_tie rfl ⟨rfl,rfl⟩ (by kernel_rfl) rfl
  (fun f fn hf hfn=>by
    obtain rfl:f=3:=Option.some.inj ((show Tryz.prog.funcNamed "rivet/rivettop.TopShifts"=some 3 by kernel_rfl).symm.trans hf) |>.symm;obtain rfl:fn=Tryz.f3:=(Option.some.inj (Tryz.func3.symm.trans hfn)).symm
    exact ⟨by kernel_rfl,fun j t ht=>by
     rw [Tryz.params3] at ht
     have h3:t=26∨t=28:=by
      rcases j with _ | _ | _ | j
      · exact .inl (by simpa using ht.symm)
      · exact .inr (by simpa using ht.symm)
      · exact .inr (by simpa using ht.symm)
      · simp at ht
     rcases h3 with rfl | rfl
     · exact (show Tryz.prog.wantsStandIn 26=false by kernel_rfl)
     · exact (show Tryz.prog.wantsStandIn 28=false by kernel_rfl)⟩)
  (by kernel_rfl)
end Go.Proofs.YtjmiaemabhlnjaaGreatDoor
end
