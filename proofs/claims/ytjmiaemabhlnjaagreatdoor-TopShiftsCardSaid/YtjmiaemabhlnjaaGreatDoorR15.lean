/- A part of the proof of TopShifts. -/
import Derived.Test.YtjmiaemabhlnjaaGreatDoorR9
import Derived.Test.YtjmiaemabhlnjaaGreatDoorR10
import Derived.Test.YtjmiaemabhlnjaaGreatDoorR11
import Derived.Test.YtjmiaemabhlnjaaGreatDoorR12
import Derived.Test.YtjmiaemabhlnjaaGreatDoorR13
import Derived.Test.YtjmiaemabhlnjaaGreatDoorR14
import Derived.Test.YtjmiaemabhlnjaaGreatDoorR7
import Derived.Test.YtjmiaemabhlnjaaGreatDoorR4
import Derived.Test.YtjmiaemabhlnjaaGreatDoorR8
import Derived.Test.YtjmiaemabhlnjaaGreatDoorR5
section
set_option linter.all false
set_option maxRecDepth 20000
namespace Go.Proofs.YtjmiaemabhlnjaaGreatDoor.Isa
open Go.RowKit Go.Proofs.YtjmiaemabhlnjaaGreatDoor.FieldM Go.Proofs.YtjmiaemabhlnjaaGreatDoor.Field
theorem get_at (w a k:Nat) (d m:Nat) (h:a+k≤32) (hd:2 ^ a=d) (hm:2 ^ k=m):(getN w (a:Int) (k:Int):Int)=((w / d%m:Nat):Int):=by
 rw [getN_eq w a k h,hd,hm]
theorem bit_is (z:Nat):(((z:Nat):Int)==1)=decide (z=1):=by
 by_cases h:z=1
 · subst h;rfl
 · rw [decide_eq_false h];exact beq_eq_false_iff_ne.2 (by omega)
theorem read_any (w:Nat) (hw:w<4294967296) (W:World) :
 Calls Tryz.prog 80 #[.int .u32 w] W fun e w'=>e=.returned (readN w).v∧Bl W w':=by
 obtain ⟨W1,hW1⟩:∃W1,W1=W.alloc (.cells #[.int .u32 w] 56):=⟨_,rfl⟩;have HW:=Field.Aside.mk hW1
 have hc:W1.cell? ⟨W.heap.size,0,none⟩=some (.int .u32 w):=by rw [hW1,World.cell?_alloc_at _ _ _ _ rfl];rfl
 have S20:Field.Aside (∀wx,Calls Tryz.prog 114 #[.int .u32 w,.int .i64 20] wx fun e w'=>e=.returned (.int .i64 (signedN w 19))∧wx=w'):=⟨fun wx=>signed_any w 20 wx⟩;have S24:Field.Aside (∀wx,Calls Tryz.prog 114 #[.int .u32 w,.int .i64 24] wx fun e w'=>e=.returned (.int .i64 (signedN w 23))∧wx=w'):=⟨fun wx=>signed_any w 24 wx⟩;have G (a n:Int) (hn:n≤9223372036854775807) (r:Int) (hr:(getN w a n:Int)=r):=rget_c w a n r W.heap.size W1 hw hn hc hr
 have g28:=G 28 1 (by omega) _ (get_at w 28 1 268435456 2 (by omega) (by decide) (by decide));have g24:=G 24 4 (by omega) _ (get_at w 24 4 16777216 16 (by omega) (by decide) (by decide));have g20:=G 20 4 (by omega) _ (get_at w 20 4 1048576 16 (by omega) (by decide) (by decide));have g16:=G 16 4 (by omega) _ (get_at w 16 4 65536 16 (by omega) (by decide) (by decide));have g0:=G 0 4 (by omega) _ (get_at w 0 4 1 16 (by omega) (by decide) (by decide))
 have gi:=G 0 16 (by omega) _ (get_at w 0 16 1 65536 (by omega) (by decide) (by decide));have e29:=get_at w 29 1 536870912 2 (by omega) (by decide) (by decide);have e30:=get_at w 30 2 1073741824 4 (by omega) (by decide) (by decide);rw [Nat.div_one] at g0 gi
 have c28:((w / 268435456%2:Nat):Int)≤1:=by omega
 have ci:((w%65536:Nat):Int)≤65535:=by omega
 rcases (show w / 536870912%2=0∨w / 536870912%2=1 by omega) with h29 | h29 <;>
  rcases (show w / 1073741824%4=0∨w / 1073741824%4=1∨w / 1073741824%4=2∨w / 1073741824%4=3 by omega) with h30 | h30 | h30 | h30
 all_goals
  have g29:=G 29 1 (by omega) _ e29;have g30:=G 30 2 (by omega) _ e30;rw [h29] at g29;rw [h30] at g30
 · refine (read_0a w W W1 _ _ _ _ _ _ _ _ _ HW (by omega) c28 rfl (by omega) ci S20 S24 g29 g28 g24 g20 g16 g30 g0 gi).mono ?_
   rintro e w' ⟨rfl,hb⟩;refine ⟨?_,hb⟩;simp [readN,Ins.v,h29,h30]
 · refine (read_1a w W W1 _ _ _ _ _ _ _ _ _ HW (by omega) c28 rfl (by omega) ci S20 S24 g29 g28 g24 g20 g16 g30 g0 gi).mono ?_
   rintro e w' ⟨rfl,hb⟩;refine ⟨?_,hb⟩;simp [readN,Ins.v,h29,h30]
 · refine (read_2a w W W1 _ _ _ _ _ _ _ _ _ HW (by omega) c28 rfl (by omega) ci S20 S24 g29 g28 g24 g20 g16 g30 g0 gi).mono ?_
   rintro e w' ⟨rfl,hb⟩;refine ⟨?_,hb⟩;simp [readN,Ins.v,h29,h30]
 · refine (read_3a w W W1 _ _ _ _ _ _ _ _ _ HW (by omega) c28 (bit_is _) (by omega) ci S20 S24 g29 g28 g24 g20 g16 g30 g0 gi).mono ?_
   rintro e w' ⟨rfl,hb⟩;refine ⟨?_,hb⟩;simp [readN,Ins.v,h29,h30]
 · by_cases h16:w / 65536%16=0
   · rw [h16] at g16
     refine (read_0c w W W1 _ _ _ 0 _ _ _ _ _ HW (by omega) c28 rfl (by omega) ci S20 S24 g29 g28 g24 g20 g16 g30 g0 gi).mono ?_;rintro e w' ⟨rfl,hb⟩;refine ⟨?_,hb⟩;simp [readN,Ins.v,h29,h30,h16]
   · refine (read_0b w W W1 _ _ _ _ _ _ _ _ _ HW (by omega) c28 rfl (by omega) ci (beq_eq_false_iff_ne.2 (by omega)) S20 S24 g29 g28 g24 g20 g16 g30 g0 gi).mono ?_
     rintro e w' ⟨rfl,hb⟩;refine ⟨?_,hb⟩;simp [readN,Ins.v,h29,h30,h16]
 · refine (read_1b w W W1 _ _ _ _ _ _ _ _ _ HW (by omega) c28 rfl (by omega) ci S20 S24 g29 g28 g24 g20 g16 g30 g0 gi).mono ?_
   rintro e w' ⟨rfl,hb⟩;refine ⟨?_,hb⟩;simp [readN,Ins.v,h29,h30]
 · refine (read_2b w W W1 _ _ _ _ _ _ _ _ _ HW (by omega) c28 rfl (by omega) ci S20 S24 g29 g28 g24 g20 g16 g30 g0 gi).mono ?_
   rintro e w' ⟨rfl,hb⟩;refine ⟨?_,hb⟩;simp [readN,Ins.v,h29,h30]
 · refine (read_3b w W W1 _ _ _ _ _ _ _ _ _ HW (by omega) c28 (bit_is _) (by omega) ci S20 S24 g29 g28 g24 g20 g16 g30 g0 gi).mono ?_
   rintro e w' ⟨rfl,hb⟩;refine ⟨?_,hb⟩;simp [readN,Ins.v,h29,h30]
theorem may_any (i:Ins) (W:World):Calls Tryz.prog 81 #[i.v] W fun e w'=>e=.returned (.bool (mayN i))∧Bl W w':=by
 obtain ⟨W1,hW1⟩:∃W1,W1=W.alloc (.cells #[.int .i64 i.kd,.int .i64 i.op,.int .i64 i.a,.int .i64 i.b,.int .i64 i.c,.int .i64 i.im,.bool i.u] 72):=⟨_,rfl⟩;have HW:=Field.Aside.mk hW1
 have B (n l h:Int) (r:Bool) (hr:(decide (l≤n)&&decide (n≤h))=r):Field.Aside (∀wx,Calls Tryz.prog 115 #[.int .i64 n,.int .i64 l,.int .i64 h] wx fun e w'=>e=.returned (.bool r)∧wx=w') :=
  ⟨fun wx=>by rw [←hr];exact between_any n l h wx⟩
 have hlt:=wordN_lt i
 by_cases h1:1≤i.kd∧i.kd≤7
 · have B1:=B i.kd 1 7 true (by simp [h1.1,h1.2])
   by_cases h2:0≤i.op∧i.op≤15
   · have B2:=B i.op 0 15 true (by simp [h2.1,h2.2])
     have WD:Field.Aside (∀wx,Calls Tryz.prog 82 #[.agg #[.int .i64 i.kd,.int .i64 i.op,.int .i64 i.a,.int .i64 i.b,.int .i64 i.c,.int .i64 i.im,.bool i.u]] wx fun e w'=>e=.returned (.int .u32 (wordN i))∧Bl wx w') :=
      ⟨fun wx=>word_any i.kd i.op i.a i.b i.c i.im i.u wx h1.1 h1.2 h2.1 h2.2⟩
     have RD:Field.Aside (∀wx,Calls Tryz.prog 80 #[.int .u32 (wordN i)] wx fun e w'=>e=.returned (readN (wordN i)).v∧Bl wx w'):=⟨fun wx=>read_any (wordN i) hlt wx⟩
     have hm:mayN i=(decide (i=readN (wordN i))&&tailN i.kd i.op i.b i.im i.u):=by
      simp only [mayN,tailN,h1.1,h1.2,h2.1,h2.2,decide_true,Bool.true_and]
     rw [hm]
     by_cases he:i=readN (wordN i)
     · rw [←he] at RD
       rw [decide_eq_true he,Bool.true_and];exact may_4 i.kd i.op i.a i.b i.c i.im i.u W W1 HW B1 B2 _ WD RD h1.1 h1.2 h2.1 h2.2 (B i.op 8 10 _ rfl)
     · rw [decide_eq_false he,Bool.false_and]
       obtain ⟨kd,op,a,b,c,im,u⟩:=i
       dsimp only [Ins.v] at *
       generalize readN (wordN ⟨kd,op,a,b,c,im,u⟩)=j at *;obtain ⟨kd',op',a',b',c',im',u'⟩:=j
       by_cases d0:kd=kd'
       · subst d0
         by_cases d1:op=op'
         · subst d1
           by_cases d2:a=a'
           · subst d2
             by_cases d3:b=b'
             · subst d3
               by_cases d4:c=c'
               · subst d4
                 by_cases d5:im=im'
                 · subst d5
                   by_cases d6:u=u'
                   · subst d6
                     exact absurd rfl he
                   · exact may_36 _ _ _ _ _ _ _ W W1 HW B1 B2 _ WD _ RD d6
                 · exact may_35 _ _ _ _ _ _ _ W W1 HW B1 B2 _ WD _ _ RD d5
               · exact may_34 _ _ _ _ _ _ _ W W1 HW B1 B2 _ WD _ _ _ RD d4
             · exact may_33 _ _ _ _ _ _ _ W W1 HW B1 B2 _ WD _ _ _ _ RD d3
           · exact may_32 _ _ _ _ _ _ _ W W1 HW B1 B2 _ WD _ _ _ _ _ RD d2
         · exact may_31 _ _ _ _ _ _ _ W W1 HW B1 B2 _ WD _ _ _ _ _ _ RD d1
       · exact may_30 _ _ _ _ _ _ _ W W1 HW B1 B2 _ WD _ _ _ _ _ _ _ RD d0
   · have B2:=B i.op 0 15 false (by simp;omega)
     have hm:mayN i=false:=by
      simp only [mayN];rw [show (decide (0≤i.op)&&decide (i.op≤15))=false by simp;omega];simp
     rw [hm];exact may_2 _ _ _ _ _ _ _ W W1 HW B1 B2
 · have B1:=B i.kd 1 7 false (by simp;omega)
   have hm:mayN i=false:=by
    simp only [mayN];rw [show (decide (1≤i.kd)&&decide (i.kd≤7))=false by simp;omega];simp
   rw [hm];exact may_1 _ _ _ _ _ _ _ W W1 HW B1
theorem two_boxes (W:World) (kd op a b c im:Int) (u:Bool) (T:TypeId) {w1:World} (h:Bl (W.alloc (.cells #[.int .i64 0,.int .i64 0,.int .i64 0,.int .i64 0,.int .i64 0,.int .i64 0,.bool false] T)) w1) :
 IBox W.heap.size 0 0 0 0 0 0 false (w1.alloc (.cells #[.int .i64 kd,.int .i64 op,.int .i64 a,.int .i64 b,.int .i64 c,.int .i64 im,.bool u] T)) ∧
 IBox w1.heap.size kd op a b c im u (w1.alloc (.cells #[.int .i64 kd,.int .i64 op,.int .i64 a,.int .i64 b,.int .i64 c,.int .i64 im,.bool u] T))∧W.heap.size<w1.heap.size :=
 ⟨((IBox.new W 0 0 0 0 0 0 false T).keep h).keep ((Bl.refl _).alloc _),IBox.new w1 kd op a b c im u T,by have:=h.out.size;simp at this;omega⟩
theorem Bl.of_new {W:World} {o:Obj} {w:World} (h:Bl (W.alloc o) w):Bl W w:=(((Bl.refl W).alloc o).then h.out)
set_option maxHeartbeats 4000000 in
theorem decode_no1 (w kd op a b c im:Int) (u:Bool) (W:World)
 (RD:Field.Aside (∀wx,Calls Tryz.prog 80 #[.int .u32 w] wx fun e w'=>e=.returned (.agg #[.int .i64 kd,.int .i64 op,.int .i64 a,.int .i64 b,.int .i64 c,.int .i64 im,.bool u])∧Bl wx w'))
 (MY:Field.Aside (∀wx,Calls Tryz.prog 81 #[.agg #[.int .i64 kd,.int .i64 op,.int .i64 a,.int .i64 b,.int .i64 c,.int .i64 im,.bool u]] wx fun e w'=>e=.returned (.bool false)∧Bl wx w')) :
 Calls Tryz.prog 51 #[.int .u32 w] W fun e w'=>e=.returned (.tuple #[.agg #[.int .i64 0,.int .i64 0,.int .i64 0,.int .i64 0,.int .i64 0,.int .i64 0,.bool false],.bool false])∧Bl W w':=by
 go_enter Tryz.func51,Tryz.ntmps51
 go_wp2_with fail
 refine (RD.out _).mono ?_;rintro e w1 ⟨rfl,k1⟩;have K1:=Field.Aside.mk k1;obtain ⟨z,y,hlt⟩:=two_boxes W kd op a b c im u _ k1;clear k1;have Z:=Field.Aside.mk z;have Y:=Field.Aside.mk y;clear z y
 go_wp2_with fail
 refine (MY.out _).mono ?_;rintro e w2 ⟨rfl,k2⟩;obtain ⟨z0,z1,z2,z3,z4,z5,z6,zf⟩:=Z.out.keep k2;have K2:=Field.Aside.mk k2;clear k2
 go_wp2_with fail
 refine bodyPost_ret (v:=.tuple #[.agg #[.int .i64 0,.int .i64 0,.int .i64 0,.int .i64 0,.int .i64 0,.int .i64 0,.bool false],.bool false]) ?_ rfl ⟨rfl,?_⟩
 · simp only [results,Tryz.results51]
   go_simp
 · have hq:Bl W w2:=((K1.out.of_new).alloc _).then K2.out.out
   repeat (refine Bl.puts ?_ (Nat.le_refl _) _)
   exact hq
set_option maxHeartbeats 4000000 in
theorem decode_no2 (w kd op a b c im:Int) (u:Bool) (R:Int) (hne:(R==w)=false) (W:World)
 (RD:Field.Aside (∀wx,Calls Tryz.prog 80 #[.int .u32 w] wx fun e w'=>e=.returned (.agg #[.int .i64 kd,.int .i64 op,.int .i64 a,.int .i64 b,.int .i64 c,.int .i64 im,.bool u])∧Bl wx w'))
 (MY:Field.Aside (∀wx,Calls Tryz.prog 81 #[.agg #[.int .i64 kd,.int .i64 op,.int .i64 a,.int .i64 b,.int .i64 c,.int .i64 im,.bool u]] wx fun e w'=>e=.returned (.bool true)∧Bl wx w'))
 (WD:Field.Aside (∀wx,Calls Tryz.prog 82 #[.agg #[.int .i64 kd,.int .i64 op,.int .i64 a,.int .i64 b,.int .i64 c,.int .i64 im,.bool u]] wx fun e w'=>e=.returned (.int .u32 R)∧Bl wx w')) :
 Calls Tryz.prog 51 #[.int .u32 w] W fun e w'=>e=.returned (.tuple #[.agg #[.int .i64 0,.int .i64 0,.int .i64 0,.int .i64 0,.int .i64 0,.int .i64 0,.bool false],.bool false])∧Bl W w':=by
 have hne2:(R != w)=true:=by rw [bne,hne];rfl
 go_enter Tryz.func51,Tryz.ntmps51
 go_wp2_with fail
 refine (RD.out _).mono ?_;rintro e w1 ⟨rfl,k1⟩;have K1:=Field.Aside.mk k1;obtain ⟨z,y,hlt⟩:=two_boxes W kd op a b c im u _ k1;clear k1;have Z:=Field.Aside.mk z;have Y:=Field.Aside.mk y;clear z y
 go_wp2_with fail
 refine (MY.out _).mono ?_;rintro e w2 ⟨rfl,k2⟩;have K2:=Field.Aside.mk k2;obtain ⟨i0,i1,i2,i3,i4,i5,i6,fz⟩:=Y.out.keep k2;clear k2
 go_wp2_with fail
 refine (WD.out _).mono ?_;rintro e w3 ⟨rfl,k3⟩;clear i0 i1 i2 i3 i4 i5 i6 fz;have K3:=Field.Aside.mk (K2.out.then k3.out);clear k3;obtain ⟨z0,z1,z2,z3,z4,z5,z6,zf⟩:=Z.out.keep K3.out
 go_wp2_with fail
 refine bodyPost_ret (v:=.tuple #[.agg #[.int .i64 0,.int .i64 0,.int .i64 0,.int .i64 0,.int .i64 0,.int .i64 0,.bool false],.bool false]) ?_ rfl ⟨rfl,?_⟩
 · simp only [results,Tryz.results51]
   go_simp
 · have hq:Bl W w3:=((K1.out.of_new).alloc _).then K3.out.out
   repeat (refine Bl.puts ?_ (Nat.le_refl _) _)
   exact hq
set_option maxHeartbeats 4000000 in
theorem decode_yes (w kd op a b c im:Int) (u:Bool) (W:World)
 (RD:Field.Aside (∀wx,Calls Tryz.prog 80 #[.int .u32 w] wx fun e w'=>e=.returned (.agg #[.int .i64 kd,.int .i64 op,.int .i64 a,.int .i64 b,.int .i64 c,.int .i64 im,.bool u])∧Bl wx w'))
 (MY:Field.Aside (∀wx,Calls Tryz.prog 81 #[.agg #[.int .i64 kd,.int .i64 op,.int .i64 a,.int .i64 b,.int .i64 c,.int .i64 im,.bool u]] wx fun e w'=>e=.returned (.bool true)∧Bl wx w'))
 (WD:Field.Aside (∀wx,Calls Tryz.prog 82 #[.agg #[.int .i64 kd,.int .i64 op,.int .i64 a,.int .i64 b,.int .i64 c,.int .i64 im,.bool u]] wx fun e w'=>e=.returned (.int .u32 w)∧Bl wx w')) :
 Calls Tryz.prog 51 #[.int .u32 w] W fun e w'=>e=.returned (.tuple #[.agg #[.int .i64 kd,.int .i64 op,.int .i64 a,.int .i64 b,.int .i64 c,.int .i64 im,.bool u],.bool true])∧Bl W w':=by
 go_enter Tryz.func51,Tryz.ntmps51
 go_wp2_with fail
 refine (RD.out _).mono ?_;rintro e w1 ⟨rfl,k1⟩;have K1:=Field.Aside.mk k1;obtain ⟨z,y,hlt⟩:=two_boxes W kd op a b c im u _ k1;clear k1;have Z:=Field.Aside.mk z;have Y:=Field.Aside.mk y;clear z y
 go_wp2_with fail
 refine (MY.out _).mono ?_;rintro e w2 ⟨rfl,k2⟩;have K2:=Field.Aside.mk k2;obtain ⟨i0,i1,i2,i3,i4,i5,i6,fz⟩:=Y.out.keep k2;clear k2
 go_wp2_with fail
 refine (WD.out _).mono ?_;rintro e w3 ⟨rfl,k3⟩;clear i0 i1 i2 i3 i4 i5 i6 fz;have K3:=Field.Aside.mk (K2.out.then k3.out);clear k3
 have hne:¬w1.heap.size=W.heap.size:=by omega
 have hne':¬W.heap.size=w1.heap.size:=by omega
 obtain ⟨z0,z1,z2,z3,z4,z5,z6,zf⟩:=Z.out.keep K3.out;obtain ⟨i0,i1,i2,i3,i4,i5,i6,fz⟩:=Y.out.keep K3.out
 go_wp2_with fail
 refine bodyPost_ret (v:=.tuple #[.agg #[.int .i64 kd,.int .i64 op,.int .i64 a,.int .i64 b,.int .i64 c,.int .i64 im,.bool u],.bool true]) ?_ rfl ⟨rfl,?_⟩
 · simp only [results,Tryz.results51]
   go_simp
 · have hq:Bl W w3:=((K1.out.of_new).alloc _).then K3.out.out
   repeat (refine Bl.puts ?_ (Nat.le_refl _) _)
   exact hq
theorem may_is (i:Ins) {m:Bool} (h:mayN i=m):Field.Aside (∀wx,Calls Tryz.prog 81 #[i.v] wx fun e w'=>e=.returned (.bool m)∧Bl wx w') :=
 ⟨fun wx=>by rw [←h];exact may_any i wx⟩
theorem word_is (i:Ins) (h1:1≤i.kd) (h7:i.kd≤7) (o0:0≤i.op) (o1:i.op≤15):Field.Aside (∀wx,Calls Tryz.prog 82 #[i.v] wx fun e w'=>e=.returned (.int .u32 (wordN i))∧Bl wx w') :=
 ⟨fun wx=>word_any i.kd i.op i.a i.b i.c i.im i.u wx h1 h7 o0 o1⟩
theorem read_is (w:Nat) (hw:w<4294967296):Field.Aside (∀wx,Calls Tryz.prog 80 #[.int .u32 w] wx fun e w'=>e=.returned (readN w).v∧Bl wx w'):=⟨fun wx=>read_any w hw wx⟩
theorem decode_ok (w:Nat) (hw:w<4294967296) (h:okN w=true):Field.Aside (∀wx,Calls Tryz.prog 51 #[.int .u32 w] wx fun e w'=>e=.returned (.tuple #[(readN w).v,.bool true])∧Bl wx w'):=by
 unfold okN at h;rw [Bool.and_eq_true,decide_eq_true_iff] at h;have hb:=read_bounds w;have W:=word_is (readN w) hb.1 hb.2.1 hb.2.2.1 hb.2.2.2;rw [h.2] at W;exact ⟨fun wx=>decode_yes w (readN w).kd (readN w).op (readN w).a (readN w).b (readN w).c (readN w).im (readN w).u wx (read_is w hw) (may_is _ h.1) W⟩
def zeroI:Value:=.agg #[.int .i64 0,.int .i64 0,.int .i64 0,.int .i64 0,.int .i64 0,.int .i64 0,.bool false]
theorem decode_bad (w:Nat) (hw:w<4294967296) (h:okN w=false):Field.Aside (∀wx,Calls Tryz.prog 51 #[.int .u32 w] wx fun e w'=>e=.returned (.tuple #[.agg #[.int .i64 0,.int .i64 0,.int .i64 0,.int .i64 0,.int .i64 0,.int .i64 0,.bool false],.bool false])∧Bl wx w'):=by
 unfold okN at h;have hb:=read_bounds w;have W:=word_is (readN w) hb.1 hb.2.1 hb.2.2.1 hb.2.2.2
 by_cases hm:mayN (readN w)=true
 · rw [hm,Bool.true_and,decide_eq_false_iff_not] at h
   exact ⟨fun wx=>decode_no2 w (readN w).kd (readN w).op (readN w).a (readN w).b (readN w).c (readN w).im (readN w).u _ (beq_eq_false_iff_ne.2 (by omega)) wx (read_is w hw) (may_is _ hm) W⟩
 · exact ⟨fun wx=>decode_no1 w (readN w).kd (readN w).op (readN w).a (readN w).b (readN w).c (readN w).im (readN w).u wx (read_is w hw) (may_is _ (by simpa using hm))⟩
end Go.Proofs.YtjmiaemabhlnjaaGreatDoor.Isa
end
section
set_option linter.all false
set_option maxRecDepth 20000
namespace Go.Proofs.YtjmiaemabhlnjaaGreatDoor.Isa
open Go Go.RowKit Go.Proofs.YtjmiaemabhlnjaaGreatDoor.FieldM Go.Proofs.YtjmiaemabhlnjaaGreatDoor.Field
def RMayI (kd op a b c im U:Int):Prop :=
 0≤a∧a≤15∧0≤b∧b≤15∧0≤c∧c≤15 ∧
 ((kd=1∧0≤op∧op≤11∧(op=0→b=0)∧im=0∧(U=1→8≤op∧op≤10)) ∨
  (kd=2∧0≤op∧op≤11∧(op=0→b=0)∧c=0 ∧ -65536≤im∧im≤65535∧(U=1→(8≤op∧op≤10)∨(op=0∧0≤im))) ∨
  ((kd=3∨kd=4)∧op=0∧b=0∧c=0∧im=0∧U=0) ∨
  (kd=5∧0≤op∧op≤3∧c=0 ∧ -524288≤im∧im<524288∧U=0) ∨
  (kd=6∧0≤op∧op≤15∧a=0∧b=0∧im=0) ∨
  (kd=7∧0≤op∧op≤15∧a=0∧b=0∧c=0 ∧ -8388608≤im∧im<8388608))
theorem b2i_one (u:Bool):b2i u=1↔u=true:=by cases u<;>decide
theorem b2i_nil (u:Bool):b2i u=0↔u=false:=by cases u<;>decide
theorem may_yes {kd op a b c im:Int} {u:Bool} (h:RMayI kd op a b c im (b2i u)):mayN ⟨kd,op,a,b,c,im,u⟩=true:=by
 obtain ⟨a0,a1,b0,b1,c0,c1,h⟩:=h
 rcases h with ⟨rfl,o0,o1,hb,rfl,hu⟩ | ⟨rfl,o0,o1,hb,rfl,m0,m1,hu⟩ | ⟨hk,rfl,rfl,rfl,rfl,hu⟩ | ⟨rfl,o0,o1,rfl,m0,m1,hu⟩ | ⟨rfl,o0,o1,rfl,rfl,rfl⟩ | ⟨rfl,o0,o1,rfl,rfl,rfl,m0,m1⟩
 · exact may_reg o0 o1 a0 a1 b0 b1 c0 c1 hb (fun h=>hu ((b2i_one u).2 h))
 · exact may_imm o0 o1 a0 a1 b0 b1 m0 m1 hb (fun h=>hu ((b2i_one u).2 h))
 · obtain rfl:=(b2i_nil u).1 hu
   rcases hk with rfl | rfl
   · exact may_hi a0 a1
   · exact may_fl a0 a1
 · obtain rfl:=(b2i_nil u).1 hu
   exact may_mem o0 o1 a0 a1 b0 b1 m0 m1
 · exact may_br o0 o1 c0 c1
 · exact may_jmp o0 o1 m0 m1
theorem tail_1 {op b im:Int} {u:Bool} (h:tailN 1 op b im u=true):op≤11∧(op=0→b=0)∧(b2i u=1→8≤op∧op≤10):=by
 simp only [tailN,true_or,if_true] at h
 by_cases h0:op=0
 · rw [if_pos h0] at h
   cases u<;>simp at h
   exact ⟨by omega,fun _=>h,fun h=>absurd h (by decide)⟩
 · rw [if_neg h0] at h
   by_cases h1:11<op
   · rw [if_pos h1] at h;exact absurd h (by decide)
   · rw [if_neg h1] at h
     cases u
     · exact ⟨by omega,fun h=>absurd h h0,fun h=>absurd h (by decide)⟩
     · simp at h
       exact ⟨by omega,fun h=>absurd h h0,fun _=>h⟩
theorem tail_2 {op b im:Int} {u:Bool} (h:tailN 2 op b im u=true):op≤11∧(op=0→b=0)∧(b2i u=1→(8≤op∧op≤10)∨(op=0∧0≤im)):=by
 simp only [tailN,or_true,if_true] at h
 by_cases h0:op=0
 · rw [if_pos h0] at h
   cases u<;>simp at h
   · exact ⟨by omega,fun _=>h,fun h=>absurd h (by decide)⟩
   · exact ⟨by omega,fun _=>h.1,fun _=>Or.inr ⟨h0,h.2⟩⟩
 · rw [if_neg h0] at h
   by_cases h1:11<op
   · rw [if_pos h1] at h;exact absurd h (by decide)
   · rw [if_neg h1] at h
     cases u
     · exact ⟨by omega,fun h=>absurd h h0,fun h=>absurd h (by decide)⟩
     · simp at h
       exact ⟨by omega,fun h=>absurd h h0,fun _=>Or.inl h⟩
theorem read_kinds (w:Nat) {kd op a b c im:Int} {u:Bool} (e:readN w=⟨kd,op,a,b,c,im,u⟩) (ht:tailN kd op b im u=true):RMayI kd op a b c im (b2i u):=by
 have s20 : -524288≤signedN w 19∧signedN w 19<524288:=by rw [signed20];split<;>omega
 have s24 : -8388608≤signedN w 23∧signedN w 23<8388608:=by rw [signed24];split<;>omega
 have hf:=read_fields w;have hbd:=read_bounds w;rw [e] at hf hbd;obtain ⟨a0,a1,b0,b1,c0,c1,-,-⟩:=hf;obtain ⟨-,-,o0,o1⟩:=hbd;refine ⟨a0,a1,b0,b1,c0,c1,?_⟩;unfold readN at e
 split at e
 · split at e
   · simp only [Ins.mk.injEq] at e
     obtain ⟨e1,rfl,e3,rfl,rfl,rfl,rfl⟩:=e;exact Or.inr (Or.inr (Or.inl ⟨by omega,rfl,rfl,rfl,rfl,rfl⟩))
   · simp only [Ins.mk.injEq] at e
     obtain ⟨rfl,e2,e3,e4,e5,rfl,e7⟩:=e;have:=tail_1 ht;exact Or.inl ⟨rfl,o0,this.1,this.2.1,rfl,this.2.2⟩
 · split at e
   · simp only [Ins.mk.injEq] at e
     obtain ⟨rfl,e2,e3,e4,rfl,e6,e7⟩:=e;have:=tail_2 ht;exact Or.inr (Or.inl ⟨rfl,o0,this.1,this.2.1,rfl,by omega,by omega,this.2.2⟩)
   · split at e
     · simp only [Ins.mk.injEq] at e
       obtain ⟨rfl,e2,e3,e4,rfl,e6,rfl⟩:=e;exact Or.inr (Or.inr (Or.inr (Or.inl ⟨rfl,o0,by omega,rfl,by omega,by omega,rfl⟩)))
     · split at e
       · simp only [Ins.mk.injEq] at e
         obtain ⟨rfl,e2,rfl,rfl,rfl,e6,e7⟩:=e;exact Or.inr (Or.inr (Or.inr (Or.inr (Or.inr ⟨rfl,o0,o1,rfl,rfl,rfl,by omega,by omega⟩))))
       · simp only [Ins.mk.injEq] at e
         obtain ⟨rfl,e2,rfl,rfl,e5,rfl,e7⟩:=e;exact Or.inr (Or.inr (Or.inr (Or.inr (Or.inl ⟨rfl,o0,o1,rfl,rfl,rfl⟩))))
theorem may_iff {kd op a b c im:Int} {u:Bool}:mayN ⟨kd,op,a,b,c,im,u⟩=true↔RMayI kd op a b c im (b2i u):=by
 refine ⟨fun h=>?_,may_yes⟩;have e:=(may_read h).symm;rw [mayN_is] at h;simp only [Bool.and_eq_true] at h;exact read_kinds _ e h.2
theorem may_no {kd op a b c im:Int} {u:Bool} (h:¬RMayI kd op a b c im (b2i u)):mayN ⟨kd,op,a,b,c,im,u⟩=false:=by
 cases hm:mayN ⟨kd,op,a,b,c,im,u⟩ with
 | false=>rfl
 | true=>exact absurd (may_iff.1 hm) h
theorem reg_any (n:Int) (w:World):Calls Tryz.prog 110 #[.int .i64 n] w fun e w'=>e=.returned (.bool (decide (0≤n)&&decide (n≤15)))∧w=w':=by
 by_cases c:0≤n
 · go_enter Tryz.func110,Tryz.ntmps110
   go_wp2;go_ret;simp [c]
 · go_enter Tryz.func110,Tryz.ntmps110
   go_wp2;go_ret;simp;omega
theorem reg_is {n:Int} {r:Bool} (h:(decide (0≤n)&&decide (n≤15))=r):Field.Aside (∀wx,Calls Tryz.prog 110 #[.int .i64 n] wx fun e w'=>e=.returned (.bool r)∧wx=w') :=
 ⟨fun wx=>by rw [←h];exact reg_any n wx⟩
theorem rone_any (u:Bool) (w:World):Calls Tryz.prog 76 #[.bool u] w fun e w'=>e=.returned (.int .u32 (b2i u))∧w'=w:=by
 cases u
 · go_enter Tryz.func76,Tryz.ntmps76
   go_wp2;go_ret;exact ⟨rfl,rfl⟩
 · go_enter Tryz.func76,Tryz.ntmps76
   go_wp2;go_ret;exact ⟨rfl,rfl⟩
theorem fits_is {v n:Int} {r:Bool} (h:fitsN v (kn n)=r):Field.Aside (∀wx,Calls Tryz.prog 111 #[.int .i64 v,.int .i64 n] wx fun e w'=>e=.returned (.bool r)∧wx=w') :=
 ⟨fun wx=>by rw [←h];exact rfits_any v n wx⟩
theorem fits20 (im:Int):fitsN im (kn 20)=decide (-524288≤im∧im<524288):=by
 unfold fitsN;rfl
theorem fits24 (im:Int):fitsN im (kn 24)=decide (-8388608≤im∧im<8388608):=by
 unfold fitsN;rfl
end Go.Proofs.YtjmiaemabhlnjaaGreatDoor.Isa
end
