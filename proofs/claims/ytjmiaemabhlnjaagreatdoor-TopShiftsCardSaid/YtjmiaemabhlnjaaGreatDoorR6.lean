/- A part of the proof of TopShifts. -/
import Derived.Test.YtjmiaemabhlnjaaGreatDoorR5
import Derived.Deep.RegionHeld3
import Derived.Deep.DeepCutAuto
section
set_option linter.all false
set_option maxRecDepth 20000
namespace Go.Proofs.YtjmiaemabhlnjaaGreatDoor.Isa
open Go.RowKit Go.Proofs.YtjmiaemabhlnjaaGreatDoor.FieldM Go.Proofs.YtjmiaemabhlnjaaGreatDoor.Field
theorem keep3 {W2 w:World} {A0 A1 A2:Addr} {v0 v1 v2:Value} (q0:W2.cell? A0=some v0) (q1:W2.cell? A1=some v1) (q2:W2.cell? A2=some v2) (h:Bl W2 w):w.cell? A0=some v0∧w.cell? A1=some v1∧w.cell? A2=some v2 :=
 ⟨h.cell q0,h.cell q1,h.cell q2⟩
def Laid (w0 wx:World) (a b op:Int) (s3 s4 s5 s6:Value):Prop :=
 ∃g3 g4 g5 g6:Nat,s3=.pointer (some ⟨g3,0,none⟩)∧s4=.pointer (some ⟨g4,0,none⟩)∧s5=.pointer (some ⟨g5,0,none⟩)∧s6=.pointer (some ⟨g6,0,none⟩)∧Bl w0 wx ∧
  wx.cell? ⟨g3,0,none⟩=some (.int .i64 24)∧wx.cell? ⟨g3,1,none⟩=some (.int .i64 4)∧wx.cell? ⟨g3,2,none⟩=some (.int .i64 a)∧wx.cell? ⟨g4,0,none⟩=some (.int .i64 20)∧wx.cell? ⟨g4,1,none⟩=some (.int .i64 4)∧wx.cell? ⟨g4,2,none⟩=some (.int .i64 b)∧wx.cell? ⟨g5,0,none⟩=some (.int .i64 16)∧wx.cell? ⟨g5,1,none⟩=some (.int .i64 4)∧wx.cell? ⟨g5,2,none⟩=some (.int .i64 op)∧wx.cell? ⟨g6,0,none⟩=some (.int .i64 24)∧wx.cell? ⟨g6,1,none⟩=some (.int .i64 4)∧wx.cell? ⟨g6,2,none⟩=some (.int .i64 op)
theorem keepAll {W2 w:World} {A0:Addr} {v0:Value} {A1:Addr} {v1:Value} {A2:Addr} {v2:Value} {A3:Addr} {v3:Value} {A4:Addr} {v4:Value} {A5:Addr} {v5:Value} {A6:Addr} {v6:Value} {A7:Addr} {v7:Value} {A8:Addr} {v8:Value} {A9:Addr} {v9:Value} {A10:Addr} {v10:Value} {A11:Addr} {v11:Value} {A12:Addr} {v12:Value} {A13:Addr} {v13:Value} {A14:Addr} {v14:Value} {A15:Addr} {v15:Value} {A16:Addr} {v16:Value} (q0:W2.cell? A0=some v0) (q1:W2.cell? A1=some v1) (q2:W2.cell? A2=some v2) (q3:W2.cell? A3=some v3) (q4:W2.cell? A4=some v4) (q5:W2.cell? A5=some v5) (q6:W2.cell? A6=some v6) (q7:W2.cell? A7=some v7) (q8:W2.cell? A8=some v8) (q9:W2.cell? A9=some v9) (q10:W2.cell? A10=some v10) (q11:W2.cell? A11=some v11) (q12:W2.cell? A12=some v12) (q13:W2.cell? A13=some v13) (q14:W2.cell? A14=some v14) (q15:W2.cell? A15=some v15) (q16:W2.cell? A16=some v16) (h:Bl W2 w):Bl W2 w∧w.cell? A0=some v0∧w.cell? A1=some v1∧w.cell? A2=some v2∧w.cell? A3=some v3∧w.cell? A4=some v4∧w.cell? A5=some v5∧w.cell? A6=some v6∧w.cell? A7=some v7∧w.cell? A8=some v8∧w.cell? A9=some v9∧w.cell? A10=some v10∧w.cell? A11=some v11∧w.cell? A12=some v12∧w.cell? A13=some v13∧w.cell? A14=some v14∧w.cell? A15=some v15∧w.cell? A16=some v16 :=
 ⟨h,h.cell q0,h.cell q1,h.cell q2,h.cell q3,h.cell q4,h.cell q5,h.cell q6,h.cell q7,h.cell q8,h.cell q9,h.cell q10,h.cell q11,h.cell q12,h.cell q13,h.cell q14,h.cell q15,h.cell q16⟩
theorem lay2 (x0 x1 x2 x3 x4 x5:Int) (T:TypeId) (wx:World) (hbig:x1≤32∧x4≤32) :
 Calls Tryz.prog 116 #[.slice (some ⟨wx.heap.size,0,none⟩) 2 2] (wx.alloc (.cells #[.int .i64 x0,.int .i64 x1,.int .i64 x2,.int .i64 x3,.int .i64 x4,.int .i64 x5] T)) fun e w'=>e=.returned (.int .u32 (layN [(x0,x1,x2),(x3,x4,x5)] 0))∧Bl wx w':=by
 have hrow:RowAt (wx.alloc (.cells #[.int .i64 x0,.int .i64 x1,.int .i64 x2,.int .i64 x3,.int .i64 x4,.int .i64 x5] T)) wx.heap.size [(x0,x1,x2),(x3,x4,x5)]:=by
  intro k f hf
  match k,hf with
  | 0,hf=>simp at hf;subst hf;exact ⟨by rw [World.cell?_alloc_at _ _ _ _ rfl];rfl,by rw [World.cell?_alloc_at _ _ _ _ rfl];rfl,by rw [World.cell?_alloc_at _ _ _ _ rfl];rfl⟩
  | 1,hf=>simp at hf;subst hf;exact ⟨by rw [World.cell?_alloc_at _ _ _ _ rfl];rfl,by rw [World.cell?_alloc_at _ _ _ _ rfl];rfl,by rw [World.cell?_alloc_at _ _ _ _ rfl];rfl⟩
  | k+2,hf=>simp at hf
 refine (lay_any _ wx.heap.size 2 2 _ (by omega) rfl ?_ hrow).mono fun e w' ⟨h1,h2⟩=>⟨h1,((Bl.refl wx).alloc _).then h2.out⟩;intro f hf;simp at hf
 rcases hf with rfl | rfl<;>simp<;>omega
theorem lay3 (x0 x1 x2 x3 x4 x5 x6 x7 x8:Int) (T:TypeId) (wx:World) (hbig:x1≤32∧x4≤32∧x7≤32) :
 Calls Tryz.prog 116 #[.slice (some ⟨wx.heap.size,0,none⟩) 3 3] (wx.alloc (.cells #[.int .i64 x0,.int .i64 x1,.int .i64 x2,.int .i64 x3,.int .i64 x4,.int .i64 x5,.int .i64 x6,.int .i64 x7,.int .i64 x8] T)) fun e w'=>e=.returned (.int .u32 (layN [(x0,x1,x2),(x3,x4,x5),(x6,x7,x8)] 0))∧Bl wx w':=by
 have hrow:RowAt (wx.alloc (.cells #[.int .i64 x0,.int .i64 x1,.int .i64 x2,.int .i64 x3,.int .i64 x4,.int .i64 x5,.int .i64 x6,.int .i64 x7,.int .i64 x8] T)) wx.heap.size [(x0,x1,x2),(x3,x4,x5),(x6,x7,x8)]:=by
  intro k f hf
  match k,hf with
  | 0,hf=>simp at hf;subst hf;exact ⟨by rw [World.cell?_alloc_at _ _ _ _ rfl];rfl,by rw [World.cell?_alloc_at _ _ _ _ rfl];rfl,by rw [World.cell?_alloc_at _ _ _ _ rfl];rfl⟩
  | 1,hf=>simp at hf;subst hf;exact ⟨by rw [World.cell?_alloc_at _ _ _ _ rfl];rfl,by rw [World.cell?_alloc_at _ _ _ _ rfl];rfl,by rw [World.cell?_alloc_at _ _ _ _ rfl];rfl⟩
  | 2,hf=>simp at hf;subst hf;exact ⟨by rw [World.cell?_alloc_at _ _ _ _ rfl];rfl,by rw [World.cell?_alloc_at _ _ _ _ rfl];rfl,by rw [World.cell?_alloc_at _ _ _ _ rfl];rfl⟩
  | k+3,hf=>simp at hf
 refine (lay_any _ wx.heap.size 3 3 _ (by omega) rfl ?_ hrow).mono fun e w' ⟨h1,h2⟩=>⟨h1,((Bl.refl wx).alloc _).then h2.out⟩;intro f hf;simp at hf
 rcases hf with rfl | rfl | rfl<;>simp<;>omega
theorem lay4 (x0 x1 x2 x3 x4 x5 x6 x7 x8 x9 x10 x11:Int) (T:TypeId) (wx:World) (hbig:x1≤32∧x4≤32∧x7≤32∧x10≤32) :
 Calls Tryz.prog 116 #[.slice (some ⟨wx.heap.size,0,none⟩) 4 4] (wx.alloc (.cells #[.int .i64 x0,.int .i64 x1,.int .i64 x2,.int .i64 x3,.int .i64 x4,.int .i64 x5,.int .i64 x6,.int .i64 x7,.int .i64 x8,.int .i64 x9,.int .i64 x10,.int .i64 x11] T)) fun e w'=>e=.returned (.int .u32 (layN [(x0,x1,x2),(x3,x4,x5),(x6,x7,x8),(x9,x10,x11)] 0))∧Bl wx w':=by
 have hrow:RowAt (wx.alloc (.cells #[.int .i64 x0,.int .i64 x1,.int .i64 x2,.int .i64 x3,.int .i64 x4,.int .i64 x5,.int .i64 x6,.int .i64 x7,.int .i64 x8,.int .i64 x9,.int .i64 x10,.int .i64 x11] T)) wx.heap.size [(x0,x1,x2),(x3,x4,x5),(x6,x7,x8),(x9,x10,x11)]:=by
  intro k f hf
  match k,hf with
  | 0,hf=>simp at hf;subst hf;exact ⟨by rw [World.cell?_alloc_at _ _ _ _ rfl];rfl,by rw [World.cell?_alloc_at _ _ _ _ rfl];rfl,by rw [World.cell?_alloc_at _ _ _ _ rfl];rfl⟩
  | 1,hf=>simp at hf;subst hf;exact ⟨by rw [World.cell?_alloc_at _ _ _ _ rfl];rfl,by rw [World.cell?_alloc_at _ _ _ _ rfl];rfl,by rw [World.cell?_alloc_at _ _ _ _ rfl];rfl⟩
  | 2,hf=>simp at hf;subst hf;exact ⟨by rw [World.cell?_alloc_at _ _ _ _ rfl];rfl,by rw [World.cell?_alloc_at _ _ _ _ rfl];rfl,by rw [World.cell?_alloc_at _ _ _ _ rfl];rfl⟩
  | 3,hf=>simp at hf;subst hf;exact ⟨by rw [World.cell?_alloc_at _ _ _ _ rfl];rfl,by rw [World.cell?_alloc_at _ _ _ _ rfl];rfl,by rw [World.cell?_alloc_at _ _ _ _ rfl];rfl⟩
  | k+4,hf=>simp at hf
 refine (lay_any _ wx.heap.size 4 4 _ (by omega) rfl ?_ hrow).mono fun e w' ⟨h1,h2⟩=>⟨h1,((Bl.refl wx).alloc _).then h2.out⟩;intro f hf;simp at hf
 rcases hf with rfl | rfl | rfl | rfl<;>simp<;>omega
theorem lay5 (x0 x1 x2 x3 x4 x5 x6 x7 x8 x9 x10 x11 x12 x13 x14:Int) (T:TypeId) (wx:World) (hbig:x1≤32∧x4≤32∧x7≤32∧x10≤32∧x13≤32) :
 Calls Tryz.prog 116 #[.slice (some ⟨wx.heap.size,0,none⟩) 5 5] (wx.alloc (.cells #[.int .i64 x0,.int .i64 x1,.int .i64 x2,.int .i64 x3,.int .i64 x4,.int .i64 x5,.int .i64 x6,.int .i64 x7,.int .i64 x8,.int .i64 x9,.int .i64 x10,.int .i64 x11,.int .i64 x12,.int .i64 x13,.int .i64 x14] T)) fun e w'=>e=.returned (.int .u32 (layN [(x0,x1,x2),(x3,x4,x5),(x6,x7,x8),(x9,x10,x11),(x12,x13,x14)] 0))∧Bl wx w':=by
 have hrow:RowAt (wx.alloc (.cells #[.int .i64 x0,.int .i64 x1,.int .i64 x2,.int .i64 x3,.int .i64 x4,.int .i64 x5,.int .i64 x6,.int .i64 x7,.int .i64 x8,.int .i64 x9,.int .i64 x10,.int .i64 x11,.int .i64 x12,.int .i64 x13,.int .i64 x14] T)) wx.heap.size [(x0,x1,x2),(x3,x4,x5),(x6,x7,x8),(x9,x10,x11),(x12,x13,x14)]:=by
  intro k f hf
  match k,hf with
  | 0,hf=>simp at hf;subst hf;exact ⟨by rw [World.cell?_alloc_at _ _ _ _ rfl];rfl,by rw [World.cell?_alloc_at _ _ _ _ rfl];rfl,by rw [World.cell?_alloc_at _ _ _ _ rfl];rfl⟩
  | 1,hf=>simp at hf;subst hf;exact ⟨by rw [World.cell?_alloc_at _ _ _ _ rfl];rfl,by rw [World.cell?_alloc_at _ _ _ _ rfl];rfl,by rw [World.cell?_alloc_at _ _ _ _ rfl];rfl⟩
  | 2,hf=>simp at hf;subst hf;exact ⟨by rw [World.cell?_alloc_at _ _ _ _ rfl];rfl,by rw [World.cell?_alloc_at _ _ _ _ rfl];rfl,by rw [World.cell?_alloc_at _ _ _ _ rfl];rfl⟩
  | 3,hf=>simp at hf;subst hf;exact ⟨by rw [World.cell?_alloc_at _ _ _ _ rfl];rfl,by rw [World.cell?_alloc_at _ _ _ _ rfl];rfl,by rw [World.cell?_alloc_at _ _ _ _ rfl];rfl⟩
  | 4,hf=>simp at hf;subst hf;exact ⟨by rw [World.cell?_alloc_at _ _ _ _ rfl];rfl,by rw [World.cell?_alloc_at _ _ _ _ rfl];rfl,by rw [World.cell?_alloc_at _ _ _ _ rfl];rfl⟩
  | k+5,hf=>simp at hf
 refine (lay_any _ wx.heap.size 5 5 _ (by omega) rfl ?_ hrow).mono fun e w' ⟨h1,h2⟩=>⟨h1,((Bl.refl wx).alloc _).then h2.out⟩;intro f hf;simp at hf
 rcases hf with rfl | rfl | rfl | rfl | rfl<;>simp<;>omega
theorem b2i_true:b2i true=1:=rfl
theorem b2i_false:b2i false=0:=rfl
def wordL (kd op a b c im:Int) (u:Bool):List (Int×Int×Int) :=
 if kd=1 then [(28,4,b2i u*2),(24,4,a),(20,4,b),(16,4,op),(0,4,c)]
 else if kd=2 then [(28,4,4+b2i u*2+b2i (decide (im<0))),(24,4,a),(20,4,b),(16,4,op),(0,16,im)]
 else if kd=3 then [(28,4,2),(24,4,a)]
 else if kd=4 then [(28,4,3),(24,4,a)]
 else if kd=5 then [(28,4,8+b2i (decide (2≤op))*2+b2i (op%2==1)),(24,4,a),(20,4,b),(0,20,im)]
 else if kd=6 then [(28,4,12+b2i u),(24,4,op),(0,4,c)]
 else [(28,4,14+b2i u),(24,4,op),(0,24,im)]
set_option maxHeartbeats 80000000 in
set_option maxRecDepth 1000000 in
theorem word_any (kd op a b c im:Int) (u:Bool) (w:World) (h1:1≤kd) (h7:kd≤7) (o0:0≤op) (_o1:op≤15) :
 Calls Tryz.prog 82 #[.agg #[.int .i64 kd,.int .i64 op,.int .i64 a,.int .i64 b,.int .i64 c,.int .i64 im,.bool u]] w fun e w'=>e=.returned (.int .u32 (layN (wordL kd op a b c im u) 0))∧Bl w w':=by
 go_enter Tryz.func82,Tryz.ntmps82
 go_wp2_with fail
 obtain ⟨W1,hW1⟩:∃W1,W1=w.alloc (.cells #[.int .i64 kd,.int .i64 op,.int .i64 a,.int .i64 b,.int .i64 c,.int .i64 im,.bool u] 72):=⟨_,rfl⟩
 have f0:W1.cell? ⟨w.heap.size,0,none⟩=some (.int .i64 kd):=by rw [hW1,World.cell?_alloc_at _ _ _ _ rfl];rfl
 have f1:W1.cell? ⟨w.heap.size,1,none⟩=some (.int .i64 op):=by rw [hW1,World.cell?_alloc_at _ _ _ _ rfl];rfl
 have f2:W1.cell? ⟨w.heap.size,2,none⟩=some (.int .i64 a):=by rw [hW1,World.cell?_alloc_at _ _ _ _ rfl];rfl
 have f3:W1.cell? ⟨w.heap.size,3,none⟩=some (.int .i64 b):=by rw [hW1,World.cell?_alloc_at _ _ _ _ rfl];rfl
 have f4:W1.cell? ⟨w.heap.size,4,none⟩=some (.int .i64 c):=by rw [hW1,World.cell?_alloc_at _ _ _ _ rfl];rfl
 have f5:W1.cell? ⟨w.heap.size,5,none⟩=some (.int .i64 im):=by rw [hW1,World.cell?_alloc_at _ _ _ _ rfl];rfl
 have f6:W1.cell? ⟨w.heap.size,6,none⟩=some (.bool u):=by rw [hW1,World.cell?_alloc_at _ _ _ _ rfl];rfl
 have hs:w.heap.size<W1.heap.size:=by rw [hW1];simp
 rw [←hW1];have F0:=Field.Aside.mk f0;have F1:=Field.Aside.mk f1;have F2:=Field.Aside.mk f2;have F3:=Field.Aside.mk f3;have F4:=Field.Aside.mk f4;have F5:=Field.Aside.mk f5;have F6:=Field.Aside.mk f6;have HW:=Field.Aside.mk hW1;clear hW1 f0 f4 f5 f6
 go_cut [3,4,5,6] (fun s3 s4 s5 s6 wx=>Laid W1 wx a b op s3 s4 s5 s6)
 case first =>
  go_region_held3 (fun w'=>w'.cell? ⟨w.heap.size,1,none⟩=some (.int .i64 op)∧w'.cell? ⟨w.heap.size,2,none⟩=some (.int .i64 a)∧w'.cell? ⟨w.heap.size,3,none⟩=some (.int .i64 b)) ((refine keep3 F1.out F2.out F3.out ?_;repeat (first | exact Bl.refl _ | apply Bl.drew | apply Bl.alloc | (apply Bl.set;simp;try omega)))) (fail)
  all_goals (try go_wp2_with fail)
  all_goals go_meet
  all_goals (refine ⟨_,_,_,_,rfl,rfl,rfl,rfl,?_,?_,?_,?_,?_,?_,?_,?_,?_,?_,?_,?_,?_⟩)
  all_goals (first | (go_simp;done) | (repeat (first | exact Bl.refl _ | apply Bl.drew | apply Bl.alloc | (apply Bl.set;simp;try omega))))
 case rest =>
  obtain ⟨g3,g4,g5,g6,rfl,rfl,rfl,rfl,hb,r0,r1,r2,r3,r4,r5,r6,r7,r8,r9,r10,r11⟩:=hcut;have q0:=hb.cell F1.out;have q1:=hb.cell F4.out;have q2:=hb.cell F5.out;have q3:=hb.cell F6.out;have qk:=hb.cell F0.out;have HWB:Field.Aside (Bl w wc):=⟨⟨by have:=HW.out;subst this;exact ((Below.refl _ _).alloc (Nat.le_refl _) _).trans ⟨hb.out.os,hb.out.tape,hb.out.output,hb.out.size,fun i hi=>hb.out.block i (by simp;omega)⟩⟩⟩
  have Qqk:=Field.Aside.mk qk;have Qq0:=Field.Aside.mk q0;have Qq1:=Field.Aside.mk q1;have Qq2:=Field.Aside.mk q2;have Qq3:=Field.Aside.mk q3;have Qr0:=Field.Aside.mk r0;have Qr1:=Field.Aside.mk r1;have Qr2:=Field.Aside.mk r2;have Qr3:=Field.Aside.mk r3;have Qr4:=Field.Aside.mk r4;have Qr5:=Field.Aside.mk r5;have Qr6:=Field.Aside.mk r6;have Qr7:=Field.Aside.mk r7;have Qr8:=Field.Aside.mk r8;have Qr9:=Field.Aside.mk r9
  have Qr10:=Field.Aside.mk r10;have Qr11:=Field.Aside.mk r11;clear F0 F1 F2 F3 F4 F5 F6 f1 f2 f3 HW hb
  rcases (show kd=1∨kd=2∨kd=3∨kd=4∨kd=5∨kd=6∨kd=7 by omega) with rfl | rfl | rfl | rfl | rfl | rfl | rfl
  · clear q0 q1 q2 q3 r0 r1 r2 r3 r4 r5 r6 r7 r8 r9 r10 r11
    go_wp2_with fail
    go_region_held3 (fun w'=>Bl wc w'∧w'.cell? ⟨w.heap.size,0,none⟩=some (.int .i64 1)∧w'.cell? ⟨w.heap.size,1,none⟩=some (.int .i64 op)∧w'.cell? ⟨w.heap.size,4,none⟩=some (.int .i64 c)∧w'.cell? ⟨w.heap.size,5,none⟩=some (.int .i64 im)∧w'.cell? ⟨w.heap.size,6,none⟩=some (.bool u)∧w'.cell? ⟨g3,0,none⟩=some (.int .i64 24)∧w'.cell? ⟨g3,1,none⟩=some (.int .i64 4)∧w'.cell? ⟨g3,2,none⟩=some (.int .i64 a)∧w'.cell? ⟨g4,0,none⟩=some (.int .i64 20)∧w'.cell? ⟨g4,1,none⟩=some (.int .i64 4)∧w'.cell? ⟨g4,2,none⟩=some (.int .i64 b)∧w'.cell? ⟨g5,0,none⟩=some (.int .i64 16)∧w'.cell? ⟨g5,1,none⟩=some (.int .i64 4)∧w'.cell? ⟨g5,2,none⟩=some (.int .i64 op)∧w'.cell? ⟨g6,0,none⟩=some (.int .i64 24)∧w'.cell? ⟨g6,1,none⟩=some (.int .i64 4)∧w'.cell? ⟨g6,2,none⟩=some (.int .i64 op)) ((refine keepAll Qqk.out Qq0.out Qq1.out Qq2.out Qq3.out Qr0.out Qr1.out Qr2.out Qr3.out Qr4.out Qr5.out Qr6.out Qr7.out Qr8.out Qr9.out Qr10.out Qr11.out ?_;repeat (first | exact Bl.refl _ | assumption | exact And.left ‹Bl wc _∧_› | apply Bl.drew | apply Bl.alloc))) (first | (go_at_call 117;(with_reducible refine (head_any 0 _ _ _ (by simp)).mono ?_);rintro e w1 ⟨rfl,hb1⟩;have HB1:Bl wc w1:=Bl.then (by first | assumption | exact And.left ‹Bl wc _∧_› | exact Bl.refl _) hb1.out;clear hb1) | (go_at_call 116;(with_reducible refine (lay5 _ _ _ _ _ _ _ _ _ _ _ _ _ _ _ _ _ (by omega)).mono ?_);rintro e w2 ⟨rfl,hb2⟩;have HB2:Bl wc w2:=Bl.then (by first | assumption | exact And.left ‹Bl wc _∧_› | exact Bl.refl _) hb2.out;clear hb2))
    all_goals (try go_wp2)
    all_goals go_ret
    refine ⟨?_,HWB.out.then (by first | assumption | exact And.left ‹Bl wc _∧_› | exact Bl.refl _:Bl wc _).out⟩;simp [wordL,b2i_true,b2i_false,Int.tmod_eq_emod_of_nonneg o0]
  · clear q0 q1 q2 q3 r0 r1 r2 r3 r4 r5 r6 r7 r8 r9 r10 r11
    go_wp2_with fail
    go_region_held3 (fun w'=>Bl wc w'∧w'.cell? ⟨w.heap.size,0,none⟩=some (.int .i64 2)∧w'.cell? ⟨w.heap.size,1,none⟩=some (.int .i64 op)∧w'.cell? ⟨w.heap.size,4,none⟩=some (.int .i64 c)∧w'.cell? ⟨w.heap.size,5,none⟩=some (.int .i64 im)∧w'.cell? ⟨w.heap.size,6,none⟩=some (.bool u)∧w'.cell? ⟨g3,0,none⟩=some (.int .i64 24)∧w'.cell? ⟨g3,1,none⟩=some (.int .i64 4)∧w'.cell? ⟨g3,2,none⟩=some (.int .i64 a)∧w'.cell? ⟨g4,0,none⟩=some (.int .i64 20)∧w'.cell? ⟨g4,1,none⟩=some (.int .i64 4)∧w'.cell? ⟨g4,2,none⟩=some (.int .i64 b)∧w'.cell? ⟨g5,0,none⟩=some (.int .i64 16)∧w'.cell? ⟨g5,1,none⟩=some (.int .i64 4)∧w'.cell? ⟨g5,2,none⟩=some (.int .i64 op)∧w'.cell? ⟨g6,0,none⟩=some (.int .i64 24)∧w'.cell? ⟨g6,1,none⟩=some (.int .i64 4)∧w'.cell? ⟨g6,2,none⟩=some (.int .i64 op)) ((refine keepAll Qqk.out Qq0.out Qq1.out Qq2.out Qq3.out Qr0.out Qr1.out Qr2.out Qr3.out Qr4.out Qr5.out Qr6.out Qr7.out Qr8.out Qr9.out Qr10.out Qr11.out ?_;repeat (first | exact Bl.refl _ | assumption | exact And.left ‹Bl wc _∧_› | apply Bl.drew | apply Bl.alloc))) (first | (go_at_call 117;(with_reducible refine (head_any 1 _ _ _ (by simp)).mono ?_);rintro e w1 ⟨rfl,hb1⟩;have HB1:Bl wc w1:=Bl.then (by first | assumption | exact And.left ‹Bl wc _∧_› | exact Bl.refl _) hb1.out;clear hb1) | (go_at_call 116;(with_reducible refine (lay5 _ _ _ _ _ _ _ _ _ _ _ _ _ _ _ _ _ (by omega)).mono ?_);rintro e w2 ⟨rfl,hb2⟩;have HB2:Bl wc w2:=Bl.then (by first | assumption | exact And.left ‹Bl wc _∧_› | exact Bl.refl _) hb2.out;clear hb2))
    all_goals (try go_wp2)
    all_goals go_ret
    refine ⟨?_,HWB.out.then (by first | assumption | exact And.left ‹Bl wc _∧_› | exact Bl.refl _:Bl wc _).out⟩;simp [wordL,b2i_true,b2i_false,Int.tmod_eq_emod_of_nonneg o0]
  · clear q0 q1 q2 q3 r0 r1 r2 r3 r4 r5 r6 r7 r8 r9 r10 r11
    go_wp2_with fail
    go_region_held3 (fun w'=>Bl wc w'∧w'.cell? ⟨w.heap.size,0,none⟩=some (.int .i64 3)∧w'.cell? ⟨w.heap.size,1,none⟩=some (.int .i64 op)∧w'.cell? ⟨w.heap.size,4,none⟩=some (.int .i64 c)∧w'.cell? ⟨w.heap.size,5,none⟩=some (.int .i64 im)∧w'.cell? ⟨w.heap.size,6,none⟩=some (.bool u)∧w'.cell? ⟨g3,0,none⟩=some (.int .i64 24)∧w'.cell? ⟨g3,1,none⟩=some (.int .i64 4)∧w'.cell? ⟨g3,2,none⟩=some (.int .i64 a)∧w'.cell? ⟨g4,0,none⟩=some (.int .i64 20)∧w'.cell? ⟨g4,1,none⟩=some (.int .i64 4)∧w'.cell? ⟨g4,2,none⟩=some (.int .i64 b)∧w'.cell? ⟨g5,0,none⟩=some (.int .i64 16)∧w'.cell? ⟨g5,1,none⟩=some (.int .i64 4)∧w'.cell? ⟨g5,2,none⟩=some (.int .i64 op)∧w'.cell? ⟨g6,0,none⟩=some (.int .i64 24)∧w'.cell? ⟨g6,1,none⟩=some (.int .i64 4)∧w'.cell? ⟨g6,2,none⟩=some (.int .i64 op)) ((refine keepAll Qqk.out Qq0.out Qq1.out Qq2.out Qq3.out Qr0.out Qr1.out Qr2.out Qr3.out Qr4.out Qr5.out Qr6.out Qr7.out Qr8.out Qr9.out Qr10.out Qr11.out ?_;repeat (first | exact Bl.refl _ | assumption | exact And.left ‹Bl wc _∧_› | apply Bl.drew | apply Bl.alloc))) (first | (go_at_call 117;(with_reducible refine (head_any 0 _ _ _ (by simp)).mono ?_);rintro e w1 ⟨rfl,hb1⟩;have HB1:Bl wc w1:=Bl.then (by first | assumption | exact And.left ‹Bl wc _∧_› | exact Bl.refl _) hb1.out;clear hb1) | (go_at_call 116;(with_reducible refine (lay2 _ _ _ _ _ _ _ _ (by omega)).mono ?_);rintro e w2 ⟨rfl,hb2⟩;have HB2:Bl wc w2:=Bl.then (by first | assumption | exact And.left ‹Bl wc _∧_› | exact Bl.refl _) hb2.out;clear hb2))
    all_goals (try go_wp2)
    all_goals go_ret
    refine ⟨?_,HWB.out.then (by first | assumption | exact And.left ‹Bl wc _∧_› | exact Bl.refl _:Bl wc _).out⟩;simp [wordL,b2i_true,b2i_false,Int.tmod_eq_emod_of_nonneg o0]
  · clear q0 q1 q2 q3 r0 r1 r2 r3 r4 r5 r6 r7 r8 r9 r10 r11
    go_wp2_with fail
    go_region_held3 (fun w'=>Bl wc w'∧w'.cell? ⟨w.heap.size,0,none⟩=some (.int .i64 4)∧w'.cell? ⟨w.heap.size,1,none⟩=some (.int .i64 op)∧w'.cell? ⟨w.heap.size,4,none⟩=some (.int .i64 c)∧w'.cell? ⟨w.heap.size,5,none⟩=some (.int .i64 im)∧w'.cell? ⟨w.heap.size,6,none⟩=some (.bool u)∧w'.cell? ⟨g3,0,none⟩=some (.int .i64 24)∧w'.cell? ⟨g3,1,none⟩=some (.int .i64 4)∧w'.cell? ⟨g3,2,none⟩=some (.int .i64 a)∧w'.cell? ⟨g4,0,none⟩=some (.int .i64 20)∧w'.cell? ⟨g4,1,none⟩=some (.int .i64 4)∧w'.cell? ⟨g4,2,none⟩=some (.int .i64 b)∧w'.cell? ⟨g5,0,none⟩=some (.int .i64 16)∧w'.cell? ⟨g5,1,none⟩=some (.int .i64 4)∧w'.cell? ⟨g5,2,none⟩=some (.int .i64 op)∧w'.cell? ⟨g6,0,none⟩=some (.int .i64 24)∧w'.cell? ⟨g6,1,none⟩=some (.int .i64 4)∧w'.cell? ⟨g6,2,none⟩=some (.int .i64 op)) ((refine keepAll Qqk.out Qq0.out Qq1.out Qq2.out Qq3.out Qr0.out Qr1.out Qr2.out Qr3.out Qr4.out Qr5.out Qr6.out Qr7.out Qr8.out Qr9.out Qr10.out Qr11.out ?_;repeat (first | exact Bl.refl _ | assumption | exact And.left ‹Bl wc _∧_› | apply Bl.drew | apply Bl.alloc))) (first | (go_at_call 117;(with_reducible refine (head_any 0 _ _ _ (by simp)).mono ?_);rintro e w1 ⟨rfl,hb1⟩;have HB1:Bl wc w1:=Bl.then (by first | assumption | exact And.left ‹Bl wc _∧_› | exact Bl.refl _) hb1.out;clear hb1) | (go_at_call 116;(with_reducible refine (lay2 _ _ _ _ _ _ _ _ (by omega)).mono ?_);rintro e w2 ⟨rfl,hb2⟩;have HB2:Bl wc w2:=Bl.then (by first | assumption | exact And.left ‹Bl wc _∧_› | exact Bl.refl _) hb2.out;clear hb2))
    all_goals (try go_wp2)
    all_goals go_ret
    refine ⟨?_,HWB.out.then (by first | assumption | exact And.left ‹Bl wc _∧_› | exact Bl.refl _:Bl wc _).out⟩;simp [wordL,b2i_true,b2i_false,Int.tmod_eq_emod_of_nonneg o0]
  · clear q0 q1 q2 q3 r0 r1 r2 r3 r4 r5 r6 r7 r8 r9 r10 r11
    go_wp2_with fail
    go_region_held3 (fun w'=>Bl wc w'∧w'.cell? ⟨w.heap.size,0,none⟩=some (.int .i64 5)∧w'.cell? ⟨w.heap.size,1,none⟩=some (.int .i64 op)∧w'.cell? ⟨w.heap.size,4,none⟩=some (.int .i64 c)∧w'.cell? ⟨w.heap.size,5,none⟩=some (.int .i64 im)∧w'.cell? ⟨w.heap.size,6,none⟩=some (.bool u)∧w'.cell? ⟨g3,0,none⟩=some (.int .i64 24)∧w'.cell? ⟨g3,1,none⟩=some (.int .i64 4)∧w'.cell? ⟨g3,2,none⟩=some (.int .i64 a)∧w'.cell? ⟨g4,0,none⟩=some (.int .i64 20)∧w'.cell? ⟨g4,1,none⟩=some (.int .i64 4)∧w'.cell? ⟨g4,2,none⟩=some (.int .i64 b)∧w'.cell? ⟨g5,0,none⟩=some (.int .i64 16)∧w'.cell? ⟨g5,1,none⟩=some (.int .i64 4)∧w'.cell? ⟨g5,2,none⟩=some (.int .i64 op)∧w'.cell? ⟨g6,0,none⟩=some (.int .i64 24)∧w'.cell? ⟨g6,1,none⟩=some (.int .i64 4)∧w'.cell? ⟨g6,2,none⟩=some (.int .i64 op)) ((refine keepAll Qqk.out Qq0.out Qq1.out Qq2.out Qq3.out Qr0.out Qr1.out Qr2.out Qr3.out Qr4.out Qr5.out Qr6.out Qr7.out Qr8.out Qr9.out Qr10.out Qr11.out ?_;repeat (first | exact Bl.refl _ | assumption | exact And.left ‹Bl wc _∧_› | apply Bl.drew | apply Bl.alloc))) (first | (go_at_call 117;(with_reducible refine (head_any 2 _ _ _ (by simp)).mono ?_);rintro e w1 ⟨rfl,hb1⟩;have HB1:Bl wc w1:=Bl.then (by first | assumption | exact And.left ‹Bl wc _∧_› | exact Bl.refl _) hb1.out;clear hb1) | (go_at_call 116;(with_reducible refine (lay4 _ _ _ _ _ _ _ _ _ _ _ _ _ _ (by omega)).mono ?_);rintro e w2 ⟨rfl,hb2⟩;have HB2:Bl wc w2:=Bl.then (by first | assumption | exact And.left ‹Bl wc _∧_› | exact Bl.refl _) hb2.out;clear hb2))
    all_goals (try go_wp2)
    all_goals go_ret
    refine ⟨?_,HWB.out.then (by first | assumption | exact And.left ‹Bl wc _∧_› | exact Bl.refl _:Bl wc _).out⟩;simp [wordL,b2i_true,b2i_false,Int.tmod_eq_emod_of_nonneg o0]
  · clear q0 q1 q2 q3 r0 r1 r2 r3 r4 r5 r6 r7 r8 r9 r10 r11
    go_wp2_with fail
    go_region_held3 (fun w'=>Bl wc w'∧w'.cell? ⟨w.heap.size,0,none⟩=some (.int .i64 6)∧w'.cell? ⟨w.heap.size,1,none⟩=some (.int .i64 op)∧w'.cell? ⟨w.heap.size,4,none⟩=some (.int .i64 c)∧w'.cell? ⟨w.heap.size,5,none⟩=some (.int .i64 im)∧w'.cell? ⟨w.heap.size,6,none⟩=some (.bool u)∧w'.cell? ⟨g3,0,none⟩=some (.int .i64 24)∧w'.cell? ⟨g3,1,none⟩=some (.int .i64 4)∧w'.cell? ⟨g3,2,none⟩=some (.int .i64 a)∧w'.cell? ⟨g4,0,none⟩=some (.int .i64 20)∧w'.cell? ⟨g4,1,none⟩=some (.int .i64 4)∧w'.cell? ⟨g4,2,none⟩=some (.int .i64 b)∧w'.cell? ⟨g5,0,none⟩=some (.int .i64 16)∧w'.cell? ⟨g5,1,none⟩=some (.int .i64 4)∧w'.cell? ⟨g5,2,none⟩=some (.int .i64 op)∧w'.cell? ⟨g6,0,none⟩=some (.int .i64 24)∧w'.cell? ⟨g6,1,none⟩=some (.int .i64 4)∧w'.cell? ⟨g6,2,none⟩=some (.int .i64 op)) ((refine keepAll Qqk.out Qq0.out Qq1.out Qq2.out Qq3.out Qr0.out Qr1.out Qr2.out Qr3.out Qr4.out Qr5.out Qr6.out Qr7.out Qr8.out Qr9.out Qr10.out Qr11.out ?_;repeat (first | exact Bl.refl _ | assumption | exact And.left ‹Bl wc _∧_› | apply Bl.drew | apply Bl.alloc))) (first | (go_at_call 117;(with_reducible refine (head_any 3 _ _ _ (by simp)).mono ?_);rintro e w1 ⟨rfl,hb1⟩;have HB1:Bl wc w1:=Bl.then (by first | assumption | exact And.left ‹Bl wc _∧_› | exact Bl.refl _) hb1.out;clear hb1) | (go_at_call 116;(with_reducible refine (lay3 _ _ _ _ _ _ _ _ _ _ _ (by omega)).mono ?_);rintro e w2 ⟨rfl,hb2⟩;have HB2:Bl wc w2:=Bl.then (by first | assumption | exact And.left ‹Bl wc _∧_› | exact Bl.refl _) hb2.out;clear hb2))
    all_goals (try go_wp2)
    all_goals go_ret
    refine ⟨?_,HWB.out.then (by first | assumption | exact And.left ‹Bl wc _∧_› | exact Bl.refl _:Bl wc _).out⟩;simp [wordL,b2i_true,b2i_false,Int.tmod_eq_emod_of_nonneg o0]
  · clear q0 q1 q2 q3 r0 r1 r2 r3 r4 r5 r6 r7 r8 r9 r10 r11
    go_wp2_with fail
    go_region_held3 (fun w'=>Bl wc w'∧w'.cell? ⟨w.heap.size,0,none⟩=some (.int .i64 7)∧w'.cell? ⟨w.heap.size,1,none⟩=some (.int .i64 op)∧w'.cell? ⟨w.heap.size,4,none⟩=some (.int .i64 c)∧w'.cell? ⟨w.heap.size,5,none⟩=some (.int .i64 im)∧w'.cell? ⟨w.heap.size,6,none⟩=some (.bool u)∧w'.cell? ⟨g3,0,none⟩=some (.int .i64 24)∧w'.cell? ⟨g3,1,none⟩=some (.int .i64 4)∧w'.cell? ⟨g3,2,none⟩=some (.int .i64 a)∧w'.cell? ⟨g4,0,none⟩=some (.int .i64 20)∧w'.cell? ⟨g4,1,none⟩=some (.int .i64 4)∧w'.cell? ⟨g4,2,none⟩=some (.int .i64 b)∧w'.cell? ⟨g5,0,none⟩=some (.int .i64 16)∧w'.cell? ⟨g5,1,none⟩=some (.int .i64 4)∧w'.cell? ⟨g5,2,none⟩=some (.int .i64 op)∧w'.cell? ⟨g6,0,none⟩=some (.int .i64 24)∧w'.cell? ⟨g6,1,none⟩=some (.int .i64 4)∧w'.cell? ⟨g6,2,none⟩=some (.int .i64 op)) ((refine keepAll Qqk.out Qq0.out Qq1.out Qq2.out Qq3.out Qr0.out Qr1.out Qr2.out Qr3.out Qr4.out Qr5.out Qr6.out Qr7.out Qr8.out Qr9.out Qr10.out Qr11.out ?_;repeat (first | exact Bl.refl _ | assumption | exact And.left ‹Bl wc _∧_› | apply Bl.drew | apply Bl.alloc))) (first | (go_at_call 117;(with_reducible refine (head_any 3 _ _ _ (by simp)).mono ?_);rintro e w1 ⟨rfl,hb1⟩;have HB1:Bl wc w1:=Bl.then (by first | assumption | exact And.left ‹Bl wc _∧_› | exact Bl.refl _) hb1.out;clear hb1) | (go_at_call 116;(with_reducible refine (lay3 _ _ _ _ _ _ _ _ _ _ _ (by omega)).mono ?_);rintro e w2 ⟨rfl,hb2⟩;have HB2:Bl wc w2:=Bl.then (by first | assumption | exact And.left ‹Bl wc _∧_› | exact Bl.refl _) hb2.out;clear hb2))
    all_goals (try go_wp2)
    all_goals go_ret
    refine ⟨?_,HWB.out.then (by first | assumption | exact And.left ‹Bl wc _∧_› | exact Bl.refl _:Bl wc _).out⟩;simp [wordL,b2i_true,b2i_false,Int.tmod_eq_emod_of_nonneg o0]
end Go.Proofs.YtjmiaemabhlnjaaGreatDoor.Isa
end
