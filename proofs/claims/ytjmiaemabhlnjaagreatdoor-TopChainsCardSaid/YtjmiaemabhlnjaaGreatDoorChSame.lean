import Derived.Test.YtjmiaemabhlnjaaGreatDoorChUnpack
set_option linter.all false
set_option maxRecDepth 20000
/-! object.Same, of objects that read the same: true. -/
namespace Go.Proofs.YtjmiaemabhlnjaaGreatDoor.Chains
open Go Go.RowKit
/-- A box of three slices. -/
structure Box (w : World) (g : Nat) (x y z : Value) : Prop where
  c0 : w.cell? ⟨g, 0, none⟩ = some x
  c1 : w.cell? ⟨g, 1, none⟩ = some y
  c2 : w.cell? ⟨g, 2, none⟩ = some z
theorem Box.keep {w w' : World} {g : Nat} {x y z : Value} (h : Box w g x y z) (k : Bl w w') : Box w' g x y z := ⟨k.cell h.c0, k.cell h.c1, k.cell h.c2⟩
theorem Box.new (w : World) (x y z : Value) (T : TypeId) : Box (w.alloc (.cells #[x, y, z] T)) w.heap.size x y z :=
  ⟨by rw [World.cell?_alloc_at _ _ _ _ rfl]; rfl, by rw [World.cell?_alloc_at _ _ _ _ rfl]; rfl, by rw [World.cell?_alloc_at _ _ _ _ rfl]; rfl⟩
set_option maxHeartbeats 4000000 in
theorem same_any {w : World} {A A' B B' C C' : Option Addr} {c c' d d' f f' : Nat} {l : List Int} {S : List Nat} {Y : List (ByteArray × Int)} (n m k : Nat)
    (hA : Aside (Rd w A c l)) (hA' : Aside (Rd w A' c' l)) (hn : Aside (l.length = n)) (hB : Aside (RdI w B d S)) (hB' : Aside (RdI w B' d' S)) (hm : Aside (S.length = m))
    (hC : Aside (RdS w C f Y)) (hC' : Aside (RdS w C' f' Y)) (hk : Aside (Y.length = k)) (hn9 : n ≤ 1000) (hm9 : m ≤ 1000) (hk9 : k ≤ 1000) :
    Calls Tryz.prog 13 #[.agg #[.slice A n c, .slice B m d, .slice C k f], .agg #[.slice A' n c', .slice B' m d', .slice C' k f']] w fun e w' => e = .returned (.bool true) ∧ Bl w w' := by
  have H1 : Aside (∀ wx, Bl w wx → Calls Tryz.prog 36 #[.slice A n c, .slice A' n c'] wx fun e w' => e = .returned (.bool true) ∧ Bl wx w') := ⟨fun wx hb => eq32_any ⟨hA.out.keep hb⟩ ⟨hA'.out.keep hb⟩ n hn (by omega)⟩
  have H2 : Aside (∀ wx, Bl w wx → Calls Tryz.prog 37 #[.slice B m d, .slice B' m d'] wx fun e w' => e = .returned (.bool true) ∧ Bl wx w') := ⟨fun wx hb => eqI_any ⟨hB.out.keep hb⟩ ⟨hB'.out.keep hb⟩ m hm (by omega)⟩
  have H3 : Aside (∀ wx, Bl w wx → Calls Tryz.prog 38 #[.slice C k f, .slice C' k f'] wx fun e w' => e = .returned (.bool true) ∧ Bl wx w') := ⟨fun wx hb => eqS_any ⟨hC.out.keep hb⟩ ⟨hC'.out.keep hb⟩ k hk (by omega)⟩
  have X1 := Aside.mk ((Box.new w (.slice A n c) (.slice B m d) (.slice C k f) 34).keep ((Bl.refl _).alloc (.cells #[.slice A' n c', .slice B' m d', .slice C' k f'] 34)))
  have X2 := Aside.mk (Box.new (w.alloc (.cells #[.slice A n c, .slice B m d, .slice C k f] 34)) (.slice A' n c') (.slice B' m d') (.slice C' k f') 34)
  have HW := Aside.mk (((Bl.refl w).alloc (.cells #[.slice A n c, .slice B m d, .slice C k f] 34)).alloc (.cells #[.slice A' n c', .slice B' m d', .slice C' k f'] 34))
  rw [show (w.alloc (.cells #[.slice A n c, .slice B m d, .slice C k f] 34)).heap.size = w.heap.size + 1 by simp] at X2
  go_enter Tryz.func13, Tryz.ntmps13
  go_wp2_with (first
    | (with_reducible refine (H1.out _ HW.out).mono ?_; rintro e w1 ⟨rfl, hb⟩
       have XA := X1.out.keep hb
       have XB := X2.out.keep hb
       have HW1 := Aside.mk (HW.out.trans hb)
       obtain ⟨xa0, xa1, xa2⟩ := XA
       obtain ⟨xb0, xb1, xb2⟩ := XB
       clear hb)
    | (with_reducible refine (H2.out _ HW1.out).mono ?_; rintro e w2 ⟨rfl, hb⟩
       have xa2' := hb.cell xa2
       have xb2' := hb.cell xb2
       have HW2 := Aside.mk (HW1.out.trans hb)
       clear hb xa0 xa1 xa2 xb0 xb1 xb2)
    | (with_reducible refine (H3.out _ HW2.out).mono ?_; rintro e w3 ⟨rfl, hb⟩
       have HW3 := Aside.mk (HW2.out.trans hb)
       clear hb)
    | fail)
  go_ret
  exact ⟨rfl, HW3.out⟩
end Go.Proofs.YtjmiaemabhlnjaaGreatDoor.Chains
