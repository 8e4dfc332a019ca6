/-
  isa.read: the instruction that a word looks like.
-/
import Derived.Test.YtnilkljibdjjgaaLay
import Derived.Deep.RegionWith
namespace Go.Proofs.Ytnilkljibdjjgaa.Isa
open Go.RowKit Go.Proofs.Ytnilkljibdjjgaa.FieldM Go.Proofs.Ytnilkljibdjjgaa.Field

theorem rget_any (w : Nat) (a n : Int) (B : Nat) (W : World) (hw : w < 4294967296) (hn : n ≤ 9223372036854775807) (hB : W.cell? ⟨B, 0, none⟩ = some (.int .u32 w)) :
   Calls Try.prog 33 #[.int .i64 a, .int .i64 n, .pointer (some ⟨B, 0, none⟩)] W fun e w' => e = .returned (.int .i64 (getN w a n)) ∧ Bl W w' := by
  have hl := getN_lt w a n
  have H := Field.Aside.mk fun wx => get_any w a n wx hw hn
  generalize getN w a n = r at *
  go_enter Try.func33, Try.ntmps33
  go_wp2_with (go_at_call 19; refine (H.out _).mono ?_; rintro e w1 ⟨rfl, hb⟩)
  go_ret
  exact ⟨rfl, ⟨hb⟩⟩
/-- The closure over the word in the box at B, at whatever world keeps W. -/
theorem rget_c (w : Nat) (a n : Int) (r : Int) (B : Nat) (W : World) (hw : w < 4294967296) (hn : n ≤ 9223372036854775807) (hB : W.cell? ⟨B, 0, none⟩ = some (.int .u32 w)) (hr : (getN w a n : Int) = r) :
   Field.Aside (∀ wx, Bl W wx → Calls Try.prog 33 #[.int .i64 a, .int .i64 n, .pointer (some ⟨B, 0, none⟩)] wx fun e w' => e = .returned (.int .i64 r) ∧ Bl wx w') :=
  ⟨fun wx h => (rget_any w a n B wx hw hn (h.cell hB)).mono fun _ _ ⟨h1, h2⟩ => ⟨by rw [h1, hr], h2⟩⟩

/-- The box of the instruction that is being read. -/
structure IBox (g : Nat) (kd op a b c im : Int) (u : Bool) (w : World) : Prop where
  i0 : w.cell? ⟨g, 0, none⟩ = some (.int .i64 kd)
  i1 : w.cell? ⟨g, 1, none⟩ = some (.int .i64 op)
  i2 : w.cell? ⟨g, 2, none⟩ = some (.int .i64 a)
  i3 : w.cell? ⟨g, 3, none⟩ = some (.int .i64 b)
  i4 : w.cell? ⟨g, 4, none⟩ = some (.int .i64 c)
  i5 : w.cell? ⟨g, 5, none⟩ = some (.int .i64 im)
  i6 : w.cell? ⟨g, 6, none⟩ = some (.bool u)
  fz : ∀ j, w.frozen? ⟨g, j, none⟩ = false
theorem IBox.lt {g : Nat} {kd op a b c im : Int} {u : Bool} {w : World} (h : IBox g kd op a b c im u w) : g < w.heap.size := World.block_lt_of_cell? w ⟨g, 0, none⟩ h.i0
theorem IBox.keep {g : Nat} {kd op a b c im : Int} {u : Bool} {w w' : World} (h : IBox g kd op a b c im u w) (k : Bl w w') : IBox g kd op a b c im u w' :=
  ⟨k.cell h.i0, k.cell h.i1, k.cell h.i2, k.cell h.i3, k.cell h.i4, k.cell h.i5, k.cell h.i6, fun j => (k.out.frozen (p := ⟨g, j, none⟩) h.lt).trans (h.fz j)⟩
theorem IBox.new (w : World) (kd op a b c im : Int) (u : Bool) (T : TypeId) : IBox w.heap.size kd op a b c im u (w.alloc (.cells #[.int .i64 kd, .int .i64 op, .int .i64 a, .int .i64 b, .int .i64 c, .int .i64 im, .bool u] T)) :=
  ⟨by rw [World.cell?_alloc_at _ _ _ _ rfl]; rfl, by rw [World.cell?_alloc_at _ _ _ _ rfl]; rfl, by rw [World.cell?_alloc_at _ _ _ _ rfl]; rfl, by rw [World.cell?_alloc_at _ _ _ _ rfl]; rfl, by rw [World.cell?_alloc_at _ _ _ _ rfl]; rfl,
    by rw [World.cell?_alloc_at _ _ _ _ rfl]; rfl, by rw [World.cell?_alloc_at _ _ _ _ rfl]; rfl, fun j => World.frozen?_alloc_at _ _ _ _ rfl⟩
theorem Bl.puts {W w : World} (h : Bl W w) {p : Addr} (hp : W.heap.size ≤ p.block) (v : Value) : Bl W (w.setCell p v) := ⟨h.out.setCell hp v⟩
theorem IBox.set0 {g : Nat} {kd op a b c im : Int} {u : Bool} {w : World} (h : IBox g kd op a b c im u w) (kd' : Int) : IBox g kd' op a b c im u (w.setCell ⟨g, 0, none⟩ (.int .i64 kd')) :=
  ⟨World.cell?_setCell_same _ _ _ h.i0, (World.cell?_setCell_other _ _ _ _ (by simp)).trans h.i1, (World.cell?_setCell_other _ _ _ _ (by simp)).trans h.i2, (World.cell?_setCell_other _ _ _ _ (by simp)).trans h.i3, (World.cell?_setCell_other _ _ _ _ (by simp)).trans h.i4, (World.cell?_setCell_other _ _ _ _ (by simp)).trans h.i5, (World.cell?_setCell_other _ _ _ _ (by simp)).trans h.i6, fun j => by rw [World.frozen?_setCell]; exact h.fz j⟩
theorem IBox.set4 {g : Nat} {kd op a b c im : Int} {u : Bool} {w : World} (h : IBox g kd op a b c im u w) (c' : Int) : IBox g kd op a b c' im u (w.setCell ⟨g, 4, none⟩ (.int .i64 c')) :=
  ⟨(World.cell?_setCell_other _ _ _ _ (by simp)).trans h.i0, (World.cell?_setCell_other _ _ _ _ (by simp)).trans h.i1, (World.cell?_setCell_other _ _ _ _ (by simp)).trans h.i2, (World.cell?_setCell_other _ _ _ _ (by simp)).trans h.i3, World.cell?_setCell_same _ _ _ h.i4, (World.cell?_setCell_other _ _ _ _ (by simp)).trans h.i5, (World.cell?_setCell_other _ _ _ _ (by simp)).trans h.i6, fun j => by rw [World.frozen?_setCell]; exact h.fz j⟩

end Go.Proofs.Ytnilkljibdjjgaa.Isa
