import Derived.Test.YtjmiaemabhlnjaaGreatDoorTopInv
import Derived.Test.YtjmiaemabhlnjaaGreatDoorShelf
import Derived.Test.YtjmiaemabhlnjaaGreatDoorProg
import Derived.WalkKit
import Derived.DeepKeys4
import Derived.Shelf.Abstract
set_option linter.all false
set_option maxRecDepth 100000
/-! name.rows: the map of rows, laid in whatever order. -/
namespace Go.Proofs.YtjmiaemabhlnjaaGreatDoor.Top
open Go Go.RowKit Go.YtjmiaemabhlnjaaGreatDoorMap

theorem laid : laidOutB Tryz.prog = true := by kernel_rfl
theorem row265 : (265 : TypeId) < Tryz.prog.types.size := of_decide_eq_true (by kernel_rfl)
theorem wide265 : (match Tryz.prog.underlying 265 with | some (.array _ _) | some (.struct _) => true | _ => false) = true := by kernel_rfl
theorem K265 : Maps.Keyed Tryz.prog 265 := .of_law (deep_law_laid laid (m := 3) (by omega) row265 (by kernel_rfl) wide265)

abbrev Key := Int × Int × Bool
def kv (k : Key) : Value := .agg #[.int .i64 k.1, .int .i64 k.2.1, .bool k.2.2]
def bs (l : List UInt8) : Value := .string ⟨l.toArray⟩
theorem kv_inj {k k' : Key} (h : kv k = kv k') : k = k' := by
  obtain ⟨a, b, c⟩ := k
  obtain ⟨a', b', c'⟩ := k'
  simp [kv] at h
  obtain ⟨h1, h2, h3⟩ := h
  rw [h1, h2, h3]

def conds : List UInt8 := [77, 73, 32, 69, 81, 32, 67, 83, 32, 86, 83, 32, 76, 83, 32, 76, 84, 32, 76, 69, 32, 46, 32, 80, 76, 32, 78, 69, 32, 67, 67, 32, 86, 67, 32, 72, 73, 32, 71, 69, 32, 71, 84, 32, 78, 86]
def c1 : List UInt8 := [77, 73, 32, 66, 69, 81, 32, 66, 67, 83, 32, 66, 86, 83, 32, 66, 76, 83, 32, 66, 76, 84, 32, 66, 76, 69, 32, 66, 46, 32, 66, 80, 76, 32, 66, 78, 69, 32, 66, 67, 67, 32, 66, 86, 67, 32, 66, 72, 73, 32, 66, 71, 69, 32, 66, 71, 84, 32, 66, 78, 86]
def c2 : List UInt8 := [77, 73, 32, 66, 76, 69, 81, 32, 66, 76, 67, 83, 32, 66, 76, 86, 83, 32, 66, 76, 76, 83, 32, 66, 76, 76, 84, 32, 66, 76, 76, 69, 32, 66, 76, 46, 32, 66, 76, 80, 76, 32, 66, 76, 78, 69, 32, 66, 76, 67, 67, 32, 66, 76, 86, 67, 32, 66, 76, 72, 73, 32, 66, 76, 71, 69, 32, 66, 76, 71, 84, 32, 66, 76, 78, 86]

/-- The rows, by the operation that lays each in. -/
def rowsAt : List (Nat × Key × List UInt8) := [
  (2, ((1, 0, false), [77, 79, 86, 32, 76, 83, 76, 32, 65, 83, 82, 32, 82, 79, 82, 32, 65, 78, 68, 32, 65, 78, 78, 32, 73, 79, 82, 32, 88, 79, 82, 32, 65, 68, 68, 32, 83, 85, 66, 32, 77, 85, 76, 32, 68, 73, 86])),
  (4, ((1, 0, true), [77, 79, 86, 85])),
  (6, ((1, 8, true), [65, 68, 67, 32, 83, 66, 67, 32, 77, 76, 85])),
  (8, ((3, 0, false), [77, 79, 86, 72])),
  (10, ((4, 0, false), [77, 79, 86, 70])),
  (12, ((5, 0, false), [76, 68, 87, 32, 76, 68, 66, 32, 83, 84, 87, 32, 83, 84, 66])),
  (17, ((7, 0, false), [66, 77, 73, 32, 66, 69, 81, 32, 66, 67, 83, 32, 66, 86, 83, 32, 66, 76, 83, 32, 66, 76, 84, 32, 66, 76, 69, 32, 66, 46, 32, 66, 80, 76, 32, 66, 78, 69, 32, 66, 67, 67, 32, 66, 86, 67, 32, 66, 72, 73, 32, 66, 71, 69, 32, 66, 71, 84, 32, 66, 78, 86])),
  (22, ((7, 0, true), [66, 76, 77, 73, 32, 66, 76, 69, 81, 32, 66, 76, 67, 83, 32, 66, 76, 86, 83, 32, 66, 76, 76, 83, 32, 66, 76, 76, 84, 32, 66, 76, 76, 69, 32, 66, 76, 46, 32, 66, 76, 80, 76, 32, 66, 76, 78, 69, 32, 66, 76, 67, 67, 32, 66, 76, 86, 67, 32, 66, 76, 72, 73, 32, 66, 76, 71, 69, 32, 66, 76, 71, 84, 32, 66, 76, 78, 86])),
  (24, ((8, 0, false), [76, 68, 76])),
  (26, ((9, 0, false), [119, 111, 114, 100])),
  (28, ((10, 0, false), [101, 120, 112, 111, 114, 116]))]
def pv (x : Key × List UInt8) : Pair := (kv x.1, bs x.2)
def rowsL : List (Key × List UInt8) := rowsAt.map (·.2)

def dv (A : Nat) : List (Nat × Nat × Value) := [(1, 3, kv (1, 0, false)), (3, 4, kv (1, 0, true)), (5, 5, kv (1, 8, true)), (7, 6, kv (3, 0, false)), (9, 7, kv (4, 0, false)), (11, 8, kv (5, 0, false)), (13, 9, kv (7, 0, false)), (14, 10, bs conds),
  (15, 11, bs c1), (16, 12, bs (66 :: c1)), (18, 13, kv (7, 0, true)), (19, 14, bs conds), (20, 15, bs c2), (21, 16, bs (66 :: 76 :: c2)), (23, 17, kv (8, 0, false)), (25, 18, kv (9, 0, false)), (27, 19, kv (10, 0, false)), (29, 20, .map (some A)), (30, 0, .map (some A))]

theorem rep1 : Lib.replaceAll conds [32] [32, 66] = c1 := by kernel_rfl
theorem rep2 : Lib.replaceAll conds [32] [32, 66, 76] = c2 := by kernel_rfl
theorem keysL : (rowsAt.all fun p => (keyOf Tryz.prog 265 (kv p.2.1)).isSome) = true := by kernel_rfl
theorem keysN : (rowsAt.map (·.2.1)).Nodup := by decide
theorem idxN : (rowsAt.map (·.1)).Nodup := by decide


structure Inv (W : World) (A : Nat) (l : Array Bool) (a : Act) (w : World) : Prop where
  sz : l.size = 31
  tm : a.tmps.size = 21
  t1 : a.eval (.tmp 1) = bs conds
  df : a.defers = []
  bw : Below W.heap.size W w
  hz : ∀ i ∈ [2, 4, 6, 8, 10, 12, 17, 22, 24, 26, 28, 29, 30], l.getD i false = true → l.getD 0 false = true
  hA : W.heap.size ≤ A
  mp : l.getD 0 false = true → a.eval (.tmp 2) = .map (some A) ∧ MapIs w A ((laidIn l rowsAt).map pv)
  vs : ∀ p ∈ dv A, l.getD p.1 false = true → a.eval (.tmp p.2.1) = p.2.2

theorem eval_new {a : Act} {d : Nat} {v : Value} (h : d < a.tmps.size) : (a.put (some d) v).eval (.tmp d) = v := by
  simp [Act.eval, Act.put, h]
theorem eval_old {a : Act} {d e : Nat} {v : Value} (h : d ≠ e) : (a.put (some d) v).eval (.tmp e) = a.eval (.tmp e) :=
  Act.eval_put fun d' hd hx => by cases hd; cases hx; exact h rfl

theorem dvI (A : Nat) : (dv A).map (·.1) = [1, 3, 5, 7, 9, 11, 13, 14, 15, 16, 18, 19, 20, 21, 23, 25, 27, 29, 30] := rfl
theorem dvD (A : Nat) : (dv A).map (·.2.1) = [3, 4, 5, 6, 7, 8, 9, 10, 11, 12, 13, 14, 15, 16, 17, 18, 19, 20, 0] := rfl
theorem dv_uniq {A : Nat} {p q : Nat × Nat × Value} (hp : p ∈ dv A) (hq : q ∈ dv A) (h : p.1 = q.1 ∨ p.2.1 = q.2.1) : p = q := by
  have n1 : ((dv A).map (·.1)).Nodup := by rw [dvI]; decide
  have n2 : ((dv A).map (·.2.1)).Nodup := by rw [dvD]; decide
  have inj : ∀ {β : Type} {f : (Nat × Nat × Value) → β} {L : List (Nat × Nat × Value)}, (L.map f).Nodup → ∀ {x y}, x ∈ L → y ∈ L → f x = f y → x = y := by
    intro β f L
    induction L with
    | nil => intro _ x y hx; cases hx
    | cons z L ih =>
      intro hn x y hx hy he
      simp only [List.map_cons, List.nodup_cons] at hn
      rcases List.mem_cons.1 hx with rfl | hx'
      · rcases List.mem_cons.1 hy with rfl | hy'
        · rfl
        · exact absurd (by rw [he]; exact List.mem_map_of_mem hy') hn.1
      · rcases List.mem_cons.1 hy with rfl | hy'
        · exact absurd (by rw [← he]; exact List.mem_map_of_mem hx') hn.1
        · exact ih hn.2 hx' hy' he
  rcases h with h | h
  · exact inj n1 hp hq h
  · exact inj n2 hp hq h

/-- An operation that yields a value of the table. -/
theorem Inv.put {W w : World} {A : Nat} {l : Array Bool} {a : Act} (h : Inv W A l a w) {i d : Nat} {v : Value} (hi : l.getD i true = false) (hm : (i, d, v) ∈ dv A) (h0 : (29 = i ∨ 30 = i) → l.getD 0 false = true) :
    Inv W A (l.setIfInBounds i true) (a.put (some d) v) w := by
  have e1 : i ∈ [1, 3, 5, 7, 9, 11, 13, 14, 15, 16, 18, 19, 20, 21, 23, 25, 27, 29, 30] := by rw [← dvI A]; exact List.mem_map_of_mem (f := (·.1)) hm
  have e2 : d ∈ [3, 4, 5, 6, 7, 8, 9, 10, 11, 12, 13, 14, 15, 16, 17, 18, 19, 20, 0] := by rw [← dvD A]; exact List.mem_map_of_mem (f := (·.2.1)) hm
  have d1 : d ≠ 1 := by rintro rfl; revert e2; decide
  have d2 : d ≠ 2 := by rintro rfl; revert e2; decide
  have dl : d < 21 := by revert e2; revert d; intro d _ _ _ e2; simp only [List.mem_cons, List.not_mem_nil, or_false] at e2; omega
  have i0 : i ≠ 0 := by rintro rfl; revert e1; decide
  have ir : ∀ p ∈ rowsAt, p.1 ≠ i := by
    intro p hp e
    have : p.1 ∈ rowsAt.map (·.1) := List.mem_map_of_mem hp
    rw [e] at this
    have e3 : rowsAt.map (·.1) = [2, 4, 6, 8, 10, 12, 17, 22, 24, 26, 28] := rfl
    rw [e3] at this
    simp only [List.mem_cons, List.not_mem_nil, or_false] at this e1
    omega
  refine ⟨by simp [h.sz], by simp [Act.put, h.tm], by rw [eval_old d1]; exact h.t1, h.df, h.bw, fun j hj hl => ?_, h.hA, fun hl => ?_, fun p hp hl => ?_⟩
  · rw [getD_set_ne false i0]
    by_cases e : i = j
    · subst e
      refine h0 ?_
      simp only [List.mem_cons, List.not_mem_nil, or_false] at hj e1
      omega
    · rw [getD_set_ne false e] at hl
      exact h.hz j hj hl
  · rw [getD_set_ne false i0] at hl
    rw [eval_old d2, laidIn_other ir]
    exact h.mp hl
  · by_cases e : i = p.1
    · have := dv_uniq hm hp (Or.inl e)
      subst this
      exact eval_new (by rw [h.tm]; exact dl)
    · rw [getD_set_ne false e] at hl
      have : d ≠ p.2.1 := fun e' => e (congrArg (·.1) (dv_uniq hm hp (Or.inr e')))
      rw [eval_old this]
      exact h.vs p hp hl

/-- The world has grown: a call. -/
theorem Inv.grow {W w w' : World} {A : Nat} {l : Array Bool} {a : Act} (h : Inv W A l a w) (hb : Below w.heap.size w w') : Inv W A l a w' :=
  ⟨h.sz, h.tm, h.t1, h.df, h.bw.trans (hb.mono h.bw.size), h.hz, h.hA, fun hl => ⟨(h.mp hl).1, (h.mp hl).2.same (hb.block A (h.mp hl).2.lt)⟩, h.vs⟩

/-- The map is made. -/
theorem Inv.make {W w : World} {A : Nat} {l : Array Bool} {a : Act} (h : Inv W A l a w) (hi : l.getD 0 true = false) : Inv W w.heap.size (l.setIfInBounds 0 true) (a.put (some 2) (.map (some w.heap.size))) (w.alloc (.map #[] 0)) := by
  have l0 : l.getD 0 false = false := by
    have : 0 < l.size := by rw [h.sz]; omega
    rw [Array.getD_eq_getD_getElem?, Array.getElem?_eq_getElem this] at hi ⊢
    simpa using hi
  have hno : ∀ i ∈ [2, 4, 6, 8, 10, 12, 17, 22, 24, 26, 28, 29, 30], l.getD i false = false := by
    intro i hm
    cases e : l.getD i false
    · rfl
    · have := h.hz i hm e
      rw [l0] at this; cases this
  have hl0 : (l.setIfInBounds 0 true).getD 0 false = true := by simp [h.sz]
  refine ⟨by simp [h.sz], by simp [Act.put, h.tm], by rw [eval_old (by omega)]; exact h.t1, h.df, h.bw.alloc h.bw.size _, fun j hj hl => hl0, h.bw.size, fun _ => ⟨eval_new (by rw [h.tm]; omega), ?_⟩, fun p hp hl => ?_⟩
  · rw [laidIn_other (by decide), laidIn_none]
    · exact MapIs.made w
    · intro p hp
      refine hno _ ?_
      have : p.1 ∈ rowsAt.map (·.1) := List.mem_map_of_mem hp
      have e3 : rowsAt.map (·.1) = [2, 4, 6, 8, 10, 12, 17, 22, 24, 26, 28] := rfl
      rw [e3] at this
      simp only [List.mem_cons, List.not_mem_nil, or_false] at this ⊢
      omega
  · have e1 : p.1 ∈ [1, 3, 5, 7, 9, 11, 13, 14, 15, 16, 18, 19, 20, 21, 23, 25, 27, 29, 30] := by rw [← dvI w.heap.size]; exact List.mem_map_of_mem (f := (·.1)) hp
    have e2 : p.2.1 ∈ [3, 4, 5, 6, 7, 8, 9, 10, 11, 12, 13, 14, 15, 16, 17, 18, 19, 20, 0] := by rw [← dvD w.heap.size]; exact List.mem_map_of_mem (f := (·.2.1)) hp
    have i0 : 0 ≠ p.1 := by intro e; rw [← e] at e1; revert e1; decide
    have d2 : 2 ≠ p.2.1 := by intro e; rw [← e] at e2; revert e2; decide
    rw [getD_set_ne false i0] at hl
    rw [eval_old d2]
    have h29 : p.1 ≠ 29 ∧ p.1 ≠ 30 := by
      constructor <;> (intro e; rw [e, hno _ (by decide)] at hl; cases hl)
    have : p ∈ dv A := by
      simp only [dv, List.mem_cons, List.not_mem_nil, or_false] at hp ⊢
      rcases hp with rfl | rfl | rfl | rfl | rfl | rfl | rfl | rfl | rfl | rfl | rfl | rfl | rfl | rfl | rfl | rfl | rfl | rfl | rfl
      all_goals first | (exfalso; omega) | simp
    exact h.vs p this hl

/-- A row is laid in. -/
theorem Inv.lay {W w : World} {A : Nat} {l : Array Bool} {a : Act} (h : Inv W A l a w) {i : Nat} {x : Key × List UInt8} (hi : l.getD i true = false) (hm : (i, x) ∈ rowsAt) (h0 : l.getD 0 false = true) :
    ∃ w', (Instr.mapUpdate 262 (.map (some A)) (kv x.1) (bs x.2)).run Tryz.prog w = .ok () w' ∧ Inv W A (l.setIfInBounds i true) a w' := by
  obtain ⟨g1, g2⟩ := h.mp h0
  have hk : ∀ p ∈ rowsAt, ∃ kl, keyOf Tryz.prog 265 (kv p.2.1) = some kl := fun p hp => Option.isSome_iff_exists.1 (List.all_eq_true.1 keysL p hp)
  obtain ⟨kl, hkl⟩ := hk _ hm
  have hlt : i < 31 := by
    rcases Nat.lt_or_ge i 31 with h' | h'
    · exact h'
    · rw [Array.getD_eq_getD_getElem?, Array.getElem?_eq_none (by rw [h.sz]; exact h')] at hi
      simp at hi
  have li : l.getD i false = false := by
    rw [Array.getD_eq_getD_getElem?, Array.getElem?_eq_getElem (by rw [h.sz]; exact hlt)] at hi ⊢
    simpa using hi
  have e1 : i ∈ [2, 4, 6, 8, 10, 12, 17, 22, 24, 26, 28] := by
    have e3 : rowsAt.map (·.1) = [2, 4, 6, 8, 10, 12, 17, 22, 24, 26, 28] := rfl
    rw [← e3]; exact List.mem_map_of_mem (f := (·.1)) hm
  have i0 : i ≠ 0 := by rintro rfl; revert e1; decide
  have k1 : ∀ p ∈ (laidIn l rowsAt).map pv, ∃ kl, keyOf Tryz.prog 265 p.1 = some kl := by
    intro p hp
    obtain ⟨y, hy, rfl⟩ := List.mem_map.1 hp
    obtain ⟨j, hj, _⟩ := laidIn_sub hy
    exact hk _ hj
  have k2 : ∀ p ∈ (laidIn l rowsAt).map pv, p.1 ≠ kv x.1 := by
    intro p hp
    obtain ⟨y, hy, rfl⟩ := List.mem_map.1 hp
    obtain ⟨j, hj, hlj⟩ := laidIn_sub hy
    intro e
    have e := kv_inj e
    have : (j, y) = (i, x) := by
      have inj : ∀ {L : List (Nat × Key × List UInt8)}, (L.map (·.2.1)).Nodup → ∀ {x y}, x ∈ L → y ∈ L → x.2.1 = y.2.1 → x = y := by
        intro L
        induction L with
        | nil => intro _ x y hx; cases hx
        | cons z L ih =>
          intro hn x y hx hy he
          simp only [List.map_cons, List.nodup_cons] at hn
          rcases List.mem_cons.1 hx with rfl | hx'
          · rcases List.mem_cons.1 hy with rfl | hy'
            · rfl
            · exact absurd (by rw [he]; exact List.mem_map_of_mem hy') hn.1
          · rcases List.mem_cons.1 hy with rfl | hy'
            · exact absurd (by rw [← he]; exact List.mem_map_of_mem hx') hn.1
            · exact ih hn.2 hx' hy' he
      exact inj keysN hj hm e
    cases this
    rw [li] at hlj
    cases hlj
  obtain ⟨w', r1, r2, r3, r4⟩ := g2.insert K265 Tryz.underlying262 (key := kv x.1) (val := bs x.2) hkl k1 k2
  · refine ⟨w', r1, by simp [h.sz], h.tm, h.t1, h.df, h.bw.grown r3 h.bw.size (fun k hk => by cases hk; exact h.hA), fun j hj hl => ?_, h.hA, fun _ => ⟨g1, r2.perm ?_⟩, fun p hp hl => ?_⟩
    · rw [getD_set_ne false i0]; exact h0
    · have := (laidIn_new hi idxN hm).map pv
      exact this
    · refine h.vs p hp ?_
      have e4 : p.1 ∈ [1, 3, 5, 7, 9, 11, 13, 14, 15, 16, 18, 19, 20, 21, 23, 25, 27, 29, 30] := by rw [← dvI A]; exact List.mem_map_of_mem (f := (·.1)) hp
      have : i ≠ p.1 := by
        simp only [List.mem_cons, List.not_mem_nil, or_false] at e1 e4
        omega
      rwa [getD_set_ne false this] at hl
end Go.Proofs.YtjmiaemabhlnjaaGreatDoor.Top
