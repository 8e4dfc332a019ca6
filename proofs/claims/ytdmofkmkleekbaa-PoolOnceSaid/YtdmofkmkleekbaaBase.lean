/-
  Package pool: rows of values as lists, how they lie in memory, and that they stay where nothing old is changed.
-/
import Derived.Test.YtdmofkmkleekbaaProg
import Derived.Test.YtdmofkmkleekbaaWEqStruct
import Derived.WalkKit
import Derived.KernelRfl
import Derived.RowKit3
import Derived.Deep.LoopGhost
import Derived.Deep.QuietTactic
import Derived.BigQuiet
import Derived.OwnWalk
import Derived.RegionTactic
import Derived.ChangeAlike
import Derived.Below
import Derived.Deep.RegionLawGrows
import Derived.Deep.RegionHeld3
namespace Go.Proofs.Ytdmofkmkleekbaa.Pool
open Go Go.RowKit

/-- A fact that the walk does not rewrite with. -/
structure Aside (q : Prop) : Prop where mk :: (out : q)
/-- All that was there at W is as it was. -/
structure Bl (W w : World) : Prop where mk :: (out : Below W.heap.size W w)
theorem Bl.then {W w w' : World} (h : Bl W w) (k : Below w.heap.size w w') : Bl W w' :=
  ⟨h.out.trans ⟨k.os, k.tape, k.output, k.size, fun i hi => k.block i (Nat.lt_of_lt_of_le hi h.out.size)⟩⟩
theorem Bl.trans {W w w' : World} (h : Bl W w) (k : Bl w w') : Bl W w' := h.then k.out
theorem Bl.drew {W w : World} (h : Bl W w) : Bl W w.drew := ⟨h.out.drew⟩
theorem Bl.alloc {W w : World} (h : Bl W w) (o : Obj) : Bl W (w.alloc o) := ⟨h.out.alloc h.out.size o⟩
theorem Bl.refl (W : World) : Bl W W := ⟨Below.refl _ _⟩
theorem Bl.cell {W w : World} (h : Bl W w) {a : Addr} {v : Value} (hc : W.cell? a = some v) : w.cell? a = some v :=
  (h.out.cell (World.block_lt_of_cell? W a hc)).trans hc
theorem Bl.puts {W w : World} (h : Bl W w) {p : Addr} (hp : W.heap.size ≤ p.block) (v : Value) : Bl W (w.setCell p v) := ⟨h.out.setCell hp v⟩
theorem Bl.grown {W w w' : World} (h : Bl W w) (g : w.grownBy w' none) : Bl W w' :=
  h.then ⟨g.os, g.tape, g.output, g.size, fun i hi => g.block i hi (by simp)⟩

/-- A row of values, as its cells. -/
def flat (l : List (Int × Int)) : List Value := l.flatMap fun x => [.int .u32 x.1, .int .i64 x.2]
theorem flat_len : ∀ l : List (Int × Int), (flat l).length = l.length * 2
  | [] => rfl
  | x :: l => by
    have := flat_len l
    simp only [flat, List.flatMap_cons, List.length_append, List.length_cons, List.length_nil] at *
    omega
theorem flat_append (a b : List (Int × Int)) : flat (a ++ b) = flat a ++ flat b := by simp [flat]
theorem flat_at : ∀ (l : List (Int × Int)) (i : Nat) (x : Int × Int), l[i]? = some x → (flat l)[i * 2]? = some (.int .u32 x.1) ∧ (flat l)[i * 2 + 1]? = some (.int .i64 x.2)
  | [], i, x, h => by simp at h
  | y :: l, 0, x, h => by
    simp at h
    subst h
    exact ⟨rfl, rfl⟩
  | y :: l, i + 1, x, h => by
    have ih := flat_at l i x (by simpa using h)
    have e : flat (y :: l) = .int .u32 y.1 :: .int .i64 y.2 :: flat l := rfl
    rw [e, show (i + 1) * 2 = i * 2 + 1 + 1 by omega]
    exact ih
theorem flat_one (l : List (Int × Int)) : ∀ u ∈ flat l, u.oneCell' = true := by
  intro u hu
  obtain ⟨x, _, hx⟩ := List.mem_flatMap.1 hu
  simp at hx
  rcases hx with rfl | rfl <;> rfl

theorem add_one (ad : Addr) (m : Nat) : ad.add (m + 1) = ⟨(ad.add m).block, (ad.add m).off + 1, none⟩ := by
  unfold Addr.add
  by_cases h : m = 0
  · subst h; simp
  · rw [if_neg (by omega), if_neg h]
    simp [Nat.add_assoc]

/-- A slice of values that reads as the list l. -/
structure Rd (w : World) (A : Option Addr) (c : Nat) (l : List (Int × Int)) : Prop where
  le : l.length ≤ c
  mx : c ≤ maxLen
  nil : A = none → l = [] ∧ c = 0
  cells : ∀ ad, A = some ad → ∀ j u, (flat l)[j]? = some u → w.cell? (ad.add j) = some u
theorem Rd.keep {w w' : World} {A : Option Addr} {c : Nat} {l : List (Int × Int)} (h : Rd w A c l) (k : Bl w w') : Rd w' A c l :=
  ⟨h.le, h.mx, h.nil, fun ad ha j u hj => k.cell (h.cells ad ha j u hj)⟩
theorem Rd.at {w : World} {ad : Addr} {c : Nat} {l : List (Int × Int)} (h : Rd w (some ad) c l) {i : Nat} {x : Int × Int} (hi : l[i]? = some x) :
    w.cell? (ad.add (i * 2)) = some (.int .u32 x.1) ∧ w.cell? ⟨(ad.add (i * 2)).block, (ad.add (i * 2)).off + 1, none⟩ = some (.int .i64 x.2) := by
  obtain ⟨h1, h2⟩ := flat_at l i x hi
  exact ⟨h.cells ad rfl _ _ h1, by rw [← add_one]; exact h.cells ad rfl _ _ h2⟩
/-- What an append has made reads as a row. -/
theorem Rd.own {w : World} {base : Nat} {v : Value} {l : List (Int × Int)} (h : w.ownsRow base 25 2 v l.length (flat l)) : ∃ A c, v = .slice A l.length c ∧ Rd w A c l ∧ ∀ ad, A = some ad → base ≤ ad.block := by
  obtain ⟨h1, h2⟩ := h
  rcases h2 with ⟨rfl, h0⟩ | ⟨g, cap, cur, rfl, hg, hh, hl, hm, hs, ht⟩
  · have : l = [] := List.eq_nil_of_length_eq_zero h0
    subst this
    exact ⟨none, 0, rfl, ⟨by simp, by decide, fun _ => ⟨rfl, rfl⟩, fun _ h => (by cases h)⟩, fun _ h => (by cases h)⟩
  · refine ⟨_, cap, rfl, ⟨hl, hm, fun h => (by cases h), fun ad ha j u hj => ?_⟩, fun ad ha => (by obtain rfl := Option.some.inj ha; exact hg)⟩
    obtain rfl := Option.some.inj ha
    have ho : w.ownsRow base 25 2 (.slice (some ⟨g, 0, none⟩) l.length cap) l.length (flat l) := ⟨h1, .inr ⟨g, cap, cur, rfl, hg, hh, hl, hm, hs, ht⟩⟩
    exact ho.cells (g := g) rfl j u hj

/-- Rows of whole numbers. -/
structure RdI (w : World) (A : Option Addr) (c : Nat) (l : List Int) : Prop where
  le : l.length ≤ c
  cells : ∀ ad, A = some ad → ∀ j x, l[j]? = some x → w.cell? (ad.add j) = some (.int .i64 x)
  nil : A = none → l = []
theorem RdI.keep {w w' : World} {A : Option Addr} {c : Nat} {l : List Int} (h : RdI w A c l) (k : Bl w w') : RdI w' A c l :=
  ⟨h.le, fun ad ha j u hj => k.cell (h.cells ad ha j u hj), h.nil⟩
theorem RdI.own {w : World} {base : Nat} {v : Value} {l : List Int} (h : w.ownsRow base 3 1 v l.length (l.map (Value.int .i64))) : ∃ A c, v = .slice A l.length c ∧ RdI w A c l := by
  obtain ⟨h1, h2⟩ := h
  rcases h2 with ⟨rfl, h0⟩ | ⟨g, cap, cur, rfl, hg, hh, hl, hm, hs, ht⟩
  · have : l = [] := List.eq_nil_of_length_eq_zero h0
    subst this
    exact ⟨none, 0, rfl, ⟨by simp, fun _ h => (by cases h), fun _ => rfl⟩⟩
  · refine ⟨_, cap, rfl, ⟨hl, fun ad ha j u hj => ?_, fun h => (by cases h)⟩⟩
    obtain rfl := Option.some.inj ha
    have ho : w.ownsRow base 3 1 (.slice (some ⟨g, 0, none⟩) l.length cap) l.length (l.map (Value.int .i64)) := ⟨h1, .inr ⟨g, cap, cur, rfl, hg, hh, hl, hm, hs, ht⟩⟩
    exact ho.cells (g := g) rfl j _ (by rw [List.getElem?_map, hj]; rfl)

/-- Two values held against each other, as one Bool. -/
theorem eqVal (d : Nat) (w : World) (x0 y0 : Int) (x1 y1 : Int) :
    (Op.equalIn (d + 2) 25 (.agg #[.int .u32 x0, .int .i64 x1]) (.agg #[.int .u32 y0, .int .i64 y1])).run Try.prog w = .ok (x0 == y0 && (x1 == y1)) w := by
  refine Go.Proofs.YtdmofkmkleekbaaW.PrintWords.eqA_of Try.underlying25 (by kernel_rfl) ?_
  refine Go.Proofs.YtdmofkmkleekbaaW.PrintWords.eqf_cons (by rfl) (by go_simp; rfl) (by go_simp; rfl) (by go_simp) ?_
  exact Go.Proofs.YtdmofkmkleekbaaW.PrintWords.eqf_last (by rfl) (by go_simp; rfl) (by go_simp; rfl) (by go_simp)

/-! What Add and Of come to. -/
def addL (l : List (Int × Int)) (x : Int × Int) : List (Int × Int) := if x ∈ l then l else l ++ [x]
def ofL (l : List (Int × Int)) : List (Int × Int) × List Int := l.foldl (fun s x => (addL s.1 x, s.2 ++ [(s.1.idxOf x : Int)])) ([], [])

theorem infoV : (Try.prog.info? 25).map (fun i => (i.zero, i.size, i.bytes)) = some (some (.agg #[.int .u32 0, .int .i64 0]), 2, 16) := by kernel_rfl
theorem infoI : (Try.prog.info? 3).map (fun i => (i.zero, i.size, i.bytes)) = some (some (.int .i64 0), 1, 8) := by kernel_rfl
end Go.Proofs.Ytdmofkmkleekbaa.Pool
