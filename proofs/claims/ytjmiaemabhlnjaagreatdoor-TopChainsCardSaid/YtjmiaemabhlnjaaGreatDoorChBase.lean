import Derived.Test.YtjmiaemabhlnjaaGreatDoorSites
import Derived.Laws.OwnMore
set_option linter.all false
/-! Rows of words: what is read, what may be written; the chain's law. -/
namespace Go.Proofs.YtjmiaemabhlnjaaGreatDoor.Chains
open Go Go.RowKit

/-- All that was there at W is as it was. -/
structure Bl (W w : World) : Prop where mk :: (out : Below W.heap.size W w)
theorem Bl.then {W w w' : World} (h : Bl W w) (k : Below w.heap.size w w') : Bl W w' :=
  ⟨h.out.trans ⟨k.os, k.tape, k.output, k.size, fun i hi => k.block i (Nat.lt_of_lt_of_le hi h.out.size)⟩⟩
theorem Bl.trans {W w w' : World} (h : Bl W w) (k : Bl w w') : Bl W w' := h.then k.out
theorem Bl.drew {W w : World} (h : Bl W w) : Bl W w.drew := ⟨h.out.drew⟩
theorem Bl.alloc {W w : World} (h : Bl W w) (o : Obj) : Bl W (w.alloc o) := ⟨h.out.alloc h.out.size o⟩
theorem Bl.refl (W : World) : Bl W W := ⟨Below.refl _ _⟩
theorem Bl.cell {W w : World} (h : Bl W w) {a : Addr} {v : Value} (hc : W.cell? a = some v) : w.cell? a = some v :=
  (h.out.cell (World.block_lt_of_cell? W a hc)).trans hc
theorem Bl.puts {W w : World} (h : Bl W w) {p : Addr} (hp : W.heap.size ≤ p.block) (v : Value) : Bl W (w.setCell p v) := ⟨h.out.setCell hp v⟩
theorem Bl.grow {W wr w2 : World} {row : Option Nat} (h : Bl W wr) (hg : wr.grownBy w2 row) (hr : ∀ g, row = some g → W.heap.size ≤ g) : Bl W w2 :=
  ⟨h.out.grown hg h.out.size hr⟩
theorem own_bl {w w' : World} {base : Nat} {e : TypeId} {size n : Nat} {v : Value} {xs : List Value} (h : w.ownsRow base e size v n xs) (k : Bl w w') : w'.ownsRow base e size v n xs := by
  obtain ⟨h1, h2⟩ := h
  refine ⟨h1, ?_⟩
  rcases h2 with h2 | ⟨g, cap, cur, hv, hg, hh, r⟩
  · exact .inl h2
  · refine .inr ⟨g, cap, cur, hv, hg, ?_, r⟩
    have hlt : g < w.heap.size := by
      rcases Nat.lt_or_ge g w.heap.size with h | h
      · exact h
      · rw [Array.getElem?_eq_none h] at hh; cases hh
    rw [k.out.block g hlt]; exact hh

/-- Words as values. -/
def u32s (l : List Int) : List Value := l.map (Value.int .u32)
/-- A slice of words that reads as l. -/
structure Rd (w : World) (A : Option Addr) (c : Nat) (l : List Int) : Prop where
  le : l.length ≤ c
  mx : c ≤ maxLen
  nil : A = none → l = [] ∧ c = 0
  cells : ∀ ad, A = some ad → ∀ j x, l[j]? = some x → w.cell? (ad.add j) = some (.int .u32 x)
theorem Rd.keep {w w' : World} {A : Option Addr} {c : Nat} {l : List Int} (h : Rd w A c l) (k : Bl w w') : Rd w' A c l :=
  ⟨h.le, h.mx, h.nil, fun ad ha j u hj => k.cell (h.cells ad ha j u hj)⟩
theorem Rd.take {w : World} {A : Option Addr} {c : Nat} {l : List Int} (h : Rd w A c l) (k : Nat) : Rd w A c (l.take k) :=
  ⟨Nat.le_trans (by simp; omega) h.le, h.mx, fun e => by obtain ⟨rfl, hc⟩ := h.nil e; exact ⟨by simp, hc⟩, fun ad ha j u hj => h.cells ad ha j u (by
    rw [List.getElem?_take] at hj
    split at hj
    · exact hj
    · cases hj)⟩
/-- A row of words of one's own, in block g: it may be written. (A row of no words need not be one's own.) -/
structure Ow (w : World) (base g n cap : Nat) (l : List Int) : Prop where
  len : l.length = n
  le : n ≤ cap
  mx : cap ≤ maxLen
  own : 0 < n → base ≤ g ∧ w.ownsRow base 56 1 (.slice (some ⟨g, 0, none⟩) n cap) n (u32s l)
theorem Ow.keep {w w' : World} {base g n cap : Nat} {l : List Int} (h : Ow w base g n cap l) (k : Bl w w') : Ow w' base g n cap l :=
  ⟨h.len, h.le, h.mx, fun hn => ⟨(h.own hn).1, own_bl (h.own hn).2 k⟩⟩
theorem Ow.down {w : World} {base b2 g n cap : Nat} {l : List Int} (h : Ow w base g n cap l) (hb : b2 ≤ base) : Ow w b2 g n cap l :=
  ⟨h.len, h.le, h.mx, fun hn => ⟨Nat.le_trans hb (h.own hn).1, by
    obtain ⟨h1, h2⟩ := (h.own hn).2
    refine ⟨h1, ?_⟩
    rcases h2 with h2 | ⟨g', cap', cur, hv, hg, r⟩
    · exact .inl h2
    · exact .inr ⟨g', cap', cur, hv, Nat.le_trans hb hg, r⟩⟩⟩
theorem Ow.at {w : World} {base g n cap : Nat} {l : List Int} (h : Ow w base g n cap l) {j : Nat} {x : Int} (hx : l[j]? = some x) : w.cell? ⟨g, j, none⟩ = some (.int .u32 x) ∧ w.frozen? ⟨g, j, none⟩ = false ∧ base ≤ g := by
  have hj : j < n := by rw [← h.len]; exact (List.getElem?_eq_some_iff.1 hx).1
  obtain ⟨hb, ho⟩ := h.own (by omega)
  refine ⟨?_, ho.frozenAt j, hb⟩
  rw [ho.cellAt j (by omega)]
  simp [u32s, List.getElem?_map, hx]
theorem Ow.put {w : World} {base g n cap : Nat} {l : List Int} (h : Ow w base g n cap l) (j : Nat) (x : Int) : Ow (w.setCell ⟨g, j, none⟩ (.int .u32 x)) base g n cap (l.set j x) :=
  ⟨by simpa using h.len, h.le, h.mx, fun hn => ⟨(h.own hn).1, by
    have := ((h.own hn).2.stored j (.int .u32 x)).1
    simpa [u32s, List.map_set] using this⟩⟩
theorem Ow.rd {w : World} {base g n cap : Nat} {l : List Int} (h : Ow w base g n cap l) : Rd w (some ⟨g, 0, none⟩) cap l :=
  ⟨by rw [h.len]; exact h.le, h.mx, fun e => (by cases e), fun ad ha j x hx => by
    obtain rfl := Option.some.inj ha
    have e : (⟨g, 0, none⟩ : Addr).add j = ⟨g, j, none⟩ := by unfold Addr.add; split <;> simp_all
    rw [e]
    exact (h.at hx).1⟩

theorem or16 : ((List.range 161).all fun x => (List.range 41).all fun h => bits .or .u32 ((x : Int) * 65536) (h : Int) == (x : Int) * 65536 + (h : Int)) = true := by kernel_rfl
theorem or16_at {x : Int} {h : Nat} (h0 : 0 ≤ x) (h1 : x ≤ 160) (h2 : h ≤ 40) : bits .or .u32 (x * 65536) (h : Int) = x * 65536 + (h : Int) := by
  obtain ⟨n, rfl⟩ : ∃ n : Nat, x = n := ⟨x.toNat, by omega⟩
  exact eq_of_beq (List.all_eq_true.1 (List.all_eq_true.1 or16 n (List.mem_range.2 (by omega))) h (List.mem_range.2 (by omega)))
theorem and16 : ((List.range 161).all fun x => (List.range 41).all fun h => bits .and .u32 ((x : Int) * 65536 + (h : Int)) 65535 == (h : Int)) = true := by kernel_rfl
theorem and16_at {x : Int} {h : Nat} (h0 : 0 ≤ x) (h1 : x ≤ 160) (h2 : h ≤ 40) : bits .and .u32 (x * 65536 + (h : Int)) 65535 = (h : Int) := by
  obtain ⟨n, rfl⟩ : ∃ n : Nat, x = n := ⟨x.toNat, by omega⟩
  exact eq_of_beq (List.all_eq_true.1 (List.all_eq_true.1 and16 n (List.mem_range.2 (by omega))) h (List.mem_range.2 (by omega)))

/-- Whole numbers. -/
structure RdI (w : World) (A : Option Addr) (c : Nat) (l : List Nat) : Prop where
  le : l.length ≤ c
  nil : A = none → l = [] ∧ c = 0
  cells : ∀ ad, A = some ad → ∀ j (x : Nat), l[j]? = some x → w.cell? (ad.add j) = some (.int .i64 (x : Int))
theorem RdI.keep {w w' : World} {A : Option Addr} {c : Nat} {l : List Nat} (h : RdI w A c l) (k : Bl w w') : RdI w' A c l :=
  ⟨h.le, h.nil, fun ad ha j u hj => k.cell (h.cells ad ha j u hj)⟩
theorem RdI.own {w : World} {base : Nat} {v : Value} {l : List Nat} (h : w.ownsRow base 3 1 v l.length (ints l)) : ∃ A c, v = .slice A l.length c ∧ RdI w A c l := by
  obtain ⟨h1, h2⟩ := h
  rcases h2 with ⟨rfl, h0⟩ | ⟨g, cap, cur, rfl, hg, hh, hl, hm, hs, ht⟩
  · have : l = [] := List.eq_nil_of_length_eq_zero h0
    subst this
    exact ⟨none, 0, rfl, ⟨by simp, fun _ => ⟨rfl, rfl⟩, fun _ h => (by cases h)⟩⟩
  · refine ⟨_, cap, rfl, ⟨hl, fun h => (by cases h), fun ad ha j u hj => ?_⟩⟩
    obtain rfl := Option.some.inj ha
    have ho : w.ownsRow base 3 1 (.slice (some ⟨g, 0, none⟩) l.length cap) l.length (ints l) := ⟨h1, .inr ⟨g, cap, cur, rfl, hg, hh, hl, hm, hs, ht⟩⟩
    exact ho.cells (g := g) rfl j _ (by simp [ints, List.getElem?_map, hj])
end Go.Proofs.YtjmiaemabhlnjaaGreatDoor.Chains
