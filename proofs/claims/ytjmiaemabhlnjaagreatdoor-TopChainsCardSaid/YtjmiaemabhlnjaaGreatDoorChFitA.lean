import Derived.Test.YtjmiaemabhlnjaaGreatDoorChSame
import Derived.Deep.RegionHeld3
set_option linter.all false
set_option maxRecDepth 20000
/-! What rivetref09.Fit's walk leans on: rows of names, appends, and what holds in its loops. -/
namespace Go.Proofs.YtjmiaemabhlnjaaGreatDoor.Chains
open Go Go.RowKit
/-- A slice of strings. -/
structure RdN (w : World) (A : Option Addr) (c : Nat) (l : List ByteArray) : Prop where
  le : l.length ≤ c
  nil : A = none → l = [] ∧ c = 0
  cells : ∀ ad, A = some ad → ∀ j (x : ByteArray), l[j]? = some x → w.cell? (ad.add j) = some (.string x)
theorem RdN.keep {w w' : World} {A : Option Addr} {c : Nat} {l : List ByteArray} (h : RdN w A c l) (k : Bl w w') : RdN w' A c l :=
  ⟨h.le, h.nil, fun ad ha j u hj => k.cell (h.cells ad ha j u hj)⟩
inductive Hold (p : Prop) : Prop where | mk (h : p) : Hold p
theorem holdp {p : Prop} (h : Hold p) : p := by cases h; assumption
set_option linter.unusedSimpArgs false in
theorem append_none {P : Program} (t : TypeId) (ty : TypeId) (e : TypeId) (i : TypeInfo) (ht : P.underlying t = some (.slice e)) (hi : P.info? e = some i) (A : Option Addr) (n c d : Nat) (w : World) (hn : n ≤ c) :
    (Builtin.append_ #[t, t] ty #[.slice A n c, .slice none 0 d]).run P w = .ok (.slice A n c) w := by
  cases A <;> simp [hn, storeCells, Builtin.append_, run_underlying ht, sizeOf, typeInfo, hi, Builtin.lenOf, Builtin.firstCells, loadCells, loadCellsFrom]
/-- An append of a whole row of words to an own row that is not nil. -/
theorem append_u32 {ops : Array Oper} {rest : List Oper} {o : Oper} {a : Act} {w : World} {Q : Exit → Act → World → Prop} (hgd : o.guard = none) (s x : Operand)
    (ho : o.op = .call { callee := .builtin .append, args := #[s, x], argTypes := #[22, 22] })
    (base g : Nat) (hs : a.eval s = .slice (some ⟨g, 0, none⟩) 0 0) (hown : w.ownsRow base 56 1 (.slice (some ⟨g, 0, none⟩) 0 0) 0 [])
    (B : Option Addr) (m c : Nat) (xs : List Int) (hx : a.eval x = .slice B m c) (hm : xs.length = m) (hr : Rd w B c xs) (h63 : m ≤ 1000) (hbase : base ≤ w.heap.size)
    (h : ∀ g' cap w', Ow w' base g' m cap xs → w.grownBy w' (some g) → wpList Tryz.prog ops Q rest (a.put o.dst (.slice (some ⟨g', 0, none⟩) m cap)) w') :
    wpList Tryz.prog ops Q (o :: rest) a w := by
  obtain ⟨i0, hi, hz0, hz1, hz2⟩ := info_parts infoU
  cases B with
  | none =>
    obtain ⟨rfl, rfl⟩ := hr.nil rfl
    have hm0 : m = 0 := by simpa using hm.symm
    subst hm0
    refine wpList_plain hgd fun K hK => ?_
    have hrun := append_none (P := Tryz.prog) 22 o.type 56 i0 Tryz.underlying22 hi (some ⟨g, 0, none⟩) 0 0 0 w (Nat.le_refl _)
    unfold Oper.wp execOp
    simp only [ho, resolve, invoke, builtin, Sem.run_bind, Sem.run_pure, Result.andThen_ok, List.map_toArray, List.map_cons, List.map_nil, hs, hx, hrun]
    exact hK _ _ (h g 0 w ⟨rfl, Nat.le_refl _, Nat.zero_le _, fun hn => absurd hn (Nat.lt_irrefl _)⟩ ⟨rfl, rfl, rfl, Nat.le_refl _, fun _ _ _ => rfl⟩)
  | some ad =>
    refine wpList_append_own_at _ hgd s x 22 ho base 56 i0 (.int .u32 0) 1 4 Tryz.underlying22 hi hz0 hz1 hz2 rfl (by decide) _ 0 [] hs hown ad m c (u32s xs) hx (by simp [u32s, hm]) hr.vals (u32s_one xs) (by unfold maxLen; omega) (by omega) hbase ?_
    intro v' w' h1 h2 h3 h4
    obtain ⟨g', cap, rfl, how⟩ := own_ow (l := xs) (by simpa using h1) (fun e => by have := (h3.1 e).1; cases this)
    have how' : Ow w' base g' m cap xs := by simpa using how
    have hh := h g' cap w' how' h2
    simpa using hh
theorem Bl.blk {W w : World} (h : Bl W w) {k : Nat} (hk : k < W.heap.size) : w.heap[k]? = W.heap[k]? := h.out.block k hk
/-- The block of an object of one's own. -/
structure Bx (w : World) (g : Nat) (x y z : Value) : Prop where
  h : w.heap[g]? = some (.cells #[x, y, z] 34 (0, 0))
theorem Bx.lt {w : World} {g : Nat} {x y z : Value} (h : Bx w g x y z) : g < w.heap.size := (Array.getElem?_eq_some_iff.1 h.h).1
theorem Bx.keep {w w' : World} {g : Nat} {x y z : Value} (h : Bx w g x y z) (k : Bl w w') : Bx w' g x y z := ⟨by rw [k.blk h.lt]; exact h.h⟩
theorem Bx.new (w : World) (x y z : Value) : Bx (w.alloc (.cells #[x, y, z] 34)) w.heap.size x y z := ⟨heap_alloc_new w _⟩
theorem Bx.cell {w : World} {g : Nat} {x y z : Value} (h : Bx w g x y z) : w.cell? ⟨g, 0, none⟩ = some x ∧ w.cell? ⟨g, 1, none⟩ = some y ∧ w.cell? ⟨g, 2, none⟩ = some z :=
  ⟨by rw [cell_of_row w g 0 _ _ (0, 0) h.h]; rfl, by rw [cell_of_row w g 1 _ _ (0, 0) h.h]; rfl, by rw [cell_of_row w g 2 _ _ (0, 0) h.h]; rfl⟩
theorem Bx.frz {w : World} {g : Nat} {x y z : Value} (h : Bx w g x y z) (j : Nat) : w.frozen? ⟨g, j, none⟩ = false := frozen_of_row w g j _ _ h.h
theorem Bx.set0 {w : World} {g : Nat} {x y z : Value} (h : Bx w g x y z) (v : Value) : Bx (w.setCell ⟨g, 0, none⟩ v) g v y z := ⟨by rw [heap_setCell_same w g 0 _ _ v h.h]; rfl⟩
theorem Bx.set1 {w : World} {g : Nat} {x y z : Value} (h : Bx w g x y z) (v : Value) : Bx (w.setCell ⟨g, 1, none⟩ v) g x v z := ⟨by rw [heap_setCell_same w g 1 _ _ v h.h]; rfl⟩
theorem Bx.set2 {w : World} {g : Nat} {x y z : Value} (h : Bx w g x y z) (v : Value) : Bx (w.setCell ⟨g, 2, none⟩ v) g x y v := ⟨by rw [heap_setCell_same w g 2 _ _ v h.h]; rfl⟩
theorem Bx.off {w : World} {g : Nat} {x y z : Value} (h : Bx w g x y z) {g' : Nat} (hne : g' ≠ g) (i : Nat) (v : Value) : Bx (w.setCell ⟨g', i, none⟩ v) g x y z :=
  ⟨by rw [heap_setCell_other w ⟨g', i, none⟩ g v (fun e => hne (by simp [e]))]; exact h.h⟩
theorem cell_off {w : World} {a : Addr} {u : Value} (hc : w.cell? a = some u) {g' : Nat} (hne : a.block ≠ g') (i : Nat) (v : Value) : (w.setCell ⟨g', i, none⟩ v).cell? a = some u := by
  rw [World.cell?_of_block (heap_setCell_other w ⟨g', i, none⟩ a.block v (fun e => hne (by simp [e])))]
  exact hc
theorem add_block (ad : Addr) (j : Nat) : (ad.add j).block = ad.block := by unfold Addr.add; split <;> rfl
theorem RdI.off {w : World} {A : Option Addr} {c : Nat} {l : List Nat} (h : RdI w A c l) {g' : Nat} (hne : ∀ ad, A = some ad → ad.block ≠ g') (i : Nat) (v : Value) : RdI (w.setCell ⟨g', i, none⟩ v) A c l :=
  ⟨h.le, h.nil, fun ad ha j u hj => cell_off (h.cells ad ha j u hj) (by rw [add_block]; exact hne ad ha) i v⟩
theorem RdS.off {w : World} {A : Option Addr} {c : Nat} {l : List (ByteArray × Int)} (h : RdS w A c l) {g' : Nat} (hne : ∀ ad, A = some ad → ad.block ≠ g') (i : Nat) (v : Value) : RdS (w.setCell ⟨g', i, none⟩ v) A c l :=
  ⟨h.le, h.nil, fun ad ha j u hj => cell_off (h.cells ad ha j u hj) (by rw [add_block]; exact hne ad ha) i v⟩
theorem Ow.off {w : World} {base g n cap : Nat} {l : List Int} (h : Ow w base g n cap l) {g' : Nat} (hne : 0 < n → g ≠ g') (i : Nat) (v : Value) : Ow (w.setCell ⟨g', i, none⟩ v) base g n cap l :=
  ⟨h.len, h.le, h.mx, fun hn => ⟨(h.own hn).1, own_set (h.own hn).2 (fun e => hne hn (Option.some.inj e)) i v⟩⟩
theorem sites_rise (b : List Nat) (k n : Nat) (hk : k ≤ n) : Rise (sitesTo b k) n :=
  ⟨List.Pairwise.filter _ List.pairwise_lt_range, fun x hx => by
    have := (List.mem_filter.1 hx).1
    have := List.mem_range.1 this
    omega⟩
theorem sites_rd (w : World) (A : Option Addr) (lb cb n : Nat) (b : List Nat) (hn : n ≤ 40) (hl : b.length = lb) (hlc : lb ≤ cb) (h63 : lb ≤ 9223372036854775807)
    (hb : ∀ ad, A = some ad → ∀ (i x : Nat), b[i]? = some x → w.cell? (ad.add i) = some (.int .u8 (x : Int))) (hnil : A = none → lb = 0) (h256 : ∀ x ∈ b, x < 256) (S : List Nat) (ms : Nat) (hS : sitesTo b (min n lb) = S) (hms : S.length = ms) :
    Calls Tryz.prog 28 #[.slice A lb cb, .int .i64 n] w fun e w' => ∃ D d, e = .returned (.slice D ms d) ∧ RdI w' D d S ∧ (∀ ad, D = some ad → w.heap.size ≤ ad.block ∧ ad.block < w'.heap.size) ∧ Bl w w' := by
  refine (sites_any w A lb cb n b hn hl hlc h63 hb hnil h256).mono ?_
  rintro e w' ⟨v, rfl, ho, hbl⟩
  rw [hS] at ho
  obtain ⟨D, d, rfl, hr⟩ := RdI.own ho
  refine ⟨D, d, by rw [hms], hr, fun ad ha => ?_, ⟨hbl⟩⟩
  subst ha
  exact ho.lt _ rfl
/-- Before the sites' words are cut: what holds after j of them. -/
structure Inv1 (W0 wr : World) (gb g m cap : Nat) (D : Option Addr) (d ms : Nat) (S : List Nat) (j : Nat) : Prop where
  ex : ∃ l : List Int, Ow wr W0.heap.size g m cap l ∧ (∀ x ∈ l, 0 ≤ x ∧ x < 4294967296) ∧ ∀ s ∈ S.take j, ∀ x, l[s]? = some x → 0 ≤ x ∧ x ≤ 160
  bx : Bx wr gb (.slice (some ⟨g, 0, none⟩) m cap) (.slice D ms d) (.slice none 0 0)
  rd : RdI wr D d S
  bl : Bl W0 wr
  ne : 0 < m → g ≠ gb
  sb : ∀ ad, D = some ad → (0 < m → ad.block ≠ g) ∧ ad.block ≠ gb ∧ W0.heap.size ≤ ad.block
theorem Inv1.step {W0 wr : World} {gb g m cap : Nat} {D : Option Addr} {d ms : Nat} {S : List Nat} {j s : Nat} {lj : List Int} {x : Int} (h : Inv1 W0 wr gb g m cap D d ms S j) (hm : m ≤ 40) (hS : Rise S m) (hf : S[j]? = some s)
    (hOw : Ow wr W0.heap.size g m cap lj) (hall : ∀ x ∈ lj, 0 ≤ x ∧ x < 4294967296) (hsm : ∀ s ∈ S.take j, ∀ x, lj[s]? = some x → 0 ≤ x ∧ x ≤ 160) (hlx : lj[s]? = some x) :
    Inv1 W0 (wr.setCell ⟨g, s, none⟩ (.int .u32 (x % (4 * (m : Int) + 1)))).drew gb g m cap D d ms S (j + 1) := by
  have hsm0 : s < m := hS.lt s (List.mem_of_getElem? hf)
  have hm0 : 0 < m := by omega
  have hb := rise_before hS j s hf
  have hy0 : 0 ≤ x % (4 * (m : Int) + 1) := Int.emod_nonneg _ (by omega)
  have hy1 : x % (4 * (m : Int) + 1) < 4 * (m : Int) + 1 := Int.emod_lt_of_pos _ (by omega)
  generalize x % (4 * (m : Int) + 1) = y at hy0 hy1
  have hd : ∀ {w : World}, Bl w w.drew := (Bl.refl _).drew
  have hsl : s < lj.length := (List.getElem?_eq_some_iff.1 hlx).1
  refine ⟨⟨lj.set s y, (hOw.put s y).keep hd, ?_, ?_⟩, (h.bx.off (h.ne hm0) s _).keep hd, (h.rd.off (fun ad ha => (h.sb ad ha).1 hm0) s _).keep hd, (h.bl.puts (p := ⟨g, s, none⟩) (hOw.own hm0).1 _).drew, h.ne, h.sb⟩
  · intro z hz
    rcases List.mem_or_eq_of_mem_set hz with h1 | h1
    · exact hall z h1
    · subst h1; omega
  · intro s' hs' z hz
    rw [take_snoc S j s hf] at hs'
    rcases List.mem_append.1 hs' with h1 | h1
    · have := hb s' h1
      rw [List.getElem?_set_ne (by omega)] at hz
      exact hsm s' h1 z hz
    · obtain rfl : s' = s := by simpa using h1
      rw [List.getElem?_set_self hsl] at hz
      obtain rfl := Option.some.inj hz
      omega
/-- While the names are laid in: what holds. -/
structure Inv2 (W0 wr : World) (gb g m cap : Nat) (D : Option Addr) (d ms : Nat) (S : List Nat) (E : Option Addr) (f k : Nat) (Y : List (ByteArray × Int)) : Prop where
  wd : ∃ l, Ow wr W0.heap.size g m cap l ∧ ∀ s ∈ S, ∀ x, l[s]? = some x → 0 ≤ x ∧ x ≤ 160
  bx : Bx wr gb (.slice (some ⟨g, 0, none⟩) m cap) (.slice D ms d) (.slice E k f)
  rd : RdI wr D d S
  rs : RdS wr E f Y
  ky : Y.length = k
  bl : Bl W0 wr
  gw : W0.heap.size ≤ gb
  ne : 0 < m → g ≠ gb
  sb : ∀ ad, D = some ad → ad.block ≠ gb ∧ W0.heap.size ≤ ad.block
  eb : ∀ ad, E = some ad → ad.block ≠ gb ∧ W0.heap.size ≤ ad.block
theorem Inv2.move {W0 wr w' : World} {gb g m cap : Nat} {D : Option Addr} {d ms : Nat} {S : List Nat} {E : Option Addr} {f k : Nat} {Y : List (ByteArray × Int)} (h : Inv2 W0 wr gb g m cap D d ms S E f k Y) (hb : Bl wr w') : Inv2 W0 w' gb g m cap D d ms S E f k Y := by
  obtain ⟨l, h1, h2⟩ := h.wd
  exact ⟨⟨l, h1.keep hb, h2⟩, h.bx.keep hb, h.rd.keep hb, h.rs.keep hb, h.ky, h.bl.trans hb, h.gw, h.ne, h.sb, h.eb⟩
theorem Inv2.store {W0 wr : World} {gb g m cap : Nat} {D : Option Addr} {d ms : Nat} {S : List Nat} {E E' : Option Addr} {f k f' k' : Nat} {Y Y' : List (ByteArray × Int)} (h : Inv2 W0 wr gb g m cap D d ms S E f k Y)
    (hr : RdS wr E' f' Y') (hk : Y'.length = k') (he : ∀ ad, E' = some ad → ad.block ≠ gb ∧ W0.heap.size ≤ ad.block) : Inv2 W0 (wr.setCell ⟨gb, 2, none⟩ (.slice E' k' f')) gb g m cap D d ms S E' f' k' Y' := by
  obtain ⟨l, h1, h2⟩ := h.wd
  exact ⟨⟨l, h1.off h.ne 2 _, h2⟩, h.bx.set2 _, h.rd.off (fun ad ha => (h.sb ad ha).1) 2 _, hr.off (fun ad ha => (he ad ha).1) 2 _, hk, h.bl.puts (p := ⟨gb, 2, none⟩) h.gw _, h.gw, h.ne, h.sb, he⟩
def FitPost (w : World) (e : Ending) (w' : World) : Prop :=
  ∃ (g m cap : Nat) (D : Option Addr) (d ms : Nat) (S : List Nat) (E : Option Addr) (f k : Nat) (Y : List (ByteArray × Int)) (l : List Int),
    e = .returned (.agg #[.slice (some ⟨g, 0, none⟩) m cap, .slice D ms d, .slice E k f]) ∧ Rd w' (some ⟨g, 0, none⟩) cap l ∧ l.length = m ∧ m ≤ 40 ∧ RdI w' D d S ∧ S.length = ms ∧ Rise S m ∧ (∀ s ∈ S, ∀ x, l[s]? = some x → 0 ≤ x ∧ x ≤ 160) ∧ RdS w' E f Y ∧ Y.length = k ∧ k ≤ 8 ∧ Bl w w'
theorem Inv2.fin {w W0 wr : World} {gb g m cap : Nat} {D : Option Addr} {d ms : Nat} {S : List Nat} {E : Option Addr} {f k : Nat} {Y : List (ByteArray × Int)} (h : Inv2 W0 wr gb g m cap D d ms S E f k Y) (hb : Bl w W0) {T : Nat} (hT : w.heap.size ≤ T) (hT2 : T < W0.heap.size)
    (hm : m ≤ 40) (hS : Rise S m) (hms : S.length = ms) (hk : k ≤ 8) (a b c : Value) :
    FitPost w (.returned (.agg #[.slice (some ⟨g, 0, none⟩) m cap, .slice D ms d, .slice E k f])) (((wr.setCell ⟨T, 0, none⟩ a).setCell ⟨T, 1, none⟩ b).setCell ⟨T, 2, none⟩ c) := by
  obtain ⟨l, h1, h2⟩ := h.wd
  have hg : 0 < m → g ≠ T := fun hm0 => by have := (h1.own hm0).1; omega
  have hd : ∀ ad, D = some ad → ad.block ≠ T := fun ad ha => by have := (h.sb ad ha).2; omega
  have he : ∀ ad, E = some ad → ad.block ≠ T := fun ad ha => by have := (h.eb ad ha).2; omega
  exact ⟨g, m, cap, D, d, ms, S, E, f, k, Y, l, rfl, (((h1.off hg 0 a).off hg 1 b).off hg 2 c).rd, h1.len, hm, ((h.rd.off hd 0 a).off hd 1 b).off hd 2 c, hms, hS, h2, ((h.rs.off he 0 a).off he 1 b).off he 2 c, h.ky, hk,
    (((hb.trans h.bl).puts (p := ⟨T, 0, none⟩) hT a).puts (p := ⟨T, 1, none⟩) hT b).puts (p := ⟨T, 2, none⟩) hT c⟩
theorem Inv2.start {W0 wr : World} {gb g m cap : Nat} {D : Option Addr} {d ms : Nat} {S : List Nat} (h : Inv1 W0 wr gb g m cap D d ms S ms) (hS : S.length = ms) (hg : W0.heap.size ≤ gb) : Inv2 W0 wr gb g m cap D d ms S none 0 0 [] := by
  obtain ⟨l, h1, _, h2⟩ := h.ex
  rw [List.take_of_length_le (by omega)] at h2
  exact ⟨⟨l, h1, h2⟩, h.bx, h.rd, ⟨Nat.le_refl _, fun _ => ⟨rfl, rfl⟩, fun _ e => (by cases e)⟩, rfl, h.bl, hg, h.ne, fun ad ha => (h.sb ad ha).2, fun _ e => (by cases e)⟩
theorem flat_drop (l : List (ByteArray × Int)) : ∀ q, flat (l.drop q) = (flat l).drop (q * 2) := by
  induction l with
  | nil => intro q; simp [flat]
  | cons x l ih =>
    intro q
    cases q with
    | zero => simp
    | succ q =>
      rw [List.drop_succ_cons, ih, show (q + 1) * 2 = q * 2 + 2 by omega]
      have e : flat (x :: l) = .string x.1 :: .int .i64 x.2 :: flat l := rfl
      rw [e]
      rfl
theorem add_add (A : Addr) (a b : Nat) : (A.add a).add b = A.add (a + b) := by
  unfold Addr.add
  by_cases h1 : a = 0
  · subst h1; simp
  · by_cases h2 : b = 0
    · subst h2; simp [h1]
    · simp [h1, h2, show ¬ (a + b = 0) by omega, Nat.add_assoc]
theorem RdS.take {w : World} {A : Option Addr} {c : Nat} {l : List (ByteArray × Int)} (h : RdS w A c l) (k : Nat) : RdS w A c (l.take k) := by
  refine ⟨Nat.le_trans (by simp; omega) h.le, fun e => ?_, fun ad ha j u hj => ?_⟩
  · obtain ⟨rfl, hc⟩ := h.nil e
    exact ⟨by simp, hc⟩
  · refine h.cells ad ha j u ?_
    have e : flat l = flat (l.take k) ++ flat (l.drop k) := by rw [← flat_append, List.take_append_drop]
    rw [e, List.getElem?_append_left (by exact (List.getElem?_eq_some_iff.1 hj).1)]
    exact hj
theorem slice_from {E : Option Addr} {k f q : Nat} {Y : List (ByteArray × Int)} (hk : Y.length = k) (hq : q ≤ k) (hf : k ≤ f) (hn : E = none → k = 0 ∧ f = 0) :
    ∃ E2 f2 k2, k - q = k2 ∧ (∀ w, (Instr.slice 32 (.slice E k f) (some (.int .i64 (q : Int))) none none).run Tryz.prog w = .ok (.slice E2 k2 f2) w) ∧ (∀ w, RdS w E f Y → RdS w E2 f2 (Y.drop q)) ∧ (Y.drop q).length = k2 := by
  cases E with
  | none =>
    obtain ⟨rfl, rfl⟩ := hn rfl
    obtain rfl : q = 0 := by omega
    exact ⟨none, 0, 0, rfl, fun w => by go_simp, fun w h => by simpa using h, by simpa using hk⟩
  | some A =>
    by_cases he : f = q
    · subst he
      obtain rfl : f = k := by omega
      refine ⟨some A, 0, 0, by omega, fun w => by go_simp, fun w h => ?_, by simp; omega⟩
      rw [List.drop_of_length_le (by omega)]
      exact ⟨by simp, fun e => (by cases e), fun ad ha j u hj => (by simp [flat] at hj)⟩
    · refine ⟨some (A.add (q * 2)), f - q, k - q, rfl, fun w => ?_, fun w h => ?_, by simp; omega⟩
      · have : q ≤ f := by omega
        have hne : ¬ (f = q) := he
        go_simp
      · refine ⟨by simp; omega, fun e => (by cases e), fun ad ha j u hj => ?_⟩
        obtain rfl := Option.some.inj ha
        rw [add_add]
        refine h.cells A rfl _ u ?_
        rw [flat_drop, List.getElem?_drop] at hj
        exact hj
theorem slice_to {E : Option Addr} {k f q : Nat} (hq : q ≤ k) (hf : k ≤ f) (hn : E = none → k = 0 ∧ f = 0) :
    ∀ w, (Instr.slice 32 (.slice E k f) none (some (.int .i64 (q : Int))) none).run Tryz.prog w = .ok (.slice E q f) w := by
  intro w
  cases E with
  | none =>
    obtain ⟨rfl, rfl⟩ := hn rfl
    obtain rfl : q = 0 := by omega
    go_simp
  | some A =>
    have : q ≤ f := by omega
    go_simp
theorem slice_u32 {A : Option Addr} {n c m : Nat} (hq : m ≤ n) (hf : n ≤ c) (hn : A = none → n = 0 ∧ c = 0) :
    ∀ w, (Instr.slice 22 (.slice A n c) none (some (.int .i64 (m : Int))) none).run Tryz.prog w = .ok (.slice A m c) w := by
  intro w
  cases A with
  | none =>
    obtain ⟨rfl, rfl⟩ := hn rfl
    obtain rfl : m = 0 := by omega
    go_simp
  | some A =>
    have : m ≤ c := by omega
    go_simp
theorem infoS : (Tryz.prog.info? 82).map (fun i => (i.zero, i.size, i.bytes)) = some (some (.agg #[.string ⟨#[]⟩, .int .i64 0]), 2, 24) := by kernel_rfl
theorem RdS.own {w : World} {base n : Nat} {v : Value} {l : List (ByteArray × Int)} (h : w.ownsRow base 82 2 v n (flat l)) : ∃ A c, v = .slice A n c ∧ RdS w A c l ∧ l.length = n ∧ ∀ ad, A = some ad → base ≤ ad.block := by
  obtain ⟨h1, h2⟩ := h
  have hn : l.length = n := by rw [flat_len] at h1; omega
  rcases h2 with ⟨rfl, h0⟩ | ⟨g, cap, cur, rfl, hg, hh, hl, hm, hs, ht⟩
  · subst h0
    have : l = [] := List.eq_nil_of_length_eq_zero hn
    subst this
    exact ⟨none, 0, rfl, ⟨by simp, fun _ => ⟨rfl, rfl⟩, fun _ h => (by cases h)⟩, rfl, fun _ h => (by cases h)⟩
  · refine ⟨_, cap, rfl, ⟨by omega, fun h => (by cases h), fun ad ha j u hj => ?_⟩, hn, fun ad ha => (by obtain rfl := Option.some.inj ha; exact hg)⟩
    obtain rfl := Option.some.inj ha
    have ho : w.ownsRow base 82 2 (.slice (some ⟨g, 0, none⟩) n cap) n (flat l) := ⟨h1, .inr ⟨g, cap, cur, rfl, hg, hh, hl, hm, hs, ht⟩⟩
    exact ho.cells (g := g) rfl j u hj
theorem run_syms (ty : TypeId) (w : World) (base : Nat) (v : Value) (n : Nat) (l : List (ByteArray × Int)) (hown : w.ownsRow base 82 2 v n (flat l))
    (B : Option Addr) (m c : Nat) (xs : List (ByteArray × Int)) (hm : xs.length = m) (hr : RdS w B c xs) (h63 : n + m ≤ 1001) (hbase : base ≤ w.heap.size) :
    ∃ v' w', (Builtin.append_ #[32, 32] ty #[v, .slice B m c]).run Tryz.prog w = .ok v' w' ∧ w'.ownsRow base 82 2 v' (n + m) (flat (l ++ xs)) ∧ w.grownBy w' v.ownBlock ∧ (v'.ownBlock = v.ownBlock ∨ v'.ownBlock = some w.heap.size) := by
  obtain ⟨i0, hi, hz0, hz1, hz2⟩ := info_parts infoS
  cases B with
  | none =>
    obtain ⟨rfl, rfl⟩ := hr.nil rfl
    have hm0 : m = 0 := by simpa using hm.symm
    subst hm0
    obtain ⟨A, cc, rfl, hnc⟩ : ∃ A cc, v = .slice A n cc ∧ n ≤ cc := by
      rcases hown.2 with ⟨rfl, rfl⟩ | ⟨g, cap, cur, rfl, _, _, hnc, _⟩
      · exact ⟨_, _, rfl, Nat.le_refl _⟩
      · exact ⟨_, _, rfl, hnc⟩
    exact ⟨_, w, append_none (P := Tryz.prog) 32 ty 82 i0 Tryz.underlying32 hi A n cc 0 w hnc, by simpa using hown, ⟨rfl, rfl, rfl, Nat.le_refl _, fun _ _ _ => rfl⟩, .inl rfl⟩
  | some ad =>
    subst hm
    obtain ⟨v', w', hrun, h1, h2, _, h4⟩ := run_append_own_at (P := Tryz.prog) w base 32 ty 82 i0 (.agg #[.string ⟨#[]⟩, .int .i64 0]) 2 24 Tryz.underlying32 hi hz0 hz1 hz2 rfl (by decide) v n (flat l) hown ad xs.length c (flat xs) (flat_len xs) (fun j u hj => hr.cells ad rfl j u hj) (flat_one xs) (by unfold maxLen; omega) (by omega) hbase
    exact ⟨v', w', hrun, by rw [flat_append]; exact h1, h2, h4⟩
theorem step_syms {ops : Array Oper} {o : Oper} {a : Act} {w : World} {K : Act → World → Prop} {Q : Exit → Act → World → Prop} {E : Prop} (s x : Operand)
    (base : Nat) (v : Value) (n : Nat) (l : List (ByteArray × Int)) (hown : w.ownsRow base 82 2 v n (flat l))
    (B : Option Addr) (m c : Nat) (xs : List (ByteArray × Int)) (hm : xs.length = m) (hr : RdS w B c xs) (h63 : n + m ≤ 1001) (hbase : base ≤ w.heap.size)
    (hg : o.guard = none) (hop : o.op = .call { callee := .builtin .append, args := #[s, x], argTypes := #[32, 32] }) (hs : a.eval s = v) (hx : a.eval x = .slice B m c)
    (hK : ∀ v' w', w'.ownsRow base 82 2 v' (n + m) (flat (l ++ xs)) → w.grownBy w' v.ownBlock → K (a.put o.dst v') w') :
    if Region.wanted o (yielded ops a.tmps) = true then Oper.wp Tryz.prog o a w K Q else E := by
  have hw : Region.wanted o (yielded ops a.tmps) = true := by simp [Region.wanted, hg]
  rw [if_pos hw]
  obtain ⟨v', w', hrun, h1, h2, _⟩ := run_syms o.type w base v n l hown B m c xs hm hr h63 hbase
  unfold Oper.wp
  simp [execOp, hop, resolve, invoke, builtin, hs, hx, hrun, Result.andThen]
  exact hK v' w' h1 h2
theorem append_syms {ops : Array Oper} {rest : List Oper} {o : Oper} {a : Act} {w : World} {Q : Exit → Act → World → Prop} (hgd : o.guard = none) (s x : Operand)
    (ho : o.op = .call { callee := .builtin .append, args := #[s, x], argTypes := #[32, 32] })
    (base : Nat) (v : Value) (n : Nat) (l : List (ByteArray × Int)) (hs : a.eval s = v) (hown : w.ownsRow base 82 2 v n (flat l))
    (B : Option Addr) (m c : Nat) (xs : List (ByteArray × Int)) (hx : a.eval x = .slice B m c) (hm : xs.length = m) (hr : RdS w B c xs) (h63 : n + m ≤ 1001) (hbase : base ≤ w.heap.size)
    (h : ∀ v' w', w'.ownsRow base 82 2 v' (n + m) (flat (l ++ xs)) → w.grownBy w' v.ownBlock → wpList Tryz.prog ops Q rest (a.put o.dst v') w') :
    wpList Tryz.prog ops Q (o :: rest) a w := by
  refine wpList_plain hgd fun K hK => ?_
  obtain ⟨v', w', hrun, h1, h2, _⟩ := run_syms o.type w base v n l hown B m c xs hm hr h63 hbase
  unfold Oper.wp execOp
  simp only [ho, resolve, invoke, builtin, Sem.run_bind, Sem.run_pure, Result.andThen_ok, List.map_toArray, List.map_cons, List.map_nil, hs, hx, hrun]
  exact hK _ _ (h v' w' h1 h2)
theorem rdS_new (w : World) (l : List (ByteArray × Int)) (T : TypeId) (W : World) (hW : W = w.alloc (.cells (flat l).toArray T)) : RdS W (some ⟨w.heap.size, 0, none⟩) l.length l :=
  ⟨Nat.le_refl _, fun h => (by cases h), fun ad ha j u hj => by
    obtain rfl := Option.some.inj ha
    subst hW
    have e : (⟨w.heap.size, 0, none⟩ : Addr).add j = ⟨w.heap.size, j, none⟩ := by unfold Addr.add; split <;> simp_all
    rw [e, World.cell?_alloc_at _ _ _ _ rfl]
    simpa using hj⟩
theorem keepS {wr w' : World} {a b : Addr} {x y : Value} (b0 : wr.cell? a = some x) (b1 : wr.cell? b = some y) (h : Bl wr w') : Bl wr w' ∧ w'.cell? a = some x ∧ w'.cell? b = some y :=
  ⟨h, h.cell b0, h.cell b1⟩
end Go.Proofs.YtjmiaemabhlnjaaGreatDoor.Chains
