import Derived.Test.YtjmiaemabhlnjaaGreatDoorChEqual
import Derived.Shelf.Slices.Reverse
import Derived.Lib.OwnBridge
import Derived.Lib.Walk
import Derived.Lib.SliceRun
set_option linter.all false
set_option maxRecDepth 100000
/-! slices.Reverse of a row of one's own; slices.Clone of a row of words. -/
namespace Go.Proofs
open Go.Shelf
def Tryz.lays112_ren : Go.Shelf.Ren := ⟨fun | 112 => 40 | n => n, fun | 28 => 31 | 3 => 3 | 4 => 4 | 0 => 0 | n => n, fun | n => n⟩
theorem Tryz.lays112 : Go.Proofs.Lays.n112 Tryz.prog Tryz.lays112_ren := {
  mixed := by kernel_rfl
  f112 := Tryz.func40.trans (congrArg some (by kernel_rfl))
  t0 := Tryz.underlying0
  a0 := Tryz.isAgg0
  z0 := Tryz.sizeOf0
  v0 := Tryz.zeroValue0
  t3 := Tryz.underlying3
  a3 := Tryz.isAgg3
  z3 := Tryz.sizeOf3
  v3 := Tryz.zeroValue3
  t4 := Tryz.underlying4
  a4 := Tryz.isAgg4
  z4 := Tryz.sizeOf4
  v4 := Tryz.zeroValue4
  t28 := Tryz.underlying31
  a28 := Tryz.isAgg31
  z28 := Tryz.sizeOf31
  v28 := Tryz.zeroValue31 }
end Go.Proofs
namespace Go.Proofs.YtjmiaemabhlnjaaGreatDoor.Chains
open Go Go.RowKit
theorem rev_any {w : World} {base : Nat} {v : Value} {l : List Nat} (n : Nat) (hn : l.length = n) (h : w.ownsRow base 3 1 v n (ints l)) (h63 : n ≤ 1000) :
    Calls Tryz.prog 40 #[v] w fun e w' => e = .returned (.tuple #[]) ∧ w'.ownsRow base 3 1 v n (ints l.reverse) ∧ Below base w w' ∧ w.grownBy w' v.ownBlock := by
  subst hn
  by_cases hv : v = .slice none 0 0
  · subst hv
    have h0 : l = [] := by
      rcases h.2 with ⟨_, h0⟩ | ⟨g, cap, cur, h1, _⟩
      · exact List.eq_nil_of_length_eq_zero h0
      · cases h1
    subst h0
    refine (Any.slices_Reverse_int_empty Tryz.lays112 none 0 w).mono ?_
    rintro e w' ⟨rfl, rfl⟩
    exact ⟨rfl, h, Below.refl _ _, ⟨rfl, rfl, rfl, Nat.le_refl _, fun _ _ _ => rfl⟩⟩
  · have hz : ∀ l : List Nat, ints l = (l.map (fun n : Nat => (n : Int))).map (Value.int .i64) := fun l => by simp [ints]
    rw [hz] at h
    obtain ⟨g, cap, rfl, hbg, hgs, hnc, hcm, hlen, hH⟩ := Lib.holds_of_ownsRow h hv
    have hrev := Any.slices_Reverse_int Tryz.lays112 g 0 cap (l.map (fun n : Nat => (n : Int))) w hH (by simp; omega)
    rw [hlen] at hrev
    refine hrev.mono ?_
    rintro e w' ⟨rfl, q, rfl⟩
    have hB0 := Lib.below_putRow (enc := Value.int .i64) (q := q) (d := (l.map (fun n : Nat => (n : Int))).reverse.toArray) (Below.refl base w) hbg
    refine ⟨rfl, ?_, hB0, ⟨hB0.os, hB0.tape, hB0.output, hB0.size, fun k hk hne => by
      have hgk : g ≠ k := fun e => hne (by rw [e]; rfl)
      simp [Sort.putRow, Sort.mapBlock, Sort.ahead, Array.getElem?_modify, hgk]⟩⟩
    have hy : ((l.map (fun n : Nat => (n : Int))).reverse).length = l.length := by simp
    have h1 := Lib.ownsRow_putRow (q := q) (ys := (l.map (fun n : Nat => (n : Int))).reverse) h hy (Nat.le_refl _)
    rw [List.take_of_length_le (Nat.le_of_eq hy)] at h1
    rw [hz, List.map_reverse]
    exact h1

theorem infoU : (Tryz.prog.info? 56).map (fun i => (i.zero, i.size, i.bytes)) = some (some (.int .u32 0), 1, 4) := by kernel_rfl
theorem u32s_one (l : List Int) : ∀ u ∈ u32s l, u.oneCell' = true := by
  intro u hu
  obtain ⟨x, _, rfl⟩ := List.mem_map.1 hu
  rfl
theorem Rd.vals {w : World} {ad : Addr} {c : Nat} {l : List Int} (h : Rd w (some ad) c l) : ∀ j u, (u32s l)[j]? = some u → w.cell? (ad.add j) = some u := by
  intro j u hj
  rw [u32s, List.getElem?_map] at hj
  cases hq : l[j]? with
  | none => rw [hq] at hj; cases hj
  | some x =>
    rw [hq] at hj
    obtain rfl := Option.some.inj hj
    exact h.cells ad rfl j x hq
theorem own_ow {w : World} {base n : Nat} {v : Value} {l : List Int} (h : w.ownsRow base 56 1 v n (u32s l)) (hv : v ≠ .slice none 0 0) : ∃ g cap, v = .slice (some ⟨g, 0, none⟩) n cap ∧ Ow w base g n cap l := by
  obtain ⟨h1, h2⟩ := h
  rcases h2 with ⟨rfl, h0⟩ | ⟨g, cap, cur, rfl, hg, hh, hl, hm, hs, ht⟩
  · exact absurd rfl hv
  · exact ⟨g, cap, rfl, by simpa [u32s] using h1, hl, hm, fun _ => ⟨hg, ⟨h1, .inr ⟨g, cap, cur, rfl, hg, hh, hl, hm, hs, ht⟩⟩⟩⟩
set_option maxHeartbeats 2000000 in
theorem clone_any {w : World} {ad : Addr} {c : Nat} {l : List Int} (n : Nat) (hn : Aside (l.length = n)) (h : Aside (Rd w (some ad) c l)) (h63 : n ≤ 1000) :
    Calls Tryz.prog 39 #[.slice (some ad) n c] w fun e w' => ∃ g cap, e = .returned (.slice (some ⟨g, 0, none⟩) n cap) ∧ Ow w' w.heap.size g n cap l ∧ Bl w w' := by
  obtain ⟨i0, hi, hz0, hz1, hz2⟩ := info_parts infoU
  have q22 : ∀ (w : World) (a : Option Addr) (n c n' c' : Nat), (binOp .eql 22 (.slice a n c) (.slice none n' c')).run Tryz.prog w = .ok (.bool a.isNone) w := fun w a n c n' c' => Lib.run_eql_slice_nil w _ _ a n c n' c' Tryz.underlying22
  go_enter Tryz.func39, Tryz.ntmps39
  go_wp2_with (at_builtin; refine wpList_append_own_at _ rfl _ _ 22 rfl w.heap.size 56 i0 (.int .u32 0) 1 4 Tryz.underlying22 hi hz0 hz1 hz2 rfl (by decide) _ _ _ rfl (own_made w 56 1 w.heap.size (Nat.le_refl _)) ad n c (u32s l) rfl (by simp [u32s, hn.out]) (h.out.keep ((Bl.refl _).alloc _)).vals (u32s_one l) (by unfold maxLen; omega) (by omega) (by simp) ?_; intro v' w1 hown hgrow hnil hloc)
  go_wp2
  go_ret
  obtain ⟨g, cap, rfl, how⟩ := own_ow (by simpa using hown) (fun e => by have := (hnil.1 e).1; cases this)
  exact ⟨g, cap, rfl, how, ((Bl.refl w).alloc _).grow hgrow (by intro k hk; have e : w.heap.size = k := Option.some.inj hk; omega)⟩
end Go.Proofs.YtjmiaemabhlnjaaGreatDoor.Chains
