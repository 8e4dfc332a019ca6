import Derived.Test.YtjmiaemabhlnjaaGreatDoorChRev
import Derived.Test.YtjmiaemabhlnjaaGreatDoorChLaw
set_option linter.all false
set_option maxRecDepth 20000
/-! chain.Pack, of sites that rise: the chain. -/
namespace Go.Proofs.YtjmiaemabhlnjaaGreatDoor.Chains
open Go Go.RowKit
set_option maxHeartbeats 4000000 in
theorem pack_any {w : World} {ad : Addr} {c : Nat} {B : Option Addr} {d : Nat} {l : List Int} {S : List Nat} (n m : Nat) (hn : Aside (l.length = n)) (hm : Aside (S.length = m)) (h : Aside (Rd w (some ad) c l)) (k : Aside (RdI w B d S)) (hS : Aside (Rise S n)) (h40 : n ≤ 40)
    (hx : Aside (∀ s ∈ S, ∀ x, l[s]? = some x → 0 ≤ x ∧ x ≤ 160)) :
    Calls Tryz.prog 14 #[.slice (some ad) n c, .slice B m d] w fun e w' => ∃ g cap, e = .returned (.tuple #[.slice (some ⟨g, 0, none⟩) n cap, .int .i64 (packL l S).2, .int .i64 0]) ∧ Ow w' w.heap.size g n cap (packL l S).1 ∧ Bl w w' := by
  have hmn : m ≤ 40 := by have := rise_len hS.out; have := hm.out; omega
  have hmd : m ≤ d := by have := k.out.le; have := hm.out; omega
  go_enter Tryz.func14, Tryz.ntmps14
  go_wp2_with fail
  go_loopw [7, 16] (fun q i wr => ∃ j : Nat, q = .int .i64 (wasOf S j) ∧ i = .int .i64 j ∧ j ≤ m ∧ Aside (Bl w wr)) (fun _ i _ => m - (intOf i).toNat)
  case atStart => exact ⟨0, rfl, rfl, by omega, ⟨Bl.refl _⟩⟩
  case round =>
    obtain ⟨j, rfl, rfl, hj, HB⟩ := hrel
    by_cases hlt : j < m
    · obtain ⟨s, hf⟩ : ∃ s, S[j]? = some s := ⟨_, List.getElem?_eq_getElem (by have := hm.out; omega)⟩
      obtain ⟨bd, rfl⟩ : ∃ bd, B = some bd := by
        cases B with
        | some bd => exact ⟨bd, rfl⟩
        | none =>
          have := (k.out.nil rfl).1
          have h2 := hm.out
          rw [this] at h2
          simp at h2
          omega
      have hc := HB.out.cell (k.out.cells bd rfl j s hf)
      have hsn := hS.out.lt s (List.mem_of_getElem? hf)
      obtain ⟨hw1, hw2⟩ := rise_was hS.out j s hf
      have hw3 := Aside.mk (wasOf_succ S j s hf)
      generalize wasOf S j = q at hw1 hw2
      have hns : ¬ ((s : Int) ≤ q) := by omega
      have hns2 : ¬ (n ≤ s) := by omega
      have hns3 : ¬ (65534 < s) := by omega
      clear hf hw1 hw2
      go_wp2_with fail
      go_roundw
      case rel => exact ⟨j + 1, by rw [hw3.out], by go_num, by omega, HB⟩
      case measure => simp [intOf]; omega
    · have HCl := Aside.mk (clone_any n hn ⟨h.out.keep HB.out⟩ (by omega : n ≤ 1000))
      go_wp2_with (first
        | (with_reducible refine HCl.out.mono ?_; rintro e w1 ⟨g, cap, rfl, how, hbl⟩
           have HB1 := Aside.mk (HB.out.trans hbl)
           have HO := Aside.mk (Ow.down how HB.out.out.size)
           have hnc := how.le
           clear how hbl)
        | fail)
      go_loopw [11, 39] (fun q i wr => ∃ j : Nat, q = .int .i64 (packL l (S.take j)).2 ∧ i = .int .i64 j ∧ j ≤ m ∧ Aside (Ow wr w.heap.size g n cap (packL l (S.take j)).1) ∧ Aside (Bl w wr)) (fun _ i _ => m - (intOf i).toNat)
      case atStart => exact ⟨0, rfl, rfl, by omega, HO, HB1⟩
      case round =>
        obtain ⟨j, rfl, rfl, hj, HO2, HB2⟩ := hrel
        by_cases hlt : j < m
        · obtain ⟨s, hf⟩ : ∃ s, S[j]? = some s := ⟨_, List.getElem?_eq_getElem (by have := hm.out; omega)⟩
          obtain ⟨bd, rfl⟩ : ∃ bd, B = some bd := by
            cases B with
            | some bd => exact ⟨bd, rfl⟩
            | none =>
              have := (k.out.nil rfl).1
              have h2 := hm.out
              rw [this] at h2
              simp at h2
              omega
          have hc := HB2.out.cell (k.out.cells bd rfl j s hf)
          have hsn := hS.out.lt s (List.mem_of_getElem? hf)
          obtain ⟨x, hlx⟩ : ∃ x, l[s]? = some x := ⟨_, List.getElem?_eq_getElem (by have := hn.out; omega)⟩
          obtain ⟨hx0, hx1⟩ := hx.out s (List.mem_of_getElem? hf) x hlx
          obtain ⟨hp1, hp2, hp3⟩ := pack_step l hS.out j s hf x hlx
          obtain ⟨hcc, hcf, hgb⟩ := HO2.out.at hp1
          generalize (packL l (S.take j)).2 = q at hp3 hp2
          have HP := Aside.mk hp2
          clear hf hlx hp1 hp2
          have ho := or16_at hx0 hx1 (show q ≤ 40 by omega)
          go_wp2_with fail
          refine ⟨⟨j + 1, by rw [HP.out]; rfl, rfl, by omega, ⟨by rw [HP.out]; exact HO2.out.put s _⟩, ⟨HB2.out.puts hgb _⟩⟩, by simp [intOf]; omega⟩
        · have hjm : S.take j = S := List.take_of_length_le (by have := hm.out; omega)
          rw [hjm] at HO2
          rw [hjm]
          go_wp2_with fail
          go_ret3
          exact ⟨g, cap, rfl, HO2.out, HB2.out⟩
end Go.Proofs.YtjmiaemabhlnjaaGreatDoor.Chains
