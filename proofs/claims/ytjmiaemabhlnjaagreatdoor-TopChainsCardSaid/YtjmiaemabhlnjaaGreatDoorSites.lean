import Derived.Test.YtjmiaemabhlnjaaGreatDoorProg
import Derived.WalkKit
import Derived.KernelRfl
import Derived.OwnWalk
import Derived.Maps.AppendAt
set_option linter.all false
set_option maxRecDepth 20000
/-! rivetref08.Fit: the sites whose bit is set. -/
namespace Go.Proofs.YtjmiaemabhlnjaaGreatDoor.Chains
open Go Go.RowKit

structure Aside (p : Prop) : Prop where
  out : p
def intOf : Value → Int | .int _ n => n | _ => 0
theorem infoI : (Tryz.prog.info? 3).map (fun i => (i.zero, i.size, i.bytes)) = some (some (.int .i64 0), 1, 8) := by kernel_rfl
theorem own_made (w : World) (T : TypeId) (size : Nat) (base : Nat) (hb : base ≤ w.heap.size) : (w.alloc (.cells #[] T)).ownsRow base T size (.slice (some ⟨w.heap.size, 0, none⟩) 0 0) 0 [] :=
  ⟨by simp, .inr ⟨w.heap.size, 0, #[], rfl, hb, heap_alloc_new w _, Nat.le_refl _, by decide, by simp, by simp⟩⟩
def sitesTo (b : List Nat) (k : Nat) : List Nat := (List.range k).filter fun i => b.getD i 0 % 2 == 1
theorem sitesTo_succ (b : List Nat) (k : Nat) : sitesTo b (k + 1) = if b.getD k 0 % 2 = 1 then sitesTo b k ++ [k] else sitesTo b k := by
  unfold sitesTo
  rw [List.range_succ, List.filter_append]
  by_cases h : b.getD k 0 % 2 = 1
  · simp only [List.filter_cons, List.filter_nil, if_pos h, h, beq_self_eq_true, if_true]
  · have : (b.getD k 0 % 2 == 1) = false := by simpa using h
    simp only [List.filter_cons, List.filter_nil, if_neg h, this, Bool.false_eq_true, if_false, List.append_nil]
theorem sitesTo_le (b : List Nat) (k : Nat) : (sitesTo b k).length ≤ k := by
  have := List.length_filter_le (fun i => b.getD i 0 % 2 == 1) (List.range k)
  simpa [sitesTo] using this
def ints (l : List Nat) : List Value := l.map fun (n : Nat) => .int .i64 (n : Int)

theorem and1 : ((List.range 256).all fun x => bits .and .u8 (x : Int) 1 == ((x % 2 : Nat) : Int)) = true := by kernel_rfl
theorem and1_at {x : Nat} (h : x < 256) : bits .and .u8 (x : Int) 1 = ((x % 2 : Nat) : Int) := eq_of_beq (List.all_eq_true.1 and1 x (List.mem_range.2 h))

theorem sites_any (w : World) (A : Option Addr) (lb cb n : Nat) (b : List Nat) (hn : n ≤ 40) (hl : b.length = lb) (hlc : lb ≤ cb) (h63 : lb ≤ 9223372036854775807)
    (hb : ∀ ad, A = some ad → ∀ (i x : Nat), b[i]? = some x → w.cell? (ad.add i) = some (.int .u8 (x : Int))) (hnil : A = none → lb = 0) (h256 : ∀ x ∈ b, x < 256) :
    Calls Tryz.prog 28 #[.slice A lb cb, .int .i64 n] w fun e w' => ∃ v, e = .returned v ∧ w'.ownsRow w.heap.size 3 1 v (sitesTo b (min n lb)).length (ints (sitesTo b (min n lb))) ∧ Below w.heap.size w w' := by
  obtain ⟨i0, hi, hz0, hz1, hz2⟩ := info_parts infoI
  have HB := Aside.mk hb
  have HL := Aside.mk hl
  have H256 := Aside.mk h256
  clear hb h256
  have o0 := own_made w 3 1 w.heap.size (Nat.le_refl _)
  have b0 := (Below.refl w.heap.size w).alloc (Nat.le_refl _) (.cells #[] 3)
  have HO := Aside.mk o0
  have HBW := Aside.mk b0
  clear o0 b0
  go_enter Tryz.func28, Tryz.ntmps28
  go_wp2_with fail
  go_loopw [5, 6] (fun v i wr => ∃ k : Nat, i = .int .i64 k ∧ k ≤ min n lb ∧ Aside (wr.ownsRow w.heap.size 3 1 v (sitesTo b k).length (ints (sitesTo b k))) ∧ Aside (Below w.heap.size w wr)) (fun _ i _ => min n lb - (intOf i).toNat)
  case atStart => exact ⟨0, rfl, Nat.zero_le _, ⟨by simpa [sitesTo, ints] using HO.out⟩, HBW⟩
  case round =>
    obtain ⟨k, rfl, hk, HK, HW⟩ := hrel
    by_cases hlt : k < min n lb
    · obtain ⟨x, hx⟩ : ∃ x, b[k]? = some x := ⟨_, List.getElem?_eq_getElem (by omega)⟩
      obtain ⟨ad, rfl⟩ : ∃ ad, A = some ad := by
        cases A with
        | some ad => exact ⟨ad, rfl⟩
        | none => have := hnil rfl; omega
      have hc := HB.out ad rfl k x hx
      have hkn : k < n := by omega
      have hkl : k < lb := by omega
      have hkc : k < cb := by omega
      have hcell : wr.cell? (ad.add k) = some (.int .u8 (x : Int)) := by
        rw [HW.out.cell (World.block_lt_of_cell? _ _ hc)]; exact hc
      have HX := Aside.mk hx
      have HLT := Aside.mk hlt
      have HKK := Aside.mk hk
      clear hc hx hlt hk hl
      by_cases hodd : x % 2 = 1
      · have hle := sitesTo_le b k
        have hws := HW.out.size
        have hk40 : k < 40 := by omega
        have hbit : bits .and .u8 (x : Int) 1 = 1 := by
          rw [and1_at (H256.out x (List.mem_of_getElem? HX.out)), hodd]; rfl
        have hgd : b.getD k 0 = x := by rw [List.getD_eq_getElem?_getD, HX.out]; rfl
        have hS : sitesTo b (k + 1) = sitesTo b k ++ [k] := by rw [sitesTo_succ, hgd, if_pos hodd]
        have HS := Aside.mk hS
        clear hS hgd
        go_wp2_with (first
          | (at_builtin; refine wpList_append_own_at _ rfl _ _ 31 rfl w.heap.size 3 i0 (.int .i64 0) 1 8 Tryz.underlying31 hi hz0 hz1 hz2 rfl (by decide) _ _ _ rfl (HK.out.alloc _) ⟨wr.heap.size, 0, none⟩ 1 1 [.int .i64 (k : Int)] rfl rfl (cell_one_new _ _ _) (ints_oneCell .i64 [(k : Int)]) (by unfold maxLen; omega) (by omega) (by simp; omega) ?_; intro v' w1 hown' hgrow hnil hloc)
          | go_in)
        have hm := HLT.out
        refine ⟨⟨k + 1, by simp, by omega, ⟨?_⟩, ⟨(HW.out.alloc hws _).grown hgrow (by simp; omega) (fun g hg => ?_)⟩⟩, ?_⟩
        · rw [HS.out]
          simpa [ints] using hown'
        · exact (HK.out.lt g hg).1
        · simp only [intOf]
          omega
      · have hbit : bits .and .u8 (x : Int) 1 = 0 := by
          have h0 : x % 2 = 0 := by omega
          rw [and1_at (H256.out x (List.mem_of_getElem? HX.out)), h0]; rfl
        have hgd : b.getD k 0 = x := by rw [List.getD_eq_getElem?_getD, HX.out]; rfl
        have hS : sitesTo b (k + 1) = sitesTo b k := by rw [sitesTo_succ, hgd, if_neg hodd]
        have HS := Aside.mk hS
        clear hS hgd
        go_wp2
        have hm := HLT.out
        refine ⟨⟨k + 1, by simp, by omega, ⟨by rw [HS.out]; exact HK.out⟩, HW⟩, ?_⟩
        simp only [intOf]
        omega
    · have hkm : k = min n lb := by omega
      have HKM := Aside.mk hkm
      have hor : ¬ (k < n) ∨ (k < n ∧ ¬ (k < lb)) := by omega
      clear hkm hlt hk
      rcases hor with h | ⟨h0, h⟩
      · go_wp2
        go_ret
        rw [← HKM.out]
        exact ⟨_, rfl, HK.out, HW.out⟩
      · go_wp2
        go_ret
        rw [← HKM.out]
        exact ⟨_, rfl, HK.out, HW.out⟩
#print axioms sites_any
end Go.Proofs.YtjmiaemabhlnjaaGreatDoor.Chains
