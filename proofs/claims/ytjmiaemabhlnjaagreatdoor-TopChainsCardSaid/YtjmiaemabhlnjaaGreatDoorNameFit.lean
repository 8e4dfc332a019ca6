import Derived.Test.YtjmiaemabhlnjaaGreatDoorSites
import Derived.Deep.QuietTactic
import Derived.Laws.BytesArg
set_option linter.all false
set_option maxRecDepth 20000
/-! rivetref07.Fit: some name of at most seven bytes. -/
namespace Go.Proofs.YtjmiaemabhlnjaaGreatDoor.Chains
open Go Go.RowKit

def twelve : ByteArray := ⟨#[97, 98, 99, 88, 89, 90, 95, 48, 49, 57, 82, 109]⟩
theorem slice_one (q : Nat) (h : q < 12) : ∃ x : ByteArray, x.size = 1 ∧ ∀ w : World, (Instr.slice 9 (.string { data := #[97, 98, 99, 88, 89, 90, 95, 48, 49, 57, 82, 109] }) (some (.int .i64 (q : Int))) (some (.int .i64 ((q : Int) + 1))) none).run Tryz.prog w = .ok (.string x) w := by
  have : q = 0 ∨ q = 1 ∨ q = 2 ∨ q = 3 ∨ q = 4 ∨ q = 5 ∨ q = 6 ∨ q = 7 ∨ q = 8 ∨ q = 9 ∨ q = 10 ∨ q = 11 := by omega
  rcases this with rfl | rfl | rfl | rfl | rfl | rfl | rfl | rfl | rfl | rfl | rfl | rfl
  · exact ⟨⟨#[97]⟩, rfl, fun w => by kernel_rfl⟩
  · exact ⟨⟨#[98]⟩, rfl, fun w => by kernel_rfl⟩
  · exact ⟨⟨#[99]⟩, rfl, fun w => by kernel_rfl⟩
  · exact ⟨⟨#[88]⟩, rfl, fun w => by kernel_rfl⟩
  · exact ⟨⟨#[89]⟩, rfl, fun w => by kernel_rfl⟩
  · exact ⟨⟨#[90]⟩, rfl, fun w => by kernel_rfl⟩
  · exact ⟨⟨#[95]⟩, rfl, fun w => by kernel_rfl⟩
  · exact ⟨⟨#[48]⟩, rfl, fun w => by kernel_rfl⟩
  · exact ⟨⟨#[49]⟩, rfl, fun w => by kernel_rfl⟩
  · exact ⟨⟨#[57]⟩, rfl, fun w => by kernel_rfl⟩
  · exact ⟨⟨#[82]⟩, rfl, fun w => by kernel_rfl⟩
  · exact ⟨⟨#[109]⟩, rfl, fun w => by kernel_rfl⟩

theorem name_any (w : World) (s : ByteArray) (hs : s.size ≤ maxLen) :
    Calls Tryz.prog 29 #[.string s] w fun e w' => ∃ t : ByteArray, e = .returned (.string t) ∧ t.size ≤ 7 ∧ Below w.heap.size w w' := by
  have hconv : ∀ c : Int, (convert 23 9 (.slice (some ⟨w.heap.size, 0, none⟩) 1 1)).run Tryz.prog (w.alloc (.cells #[.int .u8 c] 5)) = .ok (.string (strOfNums [c])) (w.alloc (.cells #[.int .u8 c] 5)) := fun c =>
    run_convert_bytes_arg (w.alloc (.cells #[.int .u8 c] 5)) 23 5 Tryz.underlying23 Tryz.underlying5 w.heap.size 0 1 1 [c] rfl (fun i hi => by
      obtain rfl : i = 0 := by omega
      rw [World.cell?_alloc_at _ _ _ _ rfl]; rfl) 9 Tryz.underlying9
  have hsz : ∀ c : Int, (strOfNums [c]).size = 1 := fun c => rfl
  have B0 := (Below.refl w.heap.size w).alloc (Nat.le_refl _) (.cells #[.int .u8 (97 + (s.size : Int) % 26)] 5)
  have HB := Aside.mk B0
  have HS := Aside.mk hsz
  clear B0 hsz
  go_enter Tryz.func29, Tryz.ntmps29
  go_wp2_with fail
  go_loopw [4, 5] (fun v i wr => ∃ (t : ByteArray) (k : Nat), v = .string t ∧ i = .int .i64 k ∧ k ≤ 6 ∧ Aside (t.size ≤ k + 1) ∧ Aside (Below w.heap.size w wr)) (fun _ i _ => 6 - (intOf i).toNat)
  case atStart => exact ⟨_, 0, rfl, rfl, by omega, ⟨by rw [HS.out]; omega⟩, HB⟩
  case round =>
    obtain ⟨t, k, rfl, rfl, hk, HT, HW⟩ := hrel
    by_cases h1 : k < s.size
    · by_cases h2 : k < 6
      · go_wp2_with fail
        have hlt := (s[k]'h1).toNat_lt
        generalize hd : (s[k]'h1).toNat = d at hlt
        have hw1 : wrap64 (d : Int) = (d : Int) := by simp [wrap64, IntKind.wrap, IntKind.bits, IntKind.signed]; omega
        have ht1 : (d : Int).tmod 12 = ((d % 12 : Nat) : Int) := rfl
        have hq : d % 12 < 12 := Nat.mod_lt _ (by omega)
        generalize d % 12 = q at ht1 hq
        have hw2 : wrap64 ((q : Int) + 1) = (q : Int) + 1 := by simp [wrap64, IntKind.wrap, IntKind.bits, IntKind.signed]; omega
        obtain ⟨x, hx1, hxs⟩ := slice_one q hq
        have htx : ¬ (9223372036854775807 < t.size + x.size) := by have := HT.out; omega
        have HX := Aside.mk hx1
        have HXT : Aside ((t ++ x).size ≤ k + 1 + 1) := ⟨by have := HT.out; rw [ByteArray.size_append, hx1]; omega⟩
        go_region
        generalize t ++ x = tx at HXT
        have HW2 := Aside.mk HW.out.drew
        go_wp2
        go_roundw
        case rel => exact ⟨tx, k + 1, rfl, by go_num, by omega, HXT, HW2⟩
        case measure => simp [intOf]; omega
      · go_wp2
        go_ret
        exact ⟨t, rfl, by have := HT.out; omega, HW.out⟩
    · go_wp2
      go_ret
      exact ⟨t, rfl, by have := HT.out; omega, HW.out⟩
end Go.Proofs.YtjmiaemabhlnjaaGreatDoor.Chains
