/-
  The contracts of package field: what each function returns, for any numbers; nothing that was there is changed.
-/
import Derived.Test.YtjmiaemabhlnjaaGreatDoorProg
import Derived.WalkKit
import Derived.KernelRfl
import Derived.RowKit3
import Derived.Deep.LoopGhost
import Derived.Deep.QuietTactic
import Derived.BigQuiet
import Derived.OwnWalk
import Derived.RegionTactic
import Derived.ChangeAlike
import Derived.Test.YtjmiaemabhlnjaaGreatDoorMath
namespace Go.Proofs.YtjmiaemabhlnjaaGreatDoor.Field
open Go.RowKit Go.Proofs.YtjmiaemabhlnjaaGreatDoor.FieldM

/-- What a loop over a captured number keeps: the number, what it is made of, and all below. -/
def Keeps (base B B1 : Nat) (x o : Int) (w wr : World) : Prop :=
  wr.cell? ⟨B, 0, none⟩ = some (.int .u32 o) ∧ wr.cell? ⟨B1, 0, none⟩ = some (.int .u32 x) ∧ wr.frozen? ⟨B, 0, none⟩ = false ∧ Below base w wr
theorem Keeps.step {base B B1 : Nat} {x o : Int} {w wr : World} (h : Keeps base B B1 x o w wr) (hb : base ≤ B) (hne : B1 ≠ B) (o' : Int) :
    Keeps base B B1 x o' w (wr.setCell ⟨B, 0, none⟩ (.int .u32 o')).drew := by
  obtain ⟨h1, h2, h3, h4⟩ := h
  refine ⟨?_, ?_, ?_, (h4.setCell hb _).drew⟩
  · rw [World.cell?_drew, World.cell?_setCell_same _ _ _ h1]
  · rw [World.cell?_drew, World.cell?_setCell_other _ _ _ _ (by intro e; injection e with e; exact hne e.symm)]
    exact h2
  · rw [World.frozen?_drew, World.frozen?_setCell]
    exact h3
/-- At the start: two boxes have just been made. -/
theorem keeps_second (w : World) (T1 T2 : TypeId) (x o : Int) :
    Keeps w.heap.size (w.heap.size + 1) w.heap.size x o ((w.alloc (.cells #[.int .u32 x] T1)).alloc (.cells #[.int .u32 o] T2)) ((w.alloc (.cells #[.int .u32 x] T1)).alloc (.cells #[.int .u32 o] T2)) := by
  refine ⟨?_, ?_, ?_, Below.refl _ _⟩
  · rw [World.cell?_alloc_at _ _ _ _ (by simp)]; rfl
  · rw [World.cell?_alloc_past _ _ _ (by simp), World.cell?_alloc_at _ _ _ _ rfl]; rfl
  · exact World.frozen?_alloc_at _ _ _ _ (by simp)
theorem keeps_first (w : World) (T1 T2 : TypeId) (x o : Int) :
    Keeps w.heap.size w.heap.size (w.heap.size + 1) x o ((w.alloc (.cells #[.int .u32 o] T1)).alloc (.cells #[.int .u32 x] T2)) ((w.alloc (.cells #[.int .u32 o] T1)).alloc (.cells #[.int .u32 x] T2)) := by
  refine ⟨?_, ?_, ?_, Below.refl _ _⟩
  · rw [World.cell?_alloc_past _ _ _ (by simp), World.cell?_alloc_at _ _ _ _ rfl]; rfl
  · rw [World.cell?_alloc_at _ _ _ _ (by simp)]; rfl
  · rw [World.frozen?_alloc_past _ _ _ (by simp)]
    exact World.frozen?_alloc_at _ _ _ _ rfl
theorem below_two (w : World) (o o' : Obj) {w1 : World} (h : Below w.heap.size ((w.alloc o).alloc o') w1) : Below w.heap.size w w1 :=
  (((Below.refl _ _).alloc (Nat.le_refl _) o).alloc (by simp) o').trans h

/-- The bounds are hidden from the walk's rules. -/
structure Aside (q : Prop) : Prop where mk :: (out : q)


set_option maxHeartbeats 800000 in
theorem cl_get (i p o x : Int) (B B1 : Nat) (w : World) (hi : 0 ≤ i) (hi2 : i < 32) (hp : 0 ≤ p) (hB : w.cell? ⟨B, 0, none⟩ = some (.int .u32 o)) (hB1 : w.cell? ⟨B1, 0, none⟩ = some (.int .u32 x)) (hf : w.frozen? ⟨B, 0, none⟩ = false) :
    Calls Tryz.prog 146 #[.int .i64 i, .int .i64 p, .pointer (some ⟨B, 0, none⟩), .pointer (some ⟨B1, 0, none⟩)] w fun e w' => e = .returned (.tuple #[]) ∧ w' = (w.setCell ⟨B, 0, none⟩ (.int .u32 (orI x i p o))).drew := by
  go_enter Tryz.func146, Tryz.ntmps146
  go_region
  all_goals (try go_wp2)
  all_goals go_end0
  all_goals exact ⟨rfl, rfl⟩


set_option maxHeartbeats 1600000 in
theorem each_get_hi (a n x o : Int) (base B B1 : Nat) (w : World) (h1 : 1 ≤ n) (h2 : a < 32) (h3 : -n < a) (h4 : n ≤ 9223372036854775807) (h5 : 0 ≤ a)
    (hb : base ≤ B) (hne : B1 ≠ B) (hk : Aside (Keeps base B B1 x o w w)) :
    Calls Tryz.prog 145 #[.int .i64 a, .int .i64 n, .func (.func 146) #[] #[.pointer (some ⟨B, 0, none⟩), .pointer (some ⟨B1, 0, none⟩)]] w fun e w' =>
      e = .returned (.tuple #[]) ∧ Keeps base B B1 x (loopF (fun i o => orI x i (i - a) o) a n (32 - a).toNat a o) w w' := by
  obtain ⟨R, hR⟩ : ∃ R, loopF (fun i o => orI x i (i - a) o) a n (32 - a).toNat a o = R := ⟨_, rfl⟩
  have HR := Aside.mk hR
  rw [hR]
  clear hR
  go_enter Tryz.func145, Tryz.ntmps145
  go_wp2_with fail
  go_loopw [6] (fun i wr => ∃ k : Int, ∃ o' : Int, i = .int .i64 k ∧ 0 ≤ k ∧ k ≤ 32 ∧ a ≤ k ∧ k - a ≤ n ∧ Aside (Keeps base B B1 x o' w wr) ∧ Aside (loopF (fun i o => orI x i (i - a) o) a n (32 - k).toNat k o' = R))
     (fun i _ => 32 - (intOf i).toNat)
  case atStart => exact ⟨a, o, rfl, by omega, by omega, by omega, by omega, hk, HR⟩
  case round =>
    obtain ⟨k, o', rfl, hk0, hk1, hk2, hk3, HK, HR2⟩ := hrel
    by_cases c1 : k < 32
    · by_cases c2 : k - a < n
      · have e1 := HK.out.1
        have e2 := HK.out.2.1
        have e3 := HK.out.2.2.1
        go_wp2_with (go_at_call 146; refine (cl_get _ _ _ _ _ _ _ (by omega) (by omega) (by omega) e1 e2 e3).mono ?_; rintro e w' ⟨rfl, rfl⟩)
        go_roundw
        case rel => exact ⟨k + 1, _, rfl, by omega, by omega, by omega, by omega, ⟨HK.out.step hb hne _⟩, ⟨loopF_go (step := fun i o => orI x i (i - a) o) HR2.out c1 c2⟩⟩
        case measure => simp [intOf]; omega
      · have hend := Aside.mk (loopF_end HR2.out (fun h => c2 h.2))
        go_wp2
        go_end0
        rw [← hend.out]
        exact ⟨rfl, HK.out⟩
    · have hend := Aside.mk (loopF_end HR2.out (fun h => c1 h.1))
      go_wp2
      go_end0
      rw [← hend.out]
      exact ⟨rfl, HK.out⟩


set_option maxHeartbeats 1600000 in
theorem each_get_lo (a n x o : Int) (base B B1 : Nat) (w : World) (h1 : 1 ≤ n) (h2 : a < 32) (h3 : -n < a) (h4 : n ≤ 9223372036854775807) (h5 : a < 0)
    (hb : base ≤ B) (hne : B1 ≠ B) (hk : Aside (Keeps base B B1 x o w w)) :
    Calls Tryz.prog 145 #[.int .i64 a, .int .i64 n, .func (.func 146) #[] #[.pointer (some ⟨B, 0, none⟩), .pointer (some ⟨B1, 0, none⟩)]] w fun e w' =>
      e = .returned (.tuple #[]) ∧ Keeps base B B1 x (loopF (fun i o => orI x i (i - a) o) a n (32 - (0 : Int)).toNat 0 o) w w' := by
  obtain ⟨R, hR⟩ : ∃ R, loopF (fun i o => orI x i (i - a) o) a n (32 - (0 : Int)).toNat 0 o = R := ⟨_, rfl⟩
  have HR := Aside.mk hR
  rw [hR]
  clear hR
  go_enter Tryz.func145, Tryz.ntmps145
  go_wp2_with fail
  go_loopw [6] (fun i wr => ∃ k : Int, ∃ o' : Int, i = .int .i64 k ∧ 0 ≤ k ∧ k ≤ 32 ∧ a ≤ k ∧ k - a ≤ n ∧ Aside (Keeps base B B1 x o' w wr) ∧ Aside (loopF (fun i o => orI x i (i - a) o) a n (32 - k).toNat k o' = R))
     (fun i _ => 32 - (intOf i).toNat)
  case atStart => exact ⟨0, o, rfl, by omega, by omega, by omega, by omega, hk, HR⟩
  case round =>
    obtain ⟨k, o', rfl, hk0, hk1, hk2, hk3, HK, HR2⟩ := hrel
    by_cases c1 : k < 32
    · by_cases c2 : k - a < n
      · have e1 := HK.out.1
        have e2 := HK.out.2.1
        have e3 := HK.out.2.2.1
        go_wp2_with (go_at_call 146; refine (cl_get _ _ _ _ _ _ _ (by omega) (by omega) (by omega) e1 e2 e3).mono ?_; rintro e w' ⟨rfl, rfl⟩)
        go_roundw
        case rel => exact ⟨k + 1, _, rfl, by omega, by omega, by omega, by omega, ⟨HK.out.step hb hne _⟩, ⟨loopF_go (step := fun i o => orI x i (i - a) o) HR2.out c1 c2⟩⟩
        case measure => simp [intOf]; omega
      · have hend := Aside.mk (loopF_end HR2.out (fun h => c2 h.2))
        go_wp2
        go_end0
        rw [← hend.out]
        exact ⟨rfl, HK.out⟩
    · have hend := Aside.mk (loopF_end HR2.out (fun h => c1 h.1))
      go_wp2
      go_end0
      rw [← hend.out]
      exact ⟨rfl, HK.out⟩


set_option maxHeartbeats 800000 in
theorem each_get_none (a n x o : Int) (base B B1 : Nat) (w : World) (h4 : n ≤ 9223372036854775807) (hc : n < 1 ∨ 32 ≤ a ∨ a ≤ -n) (hk : Aside (Keeps base B B1 x o w w)) :
    Calls Tryz.prog 145 #[.int .i64 a, .int .i64 n, .func (.func 146) #[] #[.pointer (some ⟨B, 0, none⟩), .pointer (some ⟨B1, 0, none⟩)]] w fun e w' =>
      e = .returned (.tuple #[]) ∧ Keeps base B B1 x o w w' := by
  by_cases c1 : n < 1
  · clear hc
    go_enter Tryz.func145, Tryz.ntmps145
    go_wp2
    refine bodyPost_ret (results_none rfl _ _ _) rfl ?_
    exact ⟨rfl, hk.out⟩
  · by_cases c2 : 32 ≤ a
    · clear hc
      go_enter Tryz.func145, Tryz.ntmps145
      go_wp2
      refine bodyPost_ret (results_none rfl _ _ _) rfl ?_
      exact ⟨rfl, hk.out⟩
    · have c3 : a ≤ -n := by omega
      clear hc
      go_enter Tryz.func145, Tryz.ntmps145
      go_wp2
      refine bodyPost_ret (results_none rfl _ _ _) rfl ?_
      exact ⟨rfl, hk.out⟩

theorem each_get (a n x o : Int) (base B B1 : Nat) (w : World) (h4 : n ≤ 9223372036854775807) (hb : base ≤ B) (hne : B1 ≠ B) (hk : Keeps base B B1 x o w w) :
    Calls Tryz.prog 145 #[.int .i64 a, .int .i64 n, .func (.func 146) #[] #[.pointer (some ⟨B, 0, none⟩), .pointer (some ⟨B1, 0, none⟩)]] w fun e w' =>
      e = .returned (.tuple #[]) ∧ Keeps base B B1 x (eachR (fun i o => orI x i (i - a) o) a n o) w w' := by
  unfold eachR
  by_cases c : n < 1 ∨ 32 ≤ a ∨ a ≤ -n
  · rw [if_pos c]
    exact each_get_none a n x o base B B1 w h4 c ⟨hk⟩
  · rw [if_neg c]
    by_cases h5 : 0 ≤ a
    · rw [show max a 0 = a by omega]
      exact each_get_hi a n x o base B B1 w (by omega) (by omega) (by omega) h4 h5 hb hne ⟨hk⟩
    · rw [show max a 0 = 0 by omega]
      exact each_get_lo a n x o base B B1 w (by omega) (by omega) (by omega) h4 (by omega) hb hne ⟨hk⟩


set_option maxHeartbeats 800000 in
theorem cl_set (i p o x : Int) (B B1 : Nat) (w : World) (hi : 0 ≤ i) (hi2 : i < 32) (hp : 0 ≤ p) (hB : w.cell? ⟨B, 0, none⟩ = some (.int .u32 o)) (hB1 : w.cell? ⟨B1, 0, none⟩ = some (.int .u32 x)) (hf : w.frozen? ⟨B, 0, none⟩ = false) :
    Calls Tryz.prog 194 #[.int .i64 i, .int .i64 p, .pointer (some ⟨B, 0, none⟩), .pointer (some ⟨B1, 0, none⟩)] w fun e w' => e = .returned (.tuple #[]) ∧ w' = (w.setCell ⟨B, 0, none⟩ (.int .u32 (putI x i p o))).drew := by
  go_enter Tryz.func194, Tryz.ntmps194
  go_region
  all_goals (try go_wp2)
  all_goals go_end0
  all_goals exact ⟨rfl, rfl⟩


set_option maxHeartbeats 1600000 in
theorem each_set_hi (a n x o : Int) (base B B1 : Nat) (w : World) (h1 : 1 ≤ n) (h2 : a < 32) (h3 : -n < a) (h4 : n ≤ 9223372036854775807) (h5 : 0 ≤ a)
    (hb : base ≤ B) (hne : B1 ≠ B) (hk : Aside (Keeps base B B1 x o w w)) :
    Calls Tryz.prog 145 #[.int .i64 a, .int .i64 n, .func (.func 194) #[] #[.pointer (some ⟨B, 0, none⟩), .pointer (some ⟨B1, 0, none⟩)]] w fun e w' =>
      e = .returned (.tuple #[]) ∧ Keeps base B B1 x (loopF (fun i o => putI x i (i - a) o) a n (32 - a).toNat a o) w w' := by
  obtain ⟨R, hR⟩ : ∃ R, loopF (fun i o => putI x i (i - a) o) a n (32 - a).toNat a o = R := ⟨_, rfl⟩
  have HR := Aside.mk hR
  rw [hR]
  clear hR
  go_enter Tryz.func145, Tryz.ntmps145
  go_wp2_with fail
  go_loopw [6] (fun i wr => ∃ k : Int, ∃ o' : Int, i = .int .i64 k ∧ 0 ≤ k ∧ k ≤ 32 ∧ a ≤ k ∧ k - a ≤ n ∧ Aside (Keeps base B B1 x o' w wr) ∧ Aside (loopF (fun i o => putI x i (i - a) o) a n (32 - k).toNat k o' = R))
     (fun i _ => 32 - (intOf i).toNat)
  case atStart => exact ⟨a, o, rfl, by omega, by omega, by omega, by omega, hk, HR⟩
  case round =>
    obtain ⟨k, o', rfl, hk0, hk1, hk2, hk3, HK, HR2⟩ := hrel
    by_cases c1 : k < 32
    · by_cases c2 : k - a < n
      · have e1 := HK.out.1
        have e2 := HK.out.2.1
        have e3 := HK.out.2.2.1
        go_wp2_with (go_at_call 194; refine (cl_set _ _ _ _ _ _ _ (by omega) (by omega) (by omega) e1 e2 e3).mono ?_; rintro e w' ⟨rfl, rfl⟩)
        go_roundw
        case rel => exact ⟨k + 1, _, rfl, by omega, by omega, by omega, by omega, ⟨HK.out.step hb hne _⟩, ⟨loopF_go (step := fun i o => putI x i (i - a) o) HR2.out c1 c2⟩⟩
        case measure => simp [intOf]; omega
      · have hend := Aside.mk (loopF_end HR2.out (fun h => c2 h.2))
        go_wp2
        go_end0
        rw [← hend.out]
        exact ⟨rfl, HK.out⟩
    · have hend := Aside.mk (loopF_end HR2.out (fun h => c1 h.1))
      go_wp2
      go_end0
      rw [← hend.out]
      exact ⟨rfl, HK.out⟩


set_option maxHeartbeats 1600000 in
theorem each_set_lo (a n x o : Int) (base B B1 : Nat) (w : World) (h1 : 1 ≤ n) (h2 : a < 32) (h3 : -n < a) (h4 : n ≤ 9223372036854775807) (h5 : a < 0)
    (hb : base ≤ B) (hne : B1 ≠ B) (hk : Aside (Keeps base B B1 x o w w)) :
    Calls Tryz.prog 145 #[.int .i64 a, .int .i64 n, .func (.func 194) #[] #[.pointer (some ⟨B, 0, none⟩), .pointer (some ⟨B1, 0, none⟩)]] w fun e w' =>
      e = .returned (.tuple #[]) ∧ Keeps base B B1 x (loopF (fun i o => putI x i (i - a) o) a n (32 - (0 : Int)).toNat 0 o) w w' := by
  obtain ⟨R, hR⟩ : ∃ R, loopF (fun i o => putI x i (i - a) o) a n (32 - (0 : Int)).toNat 0 o = R := ⟨_, rfl⟩
  have HR := Aside.mk hR
  rw [hR]
  clear hR
  go_enter Tryz.func145, Tryz.ntmps145
  go_wp2_with fail
  go_loopw [6] (fun i wr => ∃ k : Int, ∃ o' : Int, i = .int .i64 k ∧ 0 ≤ k ∧ k ≤ 32 ∧ a ≤ k ∧ k - a ≤ n ∧ Aside (Keeps base B B1 x o' w wr) ∧ Aside (loopF (fun i o => putI x i (i - a) o) a n (32 - k).toNat k o' = R))
     (fun i _ => 32 - (intOf i).toNat)
  case atStart => exact ⟨0, o, rfl, by omega, by omega, by omega, by omega, hk, HR⟩
  case round =>
    obtain ⟨k, o', rfl, hk0, hk1, hk2, hk3, HK, HR2⟩ := hrel
    by_cases c1 : k < 32
    · by_cases c2 : k - a < n
      · have e1 := HK.out.1
        have e2 := HK.out.2.1
        have e3 := HK.out.2.2.1
        go_wp2_with (go_at_call 194; refine (cl_set _ _ _ _ _ _ _ (by omega) (by omega) (by omega) e1 e2 e3).mono ?_; rintro e w' ⟨rfl, rfl⟩)
        go_roundw
        case rel => exact ⟨k + 1, _, rfl, by omega, by omega, by omega, by omega, ⟨HK.out.step hb hne _⟩, ⟨loopF_go (step := fun i o => putI x i (i - a) o) HR2.out c1 c2⟩⟩
        case measure => simp [intOf]; omega
      · have hend := Aside.mk (loopF_end HR2.out (fun h => c2 h.2))
        go_wp2
        go_end0
        rw [← hend.out]
        exact ⟨rfl, HK.out⟩
    · have hend := Aside.mk (loopF_end HR2.out (fun h => c1 h.1))
      go_wp2
      go_end0
      rw [← hend.out]
      exact ⟨rfl, HK.out⟩


set_option maxHeartbeats 800000 in
theorem each_set_none (a n x o : Int) (base B B1 : Nat) (w : World) (h4 : n ≤ 9223372036854775807) (hc : n < 1 ∨ 32 ≤ a ∨ a ≤ -n) (hk : Aside (Keeps base B B1 x o w w)) :
    Calls Tryz.prog 145 #[.int .i64 a, .int .i64 n, .func (.func 194) #[] #[.pointer (some ⟨B, 0, none⟩), .pointer (some ⟨B1, 0, none⟩)]] w fun e w' =>
      e = .returned (.tuple #[]) ∧ Keeps base B B1 x o w w' := by
  by_cases c1 : n < 1
  · clear hc
    go_enter Tryz.func145, Tryz.ntmps145
    go_wp2
    refine bodyPost_ret (results_none rfl _ _ _) rfl ?_
    exact ⟨rfl, hk.out⟩
  · by_cases c2 : 32 ≤ a
    · clear hc
      go_enter Tryz.func145, Tryz.ntmps145
      go_wp2
      refine bodyPost_ret (results_none rfl _ _ _) rfl ?_
      exact ⟨rfl, hk.out⟩
    · have c3 : a ≤ -n := by omega
      clear hc
      go_enter Tryz.func145, Tryz.ntmps145
      go_wp2
      refine bodyPost_ret (results_none rfl _ _ _) rfl ?_
      exact ⟨rfl, hk.out⟩

theorem each_set (a n x o : Int) (base B B1 : Nat) (w : World) (h4 : n ≤ 9223372036854775807) (hb : base ≤ B) (hne : B1 ≠ B) (hk : Keeps base B B1 x o w w) :
    Calls Tryz.prog 145 #[.int .i64 a, .int .i64 n, .func (.func 194) #[] #[.pointer (some ⟨B, 0, none⟩), .pointer (some ⟨B1, 0, none⟩)]] w fun e w' =>
      e = .returned (.tuple #[]) ∧ Keeps base B B1 x (eachR (fun i o => putI x i (i - a) o) a n o) w w' := by
  unfold eachR
  by_cases c : n < 1 ∨ 32 ≤ a ∨ a ≤ -n
  · rw [if_pos c]
    exact each_set_none a n x o base B B1 w h4 c ⟨hk⟩
  · rw [if_neg c]
    by_cases h5 : 0 ≤ a
    · rw [show max a 0 = a by omega]
      exact each_set_hi a n x o base B B1 w (by omega) (by omega) (by omega) h4 h5 hb hne ⟨hk⟩
    · rw [show max a 0 = 0 by omega]
      exact each_set_lo a n x o base B B1 w (by omega) (by omega) (by omega) h4 (by omega) hb hne ⟨hk⟩


set_option maxHeartbeats 800000 in
theorem get_raw (x a n : Int) (w : World) (h4 : n ≤ 9223372036854775807) :
    Calls Tryz.prog 113 #[.int .u32 x, .int .i64 a, .int .i64 n] w fun e w' => e = .returned (.int .u32 (eachR (fun i o => orI x i (i - a) o) a n 0)) ∧ Below w.heap.size w w' := by
  have hmf : ∀ (fn : Fn) (first cap : Array Value) (w : World), (Instr.makeFunc fn first cap).run Tryz.prog w = .ok (.func fn first cap) w := fun _ _ _ _ => rfl
  go_enter Tryz.func113, Tryz.ntmps113
  go_wp2_with fail
  refine (each_get a n x 0 w.heap.size _ _ _ h4 (Nat.le_succ _) (by omega) (keeps_second w _ _ x 0)).mono ?_
  rintro e w1 ⟨rfl, hk⟩
  have hb := Aside.mk (below_two w _ _ hk.2.2.2)
  have h1 := hk.1
  clear hk
  go_wp2
  go_ret
  exact ⟨rfl, hb.out⟩

/-- field.Get: the bits of the field, those that there are. -/
theorem get_any (x : Nat) (a n : Int) (w : World) (hx : x < 4294967296) (h4 : n ≤ 9223372036854775807) :
    Calls Tryz.prog 113 #[.int .u32 x, .int .i64 a, .int .i64 n] w fun e w' => e = .returned (.int .u32 (getN x a n)) ∧ Below w.heap.size w w' := by
  have h := get_raw x a n w h4
  rw [get_math x a n hx] at h
  exact h


set_option maxHeartbeats 800000 in
theorem set_raw (o a n x : Int) (w : World) (h4 : n ≤ 9223372036854775807) :
    Calls Tryz.prog 148 #[.int .u32 o, .int .i64 a, .int .i64 n, .int .u32 x] w fun e w' => e = .returned (.int .u32 (eachR (fun i o => putI x i (i - a) o) a n o)) ∧ Below w.heap.size w w' := by
  have hmf : ∀ (fn : Fn) (first cap : Array Value) (w : World), (Instr.makeFunc fn first cap).run Tryz.prog w = .ok (.func fn first cap) w := fun _ _ _ _ => rfl
  go_enter Tryz.func148, Tryz.ntmps148
  go_wp2_with fail
  refine (each_set a n x o w.heap.size _ _ _ h4 (Nat.le_refl _) (by omega) (keeps_first w _ _ x o)).mono ?_
  rintro e w1 ⟨rfl, hk⟩
  have hb := Aside.mk (below_two w _ _ hk.2.2.2)
  have h1 := hk.1
  clear hk
  go_wp2
  go_ret
  exact ⟨rfl, hb.out⟩

/-- field.Set: the word, but for the bits of the field. -/
theorem set_any (o : Nat) (a n : Int) (x : Nat) (w : World) (ho : o < 4294967296) (hx : x < 4294967296) (h4 : n ≤ 9223372036854775807) :
    Calls Tryz.prog 148 #[.int .u32 o, .int .i64 a, .int .i64 n, .int .u32 x] w fun e w' => e = .returned (.int .u32 (setN o a n x)) ∧ Below w.heap.size w w' := by
  have h := set_raw o a n x w h4
  rw [set_math o x a n ho hx] at h
  exact h

end Go.Proofs.YtjmiaemabhlnjaaGreatDoor.Field
