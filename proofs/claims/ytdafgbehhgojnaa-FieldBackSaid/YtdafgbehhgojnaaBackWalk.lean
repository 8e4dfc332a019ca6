/-
  FieldBack's walk: what was set is got, and nothing else is changed.
-/
import Derived.Test.YtdafgbehhgojnaaLaws
namespace Go.Proofs.Ytdafgbehhgojnaa.Laws
open Go.RowKit Go.Proofs.Ytdafgbehhgojnaa.FieldM Go.Proofs.Ytdafgbehhgojnaa.Field

set_option maxHeartbeats 1600000 in
theorem back_raw (w x n0 n1 a k : Nat) (W : World) (hw : w < 4294967296) (hx : x < 4294967296) (e0 : (n0 : Int) % 32 = a) (ha2 : a ≤ 31) (e1 : (n1 : Int) % (33 - (a : Int)) = k) (hk2 : k + a ≤ 32)
   (h0 : n0 < 256) (h1 : n1 < 256)
   (f1 : ((getN (setN w a k x) a k : Int) == bits .and .u32 x (((2 : Int) ^ k - 1) % 4294967296)) = true)
   (f2 : (bits .andNot .u32 (setN w a k x) (IntKind.u32.wrap (((2 : Int) ^ k - 1) % 4294967296 * 2 ^ a)) == bits .andNot .u32 w (IntKind.u32.wrap (((2 : Int) ^ k - 1) % 4294967296 * 2 ^ a))) = true)
   (f3 : ((setN w a k (getN w a k) : Int) == w) = true)
   (f4 : ((getN (setN w a k x) 0 a : Int) == getN w 0 a) = true) :
   Calls Try.prog 3 #[.int .u32 w, .int .u32 x, .agg #[.int .u8 n0, .int .u8 n1]] W fun e w' => e = .returned (.bool true) ∧ Below W.heap.size W w' := by
  go_enter Try.func3, Try.ntmps3
  go_wp2_with fail
  refine (shown_any _).mono ?_; rintro e w1 ⟨rfl, hb⟩
  have c0 := cell_new hb 0 _ rfl
  have c1 := cell_new hb 1 _ rfl
  have HB : Bl W w1 := (Bl.one W _).then hb
  clear hb
  go_wp2_with (first | (go_at_call 9; refine (set_b W _ _ _ _ (by first | assumption) (by first | assumption | exact getN_lt _ _ _) (by omega) _ (by assumption)).mono ?_; rintro e w1 ⟨rfl, hb⟩) )
  clear e0 e1 c0 c1
  go_region_held3 (fun w' => Bl W w') (first | assumption | (apply Bl.drew; assumption)) (first | (go_at_call 10; refine (get_b W _ _ _ ?_ ?_ _ ?_).mono ?_; (first | assumption | exact setN_lt _ _ _ _); omega; assumption; rintro e w1 ⟨rfl, hb⟩) | (go_at_call 9; refine (set_b W _ _ _ _ ?_ ?_ ?_ _ ?_).mono ?_; assumption; exact getN_lt _ _ _; omega; assumption; rintro e w1 ⟨rfl, hb⟩))
  all_goals (try go_wp2)
  all_goals go_ret
  exact ⟨rfl, (by assumption : Bl W _).out⟩

theorem back_walk (a0 a1 n0 n1 : Int) (W : World) (w0 : (Lit.int .u32 a0).wf = true) (w1 : (Lit.int .u32 a1).wf = true) (v0 : (Lit.int .u8 n0).wf = true) (v1 : (Lit.int .u8 n1).wf = true) :
    Calls Try.prog 3 #[.int .u32 a0, .int .u32 a1, .agg #[.int .u8 n0, .int .u8 n1]] W fun e w' => e = .returned (.bool true) ∧ Below W.heap.size W w' := by
  obtain ⟨p0, q0⟩ := wf32 w0
  obtain ⟨p1, q1⟩ := wf32 w1
  obtain ⟨p2, q2⟩ := wf8 v0
  obtain ⟨p3, q3⟩ := wf8 v1
  obtain ⟨w, rfl⟩ := Int.eq_ofNat_of_zero_le p0
  obtain ⟨x, rfl⟩ := Int.eq_ofNat_of_zero_le p1
  obtain ⟨m, rfl⟩ := Int.eq_ofNat_of_zero_le p2
  obtain ⟨n, rfl⟩ := Int.eq_ofNat_of_zero_le p3
  have hw : w < 4294967296 := by omega
  have hx : x < 4294967296 := by omega
  obtain ⟨a, ha⟩ : ∃ a, a = m % 32 := ⟨_, rfl⟩
  obtain ⟨k, hk⟩ : ∃ k, k = n % (33 - a) := ⟨_, rfl⟩
  have ha2 : a ≤ 31 := by omega
  have hk2 : k + a ≤ 32 := by have := Nat.mod_lt n (show 0 < 33 - a by omega); omega
  have e1 : (n : Int) % (33 - (a : Int)) = k := by
    rw [show 33 - (a : Int) = ((33 - a : Nat) : Int) by omega, hk]; rfl
  have me : ((2 : Int) ^ k - 1) % 4294967296 = ((2 ^ k - 1 : Nat) : Int) := by
    have := mask_int (k := k) (by omega)
    rwa [Int.emod_sub_emod] at this
  have mw : IntKind.u32.wrap (((2 ^ k - 1 : Nat) : Int) * 2 ^ a) = (((2 ^ k - 1) * 2 ^ a : Nat) : Int) := by
    rw [← mask_shift hk2]; simp [IntKind.wrap, IntKind.bits, IntKind.signed]
  have ml := mask_lt hk2
  have pl : 2 ^ k - 1 < 4294967296 := by
    have : 2 ^ k ≤ 4294967296 := Nat.pow_le_pow_right (n := 2) (j := 32) (by decide) (by omega)
    omega
  refine back_raw w x m n a k W hw hx (by omega) ha2 e1 hk2 (by omega) (by omega) ?_ ?_ ?_ ?_
  · rw [me, u32_and_nat x _ hx pl, back1 w x a k hk2 hw]; simp
  · rw [me, mw, u32_andNot_nat _ _ (setN_lt _ _ _ _) ml, u32_andNot_nat _ _ hw ml, back2 w x a k hk2 hw]; simp
  · rw [back3 w a k hk2 hw]; simp
  · have := back4 w x a k hk2 hw
    rw [show ((0 : Nat) : Int) = 0 from rfl] at this
    rw [this]; simp
end Go.Proofs.Ytdafgbehhgojnaa.Laws
