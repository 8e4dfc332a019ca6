/-
  The contracts of package field: numbers with a sign, and which ones fit; the reference's beside.
-/
import Derived.Test.YtjmiaemabhlnjaaGreatDoorWalks
namespace Go.Proofs.YtjmiaemabhlnjaaGreatDoor.Field
open Go.RowKit Go.Proofs.YtjmiaemabhlnjaaGreatDoor.FieldM

def kn (n : Int) : Nat := if n < 1 then 0 else if 32 < n then 31 else (n - 1).toNat
theorem kn_lt (n : Int) : kn n < 32 := by
  unfold kn
  split
  · omega
  · split <;> omega

theorem known_any (n : Int) (w : World) : Calls Tryz.prog 147 #[.int .i64 n] w fun e w' => e = .returned (.int .i64 ((kn n : Int) + 1)) ∧ w = w' := by
  unfold kn
  by_cases h : n < 1
  · rw [if_pos h]
    go_enter Tryz.func147, Tryz.ntmps147
    go_wp2
    go_ret
    exact ⟨rfl, rfl⟩
  · rw [if_neg h]
    by_cases h2 : 32 < n
    · rw [if_pos h2]
      go_enter Tryz.func147, Tryz.ntmps147
      go_wp2
      go_ret
      exact ⟨rfl, rfl⟩
    · rw [if_neg h2]
      obtain ⟨m, hm⟩ := Int.eq_ofNat_of_zero_le (show 0 ≤ n - 1 by omega)
      obtain rfl : n = (m : Int) + 1 := by omega
      rw [hm, Int.toNat_natCast]
      clear hm
      go_enter Tryz.func147, Tryz.ntmps147
      go_wp2
      go_ret
      exact ⟨rfl, rfl⟩

/-- The lowest j + 1 bits as a signed number. -/
def signedN (x j : Nat) : Int := if x % 2 ^ (j + 1) < 2 ^ j then ((x % 2 ^ (j + 1) : Nat) : Int) else ((x % 2 ^ (j + 1) : Nat) : Int) - ((2 ^ (j + 1) : Nat) : Int)

theorem signed_raw (x n : Int) (w : World) (j i : Nat) (hj : kn n = j) (hi : 32 - ((j : Int) + 1) = i) :
    Calls Tryz.prog 114 #[.int .u32 x, .int .i64 n] w fun e w' => e = .returned (.int .i64 (wrap64 (wrap32 (x * 2 ^ i % 4294967296) / 2 ^ i))) ∧ w = w' := by
  have hk := known_any n w
  rw [hj] at hk
  have H := Aside.mk hk
  have hi32 : i < 32 := by omega
  clear hk hj
  go_enter Tryz.func114, Tryz.ntmps114
  go_wp2_with (go_at_call 147; refine H.out.mono ?_; rintro e w' ⟨rfl, rfl⟩)
  go_ret
  exact ⟨rfl, rfl⟩

/-- v is a signed number of j + 1 bits. -/
def fitsN (v : Int) (j : Nat) : Bool := decide (-((2 ^ j : Nat) : Int) ≤ v ∧ v < ((2 ^ j : Nat) : Int))
theorem pow_small {j : Nat} (h : j < 32) : 0 < 2 ^ j ∧ 2 ^ j ≤ 2147483648 :=
  ⟨Nat.two_pow_pos j, Nat.pow_le_pow_right (n := 2) (j := 31) (by decide) (by omega)⟩
theorem pow_wrap {j : Nat} (h : j < 33) : wrap64 (2 ^ j) = ((2 ^ j : Nat) : Int) := by
  have h1 : 2 ^ j ≤ 4294967296 := Nat.pow_le_pow_right (n := 2) (j := 32) (by decide) (by omega)
  have h2 := Nat.two_pow_pos j
  have e : (2 : Int) ^ j = ((2 ^ j : Nat) : Int) := by simp
  rw [e]
  generalize 2 ^ j = z at *
  unfold wrap64
  omega

theorem rfits_any (v n : Int) (w : World) : Calls Tryz.prog 111 #[.int .i64 v, .int .i64 n] w fun e w' => e = .returned (.bool (fitsN v (kn n))) ∧ w = w' := by
  unfold kn fitsN
  by_cases h : n < 1
  · rw [if_pos h]
    by_cases c1 : -1 ≤ v
    · rw [show decide (-((2 ^ 0 : Nat) : Int) ≤ v ∧ v < ((2 ^ 0 : Nat) : Int)) = decide (v < 1) by apply decide_eq_decide.2; omega]
      go_enter Tryz.func111, Tryz.ntmps111
      go_wp2
      go_ret
      exact ⟨rfl, rfl⟩
    · rw [show decide (-((2 ^ 0 : Nat) : Int) ≤ v ∧ v < ((2 ^ 0 : Nat) : Int)) = false by apply decide_eq_false; omega]
      go_enter Tryz.func111, Tryz.ntmps111
      go_wp2
      go_ret
      exact ⟨rfl, rfl⟩
  · rw [if_neg h]
    by_cases h2 : 32 < n
    · rw [if_pos h2]
      by_cases c1 : -2147483648 ≤ v
      · rw [show decide (-((2 ^ 31 : Nat) : Int) ≤ v ∧ v < ((2 ^ 31 : Nat) : Int)) = decide (v < 2147483648) by apply decide_eq_decide.2; omega]
        go_enter Tryz.func111, Tryz.ntmps111
        go_wp2
        go_ret
        exact ⟨rfl, rfl⟩
      · rw [show decide (-((2 ^ 31 : Nat) : Int) ≤ v ∧ v < ((2 ^ 31 : Nat) : Int)) = false by apply decide_eq_false; omega]
        go_enter Tryz.func111, Tryz.ntmps111
        go_wp2
        go_ret
        exact ⟨rfl, rfl⟩
    · rw [if_neg h2]
      obtain ⟨m, hm⟩ := Int.eq_ofNat_of_zero_le (show 0 ≤ n - 1 by omega)
      obtain rfl : n = (m : Int) + 1 := by omega
      rw [hm, Int.toNat_natCast]
      clear hm
      have hl : m < 32 := by omega
      have hp := pow_wrap (j := m) (by omega)
      have hq := pow_small hl
      have hn : wrap64 (-2 ^ m) = -((2 ^ m : Nat) : Int) := by
        have e : (2 : Int) ^ m = ((2 ^ m : Nat) : Int) := by simp
        rw [e]
        generalize 2 ^ m = z at *
        unfold wrap64
        omega
      generalize 2 ^ m = z at hp hq hn ⊢
      by_cases c1 : -(z : Int) ≤ v
      · rw [show decide (-(z : Int) ≤ v ∧ v < (z : Int)) = decide (v < (z : Int)) by apply decide_eq_decide.2; omega]
        go_enter Tryz.func111, Tryz.ntmps111
        go_wp2
        all_goals go_ret
        exact ⟨rfl, rfl⟩
      · rw [show decide (-(z : Int) ≤ v ∧ v < (z : Int)) = false by apply decide_eq_false; omega]
        go_enter Tryz.func111, Tryz.ntmps111
        go_wp2
        all_goals go_ret
        exact ⟨rfl, rfl⟩


theorem mod_pow_nat (x k : Nat) : (x : Int) % ((2 ^ k : Nat) : Int) = ((x % 2 ^ k : Nat) : Int) := by simp

theorem rs_high (x n : Int) (w : World) (c0 : 0 ≤ x) (c1 : x < 4294967296) (h2 : 32 < n) : Calls Tryz.prog 77 #[.int .u32 x, .int .i64 n] w fun e w' =>
    e = .returned (.int .i64 (if x % 4294967296 < 2147483648 then x % 4294967296 else x % 4294967296 - 4294967296)) ∧ w = w' := by
  by_cases c : x % 4294967296 < 2147483648
  · rw [if_pos c]
    go_enter Tryz.func77, Tryz.ntmps77
    go_wp2
    go_ret
    exact ⟨rfl, rfl⟩
  · rw [if_neg c]
    go_enter Tryz.func77, Tryz.ntmps77
    go_wp2
    go_ret
    exact ⟨rfl, rfl⟩

theorem rsigned_any (x : Nat) (n : Int) (w : World) (_hx : x < 4294967296) : Calls Tryz.prog 77 #[.int .u32 x, .int .i64 n] w fun e w' => e = .returned (.int .i64 (signedN x (kn n))) ∧ w = w' := by
  unfold kn signedN
  by_cases h : n < 1
  · rw [if_pos h]
    by_cases c : x % 2 ^ (0 + 1) < 2 ^ 0
    · rw [if_pos c]
      have c2 : (x : Int) % 2 = 0 := by omega
      have e : ((x % 2 ^ (0 + 1) : Nat) : Int) = 0 := by omega
      rw [e]
      clear c e
      go_enter Tryz.func77, Tryz.ntmps77
      go_wp2
      go_ret
      exact ⟨congrArg (fun z => Ending.returned (.int .i64 z)) c2, rfl⟩
    · rw [if_neg c]
      have c2 : (x : Int) % 2 = 1 := by omega
      have e : ((x % 2 ^ (0 + 1) : Nat) : Int) - ((2 ^ (0 + 1) : Nat) : Int) = -1 := by omega
      rw [e]
      clear c e
      go_enter Tryz.func77, Tryz.ntmps77
      go_wp2
      go_ret
      exact ⟨rfl, rfl⟩
  · rw [if_neg h]
    by_cases h2 : 32 < n
    · rw [if_pos h2]
      have hm : x % 2 ^ (31 + 1) = x := Nat.mod_eq_of_lt _hx
      rw [hm, show (2 : Nat) ^ 31 = 2147483648 from by decide, show (2 : Nat) ^ (31 + 1) = 4294967296 from by decide]
      have hx0 : (x : Int) < 4294967296 := by omega
      have e := rs_high x n w (by omega) hx0 h2
      rw [show (x : Int) % 4294967296 = x by omega] at e
      by_cases c : x < 2147483648
      · rw [if_pos c]
        rw [if_pos (by omega)] at e
        exact e
      · rw [if_neg c]
        rw [if_neg (by omega)] at e
        exact e
    · rw [if_neg h2]
      obtain ⟨m, hm⟩ := Int.eq_ofNat_of_zero_le (show 0 ≤ n - 1 by omega)
      obtain rfl : n = (m : Int) + 1 := by omega
      rw [hm, Int.toNat_natCast]
      clear hm
      have hl : m < 32 := by omega
      have hp := pow_wrap (j := m) (by omega)
      have hp1 := pow_wrap (j := m + 1) (by omega)
      have hq := pow_small hl
      have hy := mod_pow_nat x (m + 1)
      have hlt : x % 2 ^ (m + 1) < 2 ^ (m + 1) := Nat.mod_lt _ (Nat.two_pow_pos _)
      have hd : 2 ^ (m + 1) = 2 ^ m + 2 ^ m := by rw [Nat.pow_succ]; omega
      generalize x % 2 ^ (m + 1) = y at hy hlt ⊢
      generalize 2 ^ (m + 1) = z2 at hp1 hy hlt hd ⊢
      generalize 2 ^ m = z at hp hq hd ⊢
      have HD := Aside.mk hd
      have hz2 : 2 ≤ z2 ∧ z2 ≤ 4294967296 := by omega
      clear hd
      by_cases c : y < z
      · rw [if_pos c]
        go_enter Tryz.func77, Tryz.ntmps77
        go_wp2
        go_ret
        exact ⟨rfl, rfl⟩
      · rw [if_neg c]
        go_enter Tryz.func77, Tryz.ntmps77
        go_wp2
        go_ret
        exact ⟨rfl, rfl⟩

/-- Shifted up and down again, a number keeps its lowest bits, signed. -/
theorem shift_back (x j i : Nat) (hj : j < 32) (hi : 32 - ((j : Int) + 1) = i) : wrap64 (wrap32 ((x : Int) * 2 ^ i % 4294967296) / 2 ^ i) = signedN x j := by
  have ei : i + (j + 1) = 32 := by omega
  have e0 : (2 : Nat) ^ i * 2 ^ (j + 1) = 4294967296 := by rw [← Nat.pow_add, ei]
  have hpi : (2 : Int) ^ i = ((2 ^ i : Nat) : Int) := by simp
  have hdd : 2 ^ (j + 1) = 2 ^ j + 2 ^ j := by rw [Nat.pow_succ]; omega
  have hpos := Nat.two_pow_pos i
  have hm : x * 2 ^ i % 4294967296 = 2 ^ i * (x % 2 ^ (j + 1)) := by
    rw [← e0, Nat.mul_comm x, Nat.mul_mod_mul_left]
  have e1 : (x : Int) * 2 ^ i % 4294967296 = ((2 ^ i * (x % 2 ^ (j + 1)) : Nat) : Int) := by
    rw [← hm, hpi]; omega
  have hlt : x % 2 ^ (j + 1) < 2 ^ (j + 1) := Nat.mod_lt _ (Nat.two_pow_pos _)
  have e2 : 2 ^ i * 2 ^ j = 2147483648 := by
    rw [hdd, Nat.mul_add] at e0; omega
  have hb : 2 ^ (j + 1) ≤ 4294967296 := Nat.pow_le_pow_right (n := 2) (j := 32) (by decide) (by omega)
  rw [e1, hpi]
  unfold signedN
  generalize x % 2 ^ (j + 1) = y at *
  generalize 2 ^ (j + 1) = z2 at *
  generalize 2 ^ j = z at *
  generalize 2 ^ i = p at *
  have hpp : (0 : Int) < p := by omega
  by_cases c : y < z
  · rw [if_pos c]
    have h1 : p * (y + 1) ≤ p * z := Nat.mul_le_mul_left p (by omega)
    rw [Nat.mul_add] at h1
    have h2 : wrap32 ((p * y : Nat) : Int) = (p : Int) * (y : Int) := by
      rw [← Int.natCast_mul]; unfold wrap32; omega
    rw [h2, Int.mul_ediv_cancel_left _ (by omega)]
    unfold wrap64
    omega
  · rw [if_neg c]
    have h1 : p * z ≤ p * y := Nat.mul_le_mul_left p (by omega)
    have h3 : p * (y + 1) ≤ p * z2 := Nat.mul_le_mul_left p (by omega)
    rw [Nat.mul_add] at h3
    have h2 : wrap32 ((p * y : Nat) : Int) = (p : Int) * ((y : Int) - (z2 : Int)) := by
      rw [Int.mul_sub, ← Int.natCast_mul, ← Int.natCast_mul, e0]; unfold wrap32; omega
    rw [h2, Int.mul_ediv_cancel_left _ (by omega)]
    unfold wrap64
    omega

theorem signed_any (x : Nat) (n : Int) (w : World) : Calls Tryz.prog 114 #[.int .u32 x, .int .i64 n] w fun e w' => e = .returned (.int .i64 (signedN x (kn n))) ∧ w = w' := by
  have hl := kn_lt n
  obtain ⟨i, hi⟩ := Int.eq_ofNat_of_zero_le (show 0 ≤ 32 - ((kn n : Int) + 1) by omega)
  have h := signed_raw x n w (kn n) i rfl hi
  rw [shift_back x (kn n) i hl hi] at h
  exact h

end Go.Proofs.YtjmiaemabhlnjaaGreatDoor.Field
