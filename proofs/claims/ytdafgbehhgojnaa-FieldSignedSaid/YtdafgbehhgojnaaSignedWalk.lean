/-
  FieldSigned's walk: a number that fits is what its lowest bits say, signed; each word, signed, fits.
-/
import Derived.Test.YtdafgbehhgojnaaLaws
namespace Go.Proofs.Ytdafgbehhgojnaa.Laws
open Go.RowKit Go.Proofs.Ytdafgbehhgojnaa.FieldM Go.Proofs.Ytdafgbehhgojnaa.Field

theorem fits_j (v : Int) (j : Nat) (hj : j < 32) (b : Bool) (hb : fitsN v j = b) (w : World) :
    Calls Try.prog 12 #[.int .i64 v, .int .i64 (1 + (j : Int))] w fun e w' => e = .returned (.bool b) ∧ w' = w := by
  have h := fits_any v (1 + (j : Int)) w
  rw [show kn (1 + (j : Int)) = j by unfold kn; split <;> (first | omega | (split <;> omega)), hb] at h
  exact h.mono fun _ _ ⟨h1, h2⟩ => ⟨h1, h2.symm⟩
theorem signed_j (x j : Nat) (hj : j < 32) (w : World) :
    Calls Try.prog 11 #[.int .u32 x, .int .i64 (1 + (j : Int))] w fun e w' => e = .returned (.int .i64 (signedN x j)) ∧ w' = w := by
  have h := signed_any x (1 + (j : Int)) w
  rw [show kn (1 + (j : Int)) = j by unfold kn; split <;> (first | omega | (split <;> omega))] at h
  exact h.mono fun _ _ ⟨h1, h2⟩ => ⟨h1, h2.symm⟩

set_option maxHeartbeats 1600000 in
theorem signed_yes (x n j z y : Nat) (v s : Int) (W : World) (_h8 : n < 256) (hn : (n : Int) % 32 = j) (hj : j < 32)
    (_hl : wrap64 (-2 ^ (1 + j - 1)) = -(z : Int)) (hl2 : wrap64 (-2 ^ j) = -(z : Int)) (hh : wrap64 (2 ^ j) = (z : Int)) (hz : 1 ≤ z) (hz2 : z ≤ 2147483648) (_hv : v % 4294967296 = y) (hs : signedN x j = s)
    (f1 : fitsN s j = true) (f2 : fitsN (-(z : Int)) j = true) (f3 : fitsN ((z : Int) - 1) j = true) (f4 : fitsN (-(z : Int) - 1) j = false) (f5 : fitsN (z : Int) j = false)
    (c1 : -(z : Int) ≤ v) (c2 : v ≤ (z : Int) - 1) (f6 : fitsN v j = true) (f7 : (signedN y j == v) = true) :
    Calls Try.prog 4 #[.int .u32 x, .int .i64 v, .int .u8 n] W fun e w' => e = .returned (.bool true) ∧ Below W.heap.size W w' := by
  have S1 := Aside.mk (signed_j x j hj)
  rw [hs] at S1
  have S2 := Aside.mk (signed_j y j hj)
  have F1 := Aside.mk (fits_j _ j hj _ f1)
  have F2 := Aside.mk (fits_j _ j hj _ f2)
  have F3 := Aside.mk (fits_j _ j hj _ f3)
  have F4 := Aside.mk (fits_j _ j hj _ f4)
  have F5 := Aside.mk (fits_j _ j hj _ f5)
  have F6 := Aside.mk (fits_j _ j hj _ f6)
  clear f1 f2 f3 f4 f5 f6 hs
  go_enter Try.func4, Try.ntmps4
  go_wp2_with fail
  refine (shown_any _).mono ?_; rintro e w1 ⟨rfl, hb⟩
  go_wp2_with (first | (go_at_call 11; (first | (with_reducible refine (S1.out _).mono ?_) | (with_reducible refine (S2.out _).mono ?_)); rintro e w1 ⟨rfl, rfl⟩) | (go_at_call 12; (first | (with_reducible refine (F1.out _).mono ?_) | (with_reducible refine (F2.out _).mono ?_) | (with_reducible refine (F3.out _).mono ?_) | (with_reducible refine (F4.out _).mono ?_) | (with_reducible refine (F5.out _).mono ?_) | (with_reducible refine (F6.out _).mono ?_)); rintro e w1 ⟨rfl, rfl⟩))
  go_ret
  exact ⟨rfl, hb⟩

set_option maxHeartbeats 1600000 in
theorem signed_low (x n j z y : Nat) (v s : Int) (W : World) (_h8 : n < 256) (hn : (n : Int) % 32 = j) (hj : j < 32)
    (_hl : wrap64 (-2 ^ (1 + j - 1)) = -(z : Int)) (hl2 : wrap64 (-2 ^ j) = -(z : Int)) (hh : wrap64 (2 ^ j) = (z : Int)) (hz : 1 ≤ z) (hz2 : z ≤ 2147483648) (_hv : v % 4294967296 = y) (hs : signedN x j = s)
    (f1 : fitsN s j = true) (f2 : fitsN (-(z : Int)) j = true) (f3 : fitsN ((z : Int) - 1) j = true) (f4 : fitsN (-(z : Int) - 1) j = false) (f5 : fitsN (z : Int) j = false)
    (c1 : v < -(z : Int)) (f6 : fitsN v j = false) :
    Calls Try.prog 4 #[.int .u32 x, .int .i64 v, .int .u8 n] W fun e w' => e = .returned (.bool true) ∧ Below W.heap.size W w' := by
  have S1 := Aside.mk (signed_j x j hj)
  rw [hs] at S1
  have F1 := Aside.mk (fits_j _ j hj _ f1)
  have F2 := Aside.mk (fits_j _ j hj _ f2)
  have F3 := Aside.mk (fits_j _ j hj _ f3)
  have F4 := Aside.mk (fits_j _ j hj _ f4)
  have F5 := Aside.mk (fits_j _ j hj _ f5)
  have F6 := Aside.mk (fits_j _ j hj _ f6)
  clear f1 f2 f3 f4 f5 f6 hs
  go_enter Try.func4, Try.ntmps4
  go_wp2_with fail
  refine (shown_any _).mono ?_; rintro e w1 ⟨rfl, hb⟩
  go_wp2_with (first | (go_at_call 11; (first | (with_reducible refine (S1.out _).mono ?_)); rintro e w1 ⟨rfl, rfl⟩) | (go_at_call 12; (first | (with_reducible refine (F1.out _).mono ?_) | (with_reducible refine (F2.out _).mono ?_) | (with_reducible refine (F3.out _).mono ?_) | (with_reducible refine (F4.out _).mono ?_) | (with_reducible refine (F5.out _).mono ?_) | (with_reducible refine (F6.out _).mono ?_)); rintro e w1 ⟨rfl, rfl⟩))
  go_ret
  exact ⟨rfl, hb⟩

set_option maxHeartbeats 1600000 in
theorem signed_high (x n j z y : Nat) (v s : Int) (W : World) (_h8 : n < 256) (hn : (n : Int) % 32 = j) (hj : j < 32)
    (_hl : wrap64 (-2 ^ (1 + j - 1)) = -(z : Int)) (hl2 : wrap64 (-2 ^ j) = -(z : Int)) (hh : wrap64 (2 ^ j) = (z : Int)) (hz : 1 ≤ z) (hz2 : z ≤ 2147483648) (_hv : v % 4294967296 = y) (hs : signedN x j = s)
    (f1 : fitsN s j = true) (f2 : fitsN (-(z : Int)) j = true) (f3 : fitsN ((z : Int) - 1) j = true) (f4 : fitsN (-(z : Int) - 1) j = false) (f5 : fitsN (z : Int) j = false)
    (c1 : -(z : Int) ≤ v) (c2 : (z : Int) - 1 < v) (f6 : fitsN v j = false) :
    Calls Try.prog 4 #[.int .u32 x, .int .i64 v, .int .u8 n] W fun e w' => e = .returned (.bool true) ∧ Below W.heap.size W w' := by
  have S1 := Aside.mk (signed_j x j hj)
  rw [hs] at S1
  have F1 := Aside.mk (fits_j _ j hj _ f1)
  have F2 := Aside.mk (fits_j _ j hj _ f2)
  have F3 := Aside.mk (fits_j _ j hj _ f3)
  have F4 := Aside.mk (fits_j _ j hj _ f4)
  have F5 := Aside.mk (fits_j _ j hj _ f5)
  have F6 := Aside.mk (fits_j _ j hj _ f6)
  clear f1 f2 f3 f4 f5 f6 hs
  go_enter Try.func4, Try.ntmps4
  go_wp2_with fail
  refine (shown_any _).mono ?_; rintro e w1 ⟨rfl, hb⟩
  go_wp2_with (first | (go_at_call 11; (first | (with_reducible refine (S1.out _).mono ?_)); rintro e w1 ⟨rfl, rfl⟩) | (go_at_call 12; (first | (with_reducible refine (F1.out _).mono ?_) | (with_reducible refine (F2.out _).mono ?_) | (with_reducible refine (F3.out _).mono ?_) | (with_reducible refine (F4.out _).mono ?_) | (with_reducible refine (F5.out _).mono ?_) | (with_reducible refine (F6.out _).mono ?_)); rintro e w1 ⟨rfl, rfl⟩))
  go_ret
  exact ⟨rfl, hb⟩

theorem pow_double (j : Nat) : 2 ^ (j + 1) = 2 ^ j + 2 ^ j := by rw [Nat.pow_succ]; omega
theorem signed_fits (x j : Nat) : fitsN (signedN x j) j = true := by
  have hd := pow_double j
  have hlt : x % 2 ^ (j + 1) < 2 ^ (j + 1) := Nat.mod_lt _ (Nat.two_pow_pos _)
  unfold fitsN signedN
  generalize x % 2 ^ (j + 1) = y at *
  generalize 2 ^ (j + 1) = z2 at *
  generalize 2 ^ j = z at *
  apply decide_eq_true
  split <;> omega
theorem signed_back (v : Int) (y j : Nat) (hj : j < 32) (hy : v % 4294967296 = y) (h1 : -((2 ^ j : Nat) : Int) ≤ v) (h2 : v < ((2 ^ j : Nat) : Int)) : signedN y j = v := by
  have hd := pow_double j
  have hz := Nat.two_pow_pos j
  have hdvd : ((2 ^ (j + 1) : Nat) : Int) ∣ 4294967296 := by
    refine ⟨((2 ^ (31 - j) : Nat) : Int), ?_⟩
    rw [← Int.natCast_mul, ← Nat.pow_add, show j + 1 + (31 - j) = 32 by omega]
    rfl
  have e : ((y % 2 ^ (j + 1) : Nat) : Int) = v % ((2 ^ (j + 1) : Nat) : Int) := by
    rw [Int.natCast_emod, ← hy, Int.emod_emod_of_dvd _ hdvd]
  clear hdvd hy
  unfold signedN
  generalize y % 2 ^ (j + 1) = t at *
  generalize 2 ^ (j + 1) = z2 at *
  generalize 2 ^ j = z at *
  by_cases hv : 0 ≤ v
  · rw [Int.emod_eq_of_lt hv (by omega)] at e
    rw [if_pos (by omega)]
    exact e
  · rw [← Int.add_emod_right, Int.emod_eq_of_lt (by omega) (by omega)] at e
    rw [if_neg (by omega)]
    omega
theorem fits_more (j : Nat) : fitsN (-((2 ^ j : Nat) : Int)) j = true ∧ fitsN (((2 ^ j : Nat) : Int) - 1) j = true ∧ fitsN (-((2 ^ j : Nat) : Int) - 1) j = false ∧ fitsN ((2 ^ j : Nat) : Int) j = false := by
  have hz := Nat.two_pow_pos j
  unfold fitsN
  generalize 2 ^ j = z at *
  refine ⟨decide_eq_true (by omega), decide_eq_true (by omega), decide_eq_false (by omega), decide_eq_false (by omega)⟩

theorem signed_walk (a0 v n0 : Int) (W : World) (w0 : (Lit.int .u32 a0).wf = true) (_w1 : (Lit.int .i64 v).wf = true) (w2 : (Lit.int .u8 n0).wf = true) :
    Calls Try.prog 4 #[.int .u32 a0, .int .i64 v, .int .u8 n0] W fun e w' => e = .returned (.bool true) ∧ Below W.heap.size W w' := by
  obtain ⟨p0, q0⟩ := wf32 w0
  obtain ⟨p2, q2⟩ := wf8 w2
  obtain ⟨x, rfl⟩ := Int.eq_ofNat_of_zero_le p0
  obtain ⟨n, rfl⟩ := Int.eq_ofNat_of_zero_le p2
  obtain ⟨j, hj⟩ : ∃ j, j = n % 32 := ⟨_, rfl⟩
  have hj32 : j < 32 := by omega
  obtain ⟨y, hy⟩ := Int.eq_ofNat_of_zero_le (show 0 ≤ v % 4294967296 by omega)
  have hp := pow_wrap (j := j) (by omega)
  have hq := pow_small hj32
  have hn : wrap64 (-2 ^ j) = -((2 ^ j : Nat) : Int) := by
    have e : (2 : Int) ^ j = ((2 ^ j : Nat) : Int) := by simp
    rw [e]
    generalize 2 ^ j = z at *
    unfold wrap64
    omega
  have hn1 : wrap64 (-2 ^ (1 + j - 1)) = -((2 ^ j : Nat) : Int) := by rw [Nat.add_sub_cancel_left]; exact hn
  obtain ⟨f2, f3, f4, f5⟩ := fits_more j
  by_cases c1 : -((2 ^ j : Nat) : Int) ≤ v
  · by_cases c2 : v ≤ ((2 ^ j : Nat) : Int) - 1
    · refine signed_yes x n j (2 ^ j) y v _ W (by omega) (by omega) hj32 hn1 hn hp hq.1 hq.2 hy rfl (signed_fits x j) f2 f3 f4 f5 c1 c2 (decide_eq_true ⟨c1, by omega⟩) ?_
      rw [signed_back v y j hj32 hy c1 (by omega)]; simp
    · exact signed_high x n j (2 ^ j) y v _ W (by omega) (by omega) hj32 hn1 hn hp hq.1 hq.2 hy rfl (signed_fits x j) f2 f3 f4 f5 c1 (by omega) (decide_eq_false (by omega))
  · exact signed_low x n j (2 ^ j) y v _ W (by omega) (by omega) hj32 hn1 hn hp hq.1 hq.2 hy rfl (signed_fits x j) f2 f3 f4 f5 (by omega) (decide_eq_false (by omega))
end Go.Proofs.Ytdafgbehhgojnaa.Laws
