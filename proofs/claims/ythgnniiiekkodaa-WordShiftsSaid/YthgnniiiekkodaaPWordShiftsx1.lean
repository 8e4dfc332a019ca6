-- PRINTED BY print.sh 35421559b90ae4d0a3588c463048766b98c2df88dd9212a6774a882060cdf62d: not written by this session
import Derived.Test.YthgnniiiekkodaaPWordShiftsx0
namespace Go.Proofs.Ythgnniiiekkodaa.PWordShifts
open Go.RowKit Go.Proofs.YthgnniiiekkodaaW.PrintWords Go.Proofs.YthgnniiiekkodaaW.PrintLast Go.Proofs.YthgnniiiekkodaaW.PrintMore
attribute [local go_sem] max2_int min2_int max_two min_two max_three min_three max_four min_four   -- for this text's walks alone
set_option linter.unusedVariables false
set_option linter.unusedSimpArgs false

/-! ### word_Div: function 12 -/
def word_Div.f (a0 : Int) (a1 : Int) : Option (Int × Int × Bool) := if (wrap64 (wrap32 (a1))) ≤ 0 then (some (0, 0, false)) else (if (wrap64 (wrap32 (a1))) = 0 then (none) else (if (Int.tmod (wrap64 (wrap32 (a0))) (wrap64 (wrap32 (a1)))) < 0 then (some ((wrap64 ((wrap64 (Int.tdiv (wrap64 (wrap32 (a0))) (wrap64 (wrap32 (a1))))) - 1)) % 4294967296, (wrap64 ((Int.tmod (wrap64 (wrap32 (a0))) (wrap64 (wrap32 (a1)))) + (wrap64 (wrap32 (a1))))) % 4294967296, true)) else (some ((wrap64 (Int.tdiv (wrap64 (wrap32 (a0))) (wrap64 (wrap32 (a1))))) % 4294967296, (Int.tmod (wrap64 (wrap32 (a0))) (wrap64 (wrap32 (a1)))) % 4294967296, true))))
set_option maxHeartbeats 8000000 in
set_option maxRecDepth 100000 in
theorem word_Div.calls (a0 : Int) (a1 : Int) (r1 : Int) (r2 : Int) (r3 : Bool) (w : World) (h : word_Div.f a0 a1 = some (r1, r2, r3)) :
    Calls Try.prog 12 #[.int .u32 a0, .int .u32 a1] w fun e w' => e = .returned (.tuple #[.int .u32 r1, .int .u32 r2, .bool r3]) ∧ Drawn0 w w' := by
  have H : (if (wrap64 (wrap32 (a1))) ≤ 0 then (some (0, 0, false)) else (if (wrap64 (wrap32 (a1))) = 0 then (none) else (if (Int.tmod (wrap64 (wrap32 (a0))) (wrap64 (wrap32 (a1)))) < 0 then (some ((wrap64 ((wrap64 (Int.tdiv (wrap64 (wrap32 (a0))) (wrap64 (wrap32 (a1))))) - 1)) % 4294967296, (wrap64 ((Int.tmod (wrap64 (wrap32 (a0))) (wrap64 (wrap32 (a1)))) + (wrap64 (wrap32 (a1))))) % 4294967296, true)) else (some ((wrap64 (Int.tdiv (wrap64 (wrap32 (a0))) (wrap64 (wrap32 (a1))))) % 4294967296, (Int.tmod (wrap64 (wrap32 (a0))) (wrap64 (wrap32 (a1)))) % 4294967296, true))))) = some (r1, r2, r3) := h
  clear h
  by_cases c3 : (wrap64 (wrap32 (a1))) ≤ 0
  · rw [if_pos c3] at H
    have c3b0 : decide ((wrap64 (wrap32 (a1))) ≤ 0) = true := decide_eq_true c3
    clear c3
    simp only [Option.some.injEq, Prod.mk.injEq] at H
    obtain ⟨rfl, rfl, rfl⟩ := H
    go_enter Try.func12, Try.ntmps12
    go_wp2
    repeat (go_quiet (fail); try go_wp2)
    go_ret3
    exact ⟨by first | rfl | (simp; done) | (simp [*]; done), by repeat (first | exact Drawn0.refl _ | apply Drawn0.step)⟩
  · rw [if_neg c3] at H
    have c3b0 : decide ((wrap64 (wrap32 (a1))) ≤ 0) = false := decide_eq_false c3
    clear c3
    by_cases c4 : (wrap64 (wrap32 (a1))) = 0
    · rw [if_pos c4] at H
      exact absurd H (by simp)
    · rw [if_neg c4] at H
      have c4b0 : ((wrap64 (wrap32 (a1))) == 0) = false := beq_eq_false_iff_ne.mpr c4
      have c4b1 : ((wrap64 (wrap32 (a1))) != 0) = true := bne_iff_ne.mpr c4
      by_cases c5 : (Int.tmod (wrap64 (wrap32 (a0))) (wrap64 (wrap32 (a1)))) < 0
      · rw [if_pos c5] at H
        have c5b0 : decide ((Int.tmod (wrap64 (wrap32 (a0))) (wrap64 (wrap32 (a1)))) < 0) = true := decide_eq_true c5
        clear c5
        simp only [Option.some.injEq, Prod.mk.injEq] at H
        obtain ⟨rfl, rfl, rfl⟩ := H
        go_enter Try.func12, Try.ntmps12
        go_wp2
        repeat (go_quiet (fail); try go_wp2)
        go_ret3
        exact ⟨by first | rfl | (simp; done) | (simp [*]; done), by repeat (first | exact Drawn0.refl _ | apply Drawn0.step)⟩
      · rw [if_neg c5] at H
        have c5b0 : decide ((Int.tmod (wrap64 (wrap32 (a0))) (wrap64 (wrap32 (a1)))) < 0) = false := decide_eq_false c5
        clear c5
        simp only [Option.some.injEq, Prod.mk.injEq] at H
        obtain ⟨rfl, rfl, rfl⟩ := H
        go_enter Try.func12, Try.ntmps12
        go_wp2
        repeat (go_quiet (fail); try go_wp2)
        go_ret3
        exact ⟨by first | rfl | (simp; done) | (simp [*]; done), by repeat (first | exact Drawn0.refl _ | apply Drawn0.step)⟩

/-! ### rivetlaw01_shown: function 11 -/
def rivetlaw01_shown.f  : Option (Bool) := (word_Div.f 4294967289 2).bind fun bt101 => (if bt101.1 = 4294967292 then (if bt101.2.1 = 1 then (some bt101.2.2) else (some false)) else (some false))
set_option maxHeartbeats 8000000 in
set_option maxRecDepth 100000 in
theorem rivetlaw01_shown.calls  (r : Bool) (w : World) (h : rivetlaw01_shown.f  = some r) :
    Calls Try.prog 11 #[] w fun e w' => e = .returned (.bool r) ∧ Drawn0 w w' := by
  have H : ((word_Div.f 4294967289 2).bind fun bt101 => (if bt101.1 = 4294967292 then (if bt101.2.1 = 1 then (some bt101.2.2) else (some false)) else (some false))) = some r := h
  clear h
  replace H := Option.bind_eq_some_iff.mp H
  obtain ⟨⟨t101, t102, t103⟩, A10, H⟩ := H
  replace H : (if t101 = 4294967292 then (if t102 = 1 then (some t103) else (some false)) else (some false)) = some r := H
  have A1 := Aside0.mk A10
  clear A10
  by_cases c2 : t101 = 4294967292
  · rw [if_pos c2] at H
    have c2b0 : (t101 == 4294967292) = true := beq_iff_eq.mpr c2
    have c2b1 : (t101 != 4294967292) = false := bne_eq_false_iff_eq.mpr c2
    clear c2
    by_cases c3 : t102 = 1
    · rw [if_pos c3] at H
      have c3b0 : (t102 == 1) = true := beq_iff_eq.mpr c3
      have c3b1 : (t102 != 1) = false := bne_eq_false_iff_eq.mpr c3
      clear c3
      obtain rfl := Option.some.inj H
      go_enter Try.func11, Try.ntmps11
      go_wp2_with (first | ((with_reducible refine gate_callee (f := 12) rfl ?_); refine goesL_ (some 5) rfl rfl Try.func12 (by kernel_rfl) rfl #[.int .u32 4294967289, .int .u32 2] rfl (by (try simp only [List.map_toArray, List.map_cons, List.map_nil]); first | done | rfl | (simp only [List.length_drop, List.length_take]; rfl)) ?_; (with_reducible refine (word_Div.calls 4294967289 2 t101 t102 t103 _ A1.out).mono ?_); rintro e w' ⟨rfl, ⟨nd, rfl⟩⟩; refine ⟨_, rfl, ?_⟩))
      go_ret
      exact ⟨by first | rfl | (simp; done) | (simp [*]; done), by repeat (first | exact Drawn0.refl _ | apply Drawn0.step)⟩
    · rw [if_neg c3] at H
      have c3b0 : (t102 == 1) = false := beq_eq_false_iff_ne.mpr c3
      have c3b1 : (t102 != 1) = true := bne_iff_ne.mpr c3
      obtain rfl := Option.some.inj H
      go_enter Try.func11, Try.ntmps11
      go_wp2_with (first | ((with_reducible refine gate_callee (f := 12) rfl ?_); refine goesL_ (some 5) rfl rfl Try.func12 (by kernel_rfl) rfl #[.int .u32 4294967289, .int .u32 2] rfl (by (try simp only [List.map_toArray, List.map_cons, List.map_nil]); first | done | rfl | (simp only [List.length_drop, List.length_take]; rfl)) ?_; (with_reducible refine (word_Div.calls 4294967289 2 t101 t102 t103 _ A1.out).mono ?_); rintro e w' ⟨rfl, ⟨nd, rfl⟩⟩; refine ⟨_, rfl, ?_⟩))
      go_ret
      exact ⟨by first | rfl | (simp; done) | (simp [*]; done), by repeat (first | exact Drawn0.refl _ | apply Drawn0.step)⟩
  · rw [if_neg c2] at H
    have c2b0 : (t101 == 4294967292) = false := beq_eq_false_iff_ne.mpr c2
    have c2b1 : (t101 != 4294967292) = true := bne_iff_ne.mpr c2
    obtain rfl := Option.some.inj H
    go_enter Try.func11, Try.ntmps11
    go_wp2_with (first | ((with_reducible refine gate_callee (f := 12) rfl ?_); refine goesL_ (some 5) rfl rfl Try.func12 (by kernel_rfl) rfl #[.int .u32 4294967289, .int .u32 2] rfl (by (try simp only [List.map_toArray, List.map_cons, List.map_nil]); first | done | rfl | (simp only [List.length_drop, List.length_take]; rfl)) ?_; (with_reducible refine (word_Div.calls 4294967289 2 t101 t102 t103 _ A1.out).mono ?_); rintro e w' ⟨rfl, ⟨nd, rfl⟩⟩; refine ⟨_, rfl, ?_⟩))
    go_ret
    exact ⟨by first | rfl | (simp; done) | (simp [*]; done), by repeat (first | exact Drawn0.refl _ | apply Drawn0.step)⟩

/-! ### bits_RotateLeft32: function 23 -/
def bits_RotateLeft32.f (a0 : Int) (a1 : Int) : Option (Int) := if 0 ≤ (Go.bits .and .u64 (IntKind.u64.wrap (a1)) 31) then (if 0 ≤ (IntKind.u64.wrap (32 - (Go.bits .and .u64 (IntKind.u64.wrap (a1)) 31))) then (some (Go.bits .or .u32 (shl .u32 a0 (Go.bits .and .u64 (IntKind.u64.wrap (a1)) 31)) (shr .u32 a0 (IntKind.u64.wrap (32 - (Go.bits .and .u64 (IntKind.u64.wrap (a1)) 31)))))) else (none)) else (none)
set_option maxHeartbeats 8000000 in
set_option maxRecDepth 100000 in
theorem bits_RotateLeft32.calls (a0 : Int) (a1 : Int) (r : Int) (w : World) (h : bits_RotateLeft32.f a0 a1 = some r) :
    Calls Try.prog 23 #[.int .u32 a0, .int .i64 a1] w fun e w' => e = .returned (.int .u32 r) ∧ Drawn0 w w' := by
  have H : (if 0 ≤ (Go.bits .and .u64 (IntKind.u64.wrap (a1)) 31) then (if 0 ≤ (IntKind.u64.wrap (32 - (Go.bits .and .u64 (IntKind.u64.wrap (a1)) 31))) then (some (Go.bits .or .u32 (shl .u32 a0 (Go.bits .and .u64 (IntKind.u64.wrap (a1)) 31)) (shr .u32 a0 (IntKind.u64.wrap (32 - (Go.bits .and .u64 (IntKind.u64.wrap (a1)) 31)))))) else (none)) else (none)) = some r := h
  clear h
  obtain ⟨ji3, hji3⟩ : ∃ j_ : Int, (Go.bits .and .u64 (IntKind.u64.wrap (a1)) 31) = j_ := ⟨_, rfl⟩
  replace H : (if 0 ≤ (ji3) then (if 0 ≤ (IntKind.u64.wrap (32 - (ji3))) then (some (Go.bits .or .u32 (shl .u32 a0 (ji3)) (shr .u32 a0 (IntKind.u64.wrap (32 - (ji3)))))) else (none)) else (none)) = some r := by first | (rw [hji3] at H; exact H) | (simp only [hji3] at H ⊢; exact H)
  by_cases c4 : 0 ≤ (ji3)
  · rw [if_pos c4] at H
    have c4b0 := eq_true c4
    have c4b1 : decide (0 ≤ (ji3)) = true := decide_eq_true c4
    clear c4
    obtain ⟨ji5, hji5⟩ : ∃ j_ : Int, (shl .u32 a0 (ji3)) = j_ := ⟨_, rfl⟩
    replace H : (if 0 ≤ (IntKind.u64.wrap (32 - (ji3))) then (some (Go.bits .or .u32 (ji5) (shr .u32 a0 (IntKind.u64.wrap (32 - (ji3)))))) else (none)) = some r := by first | (rw [hji5] at H; exact H) | (simp only [hji5] at H ⊢; exact H)
    have hji5_ : (IntKind.u32.wrap (a0 * 2 ^ min (ji3).toNat 32)) = ji5 := hji5
    have hji5z : (ji3) ≤ 32 → (IntKind.u32.wrap (a0 * 2 ^ (ji3).toNat)) = ji5 := shl_small hji5
    obtain ⟨ji6, hji6⟩ : ∃ j_ : Int, (IntKind.u64.wrap (32 - (ji3))) = j_ := ⟨_, rfl⟩
    replace H : (if 0 ≤ (ji6) then (some (Go.bits .or .u32 (ji5) (shr .u32 a0 (ji6)))) else (none)) = some r := by first | (rw [hji6] at H; exact H) | (simp only [hji6] at H ⊢; exact H)
    by_cases c7 : 0 ≤ (ji6)
    · rw [if_pos c7] at H
      have c7b0 := eq_true c7
      have c7b1 : decide (0 ≤ (ji6)) = true := decide_eq_true c7
      clear c7
      obtain ⟨ji8, hji8⟩ : ∃ j_ : Int, (shr .u32 a0 (ji6)) = j_ := ⟨_, rfl⟩
      replace H : (some (Go.bits .or .u32 (ji5) (ji8))) = some r := by first | (rw [hji8] at H; exact H) | (simp only [hji8] at H ⊢; exact H)
      have hji8_ : (a0 / 2 ^ min (ji6).toNat 32) = ji8 := hji8
      have hji8z : (ji6) ≤ 32 → (a0 / 2 ^ (ji6).toNat) = ji8 := shr_small hji8
      obtain rfl := Option.some.inj H
      go_enter Try.func23, Try.ntmps23
      go_wp2
      go_ret
      exact ⟨by first | rfl | (simp; done) | (simp only [← hji3, ← hji5, ← hji6, ← hji8] <;> (first | rfl | simp)) | (simp [*]; done), by repeat (first | exact Drawn0.refl _ | apply Drawn0.step)⟩
    · rw [if_neg c7] at H
      exact absurd H (by simp)
  · rw [if_neg c4] at H
    exact absurd H (by simp)

/-! ### word_Shift: function 15 -/
def word_Shift.f (a0 : Int) (a1 : Int) (a2 : Int) : Option (Int) := if a0 = 1 then (if 0 ≤ (wrap64 (Int.tmod a2 32)) then (some (shl .u32 a1 (wrap64 (Int.tmod a2 32)))) else (none)) else (if a0 = 2 then (if 0 ≤ (wrap64 (Int.tmod a2 32)) then (some ((shr .i32 (wrap32 (a1)) (wrap64 (Int.tmod a2 32))) % 4294967296)) else (none)) else (if a0 = 3 then ((bits_RotateLeft32.f a1 (wrap64 (-(wrap64 (Int.tmod a2 32))))).bind fun t104 => (some t104)) else (some a1)))
set_option maxHeartbeats 8000000 in
set_option maxRecDepth 100000 in
theorem word_Shift.calls (a0 : Int) (a1 : Int) (a2 : Int) (r : Int) (w : World) (h : word_Shift.f a0 a1 a2 = some r) :
    Calls Try.prog 15 #[.int .i64 a0, .int .u32 a1, .int .u32 a2] w fun e w' => e = .returned (.int .u32 r) ∧ Drawn0 w w' := by
  have H : (if a0 = 1 then (if 0 ≤ (wrap64 (Int.tmod a2 32)) then (some (shl .u32 a1 (wrap64 (Int.tmod a2 32)))) else (none)) else (if a0 = 2 then (if 0 ≤ (wrap64 (Int.tmod a2 32)) then (some ((shr .i32 (wrap32 (a1)) (wrap64 (Int.tmod a2 32))) % 4294967296)) else (none)) else (if a0 = 3 then ((bits_RotateLeft32.f a1 (wrap64 (-(wrap64 (Int.tmod a2 32))))).bind fun t104 => (some t104)) else (some a1)))) = some r := h
  clear h
  by_cases c4 : a0 = 1
  · rw [if_pos c4] at H
    have c4b0 : (a0 == 1) = true := beq_iff_eq.mpr c4
    have c4b1 : (a0 != 1) = false := bne_eq_false_iff_eq.mpr c4
    clear c4
    obtain ⟨ji5, hji5⟩ : ∃ j_ : Int, (wrap64 (Int.tmod a2 32)) = j_ := ⟨_, rfl⟩
    replace H : (if 0 ≤ (ji5) then (some (shl .u32 a1 (ji5))) else (none)) = some r := by first | (rw [hji5] at H; exact H) | (simp only [hji5] at H ⊢; exact H)
    have hji5w : (IntKind.i64.wrap (Int.tmod a2 32)) = ji5 := (i64_w _).trans hji5
    by_cases c6 : 0 ≤ (ji5)
    · rw [if_pos c6] at H
      have c6b0 := eq_true c6
      have c6b1 : decide (0 ≤ (ji5)) = true := decide_eq_true c6
      clear c6
      obtain ⟨ji7, hji7⟩ : ∃ j_ : Int, (shl .u32 a1 (ji5)) = j_ := ⟨_, rfl⟩
      replace H : (some ji7) = some r := by first | (rw [hji7] at H; exact H) | (simp only [hji7] at H ⊢; exact H)
      have hji7_ : (IntKind.u32.wrap (a1 * 2 ^ min (ji5).toNat 32)) = ji7 := hji7
      have hji7z : (ji5) ≤ 32 → (IntKind.u32.wrap (a1 * 2 ^ (ji5).toNat)) = ji7 := shl_small hji7
      obtain rfl := Option.some.inj H
      go_enter Try.func15, Try.ntmps15
      go_wp2
      go_ret
      exact ⟨by first | rfl | (simp; done) | (simp only [← hji5, ← hji7] <;> (first | rfl | simp)) | (simp [*]; done), by repeat (first | exact Drawn0.refl _ | apply Drawn0.step)⟩
    · rw [if_neg c6] at H
      exact absurd H (by simp)
  · rw [if_neg c4] at H
    have c4b0 : (a0 == 1) = false := beq_eq_false_iff_ne.mpr c4
    have c4b1 : (a0 != 1) = true := bne_iff_ne.mpr c4
    by_cases c8 : a0 = 2
    · rw [if_pos c8] at H
      have c8b0 : (a0 == 2) = true := beq_iff_eq.mpr c8
      have c8b1 : (a0 != 2) = false := bne_eq_false_iff_eq.mpr c8
      clear c8
      obtain ⟨ji9, hji9⟩ : ∃ j_ : Int, (wrap64 (Int.tmod a2 32)) = j_ := ⟨_, rfl⟩
      replace H : (if 0 ≤ (ji9) then (some ((shr .i32 (wrap32 (a1)) (ji9)) % 4294967296)) else (none)) = some r := by first | (rw [hji9] at H; exact H) | (simp only [hji9] at H ⊢; exact H)
      have hji9w : (IntKind.i64.wrap (Int.tmod a2 32)) = ji9 := (i64_w _).trans hji9
      by_cases c10 : 0 ≤ (ji9)
      · rw [if_pos c10] at H
        have c10b0 := eq_true c10
        have c10b1 : decide (0 ≤ (ji9)) = true := decide_eq_true c10
        clear c10
        obtain ⟨ji11, hji11⟩ : ∃ j_ : Int, (shr .i32 (wrap32 (a1)) (ji9)) = j_ := ⟨_, rfl⟩
        replace H : (some ((ji11) % 4294967296)) = some r := by first | (rw [hji11] at H; exact H) | (simp only [hji11] at H ⊢; exact H)
        have hji11_ : ((wrap32 (a1)) / 2 ^ min (ji9).toNat 32) = ji11 := hji11
        have hji11z : (ji9) ≤ 32 → ((wrap32 (a1)) / 2 ^ (ji9).toNat) = ji11 := shr_small hji11
        obtain rfl := Option.some.inj H
        go_enter Try.func15, Try.ntmps15
        go_wp2
        go_ret
        exact ⟨by first | rfl | (simp; done) | (simp only [← hji9, ← hji11] <;> (first | rfl | simp)) | (simp [*]; done), by repeat (first | exact Drawn0.refl _ | apply Drawn0.step)⟩
      · rw [if_neg c10] at H
        exact absurd H (by simp)
    · rw [if_neg c8] at H
      have c8b0 : (a0 == 2) = false := beq_eq_false_iff_ne.mpr c8
      have c8b1 : (a0 != 2) = true := bne_iff_ne.mpr c8
      by_cases c12 : a0 = 3
      · rw [if_pos c12] at H
        have c12b0 : (a0 == 3) = true := beq_iff_eq.mpr c12
        have c12b1 : (a0 != 3) = false := bne_eq_false_iff_eq.mpr c12
        clear c12
        replace H := Option.bind_eq_some_iff.mp H
        obtain ⟨t104, A130, H⟩ := H
        replace H : (some t104) = some r := H
        have A13 := Aside0.mk A130
        clear A130
        obtain rfl := Option.some.inj H
        go_enter Try.func15, Try.ntmps15
        go_wp2_with (first | ((with_reducible refine gate_callee (f := 23) rfl ?_); refine goesL_ (some 29) rfl rfl Try.func23 (by kernel_rfl) rfl #[.int .u32 a1, .int .i64 (wrap64 (-(wrap64 (Int.tmod a2 32))))] rfl (by (try simp only [List.map_toArray, List.map_cons, List.map_nil]); first | done | rfl | (simp only [List.length_drop, List.length_take]; rfl)) ?_; (with_reducible refine (bits_RotateLeft32.calls a1 (wrap64 (-(wrap64 (Int.tmod a2 32)))) t104 _ A13.out).mono ?_); rintro e w' ⟨rfl, ⟨nd, rfl⟩⟩; refine ⟨_, rfl, ?_⟩))
        go_ret
        exact ⟨by first | rfl | (simp; done) | (simp [*]; done), by repeat (first | exact Drawn0.refl _ | apply Drawn0.step)⟩
      · rw [if_neg c12] at H
        have c12b0 : (a0 == 3) = false := beq_eq_false_iff_ne.mpr c12
        have c12b1 : (a0 != 3) = true := bne_iff_ne.mpr c12
        obtain rfl := Option.some.inj H
        go_enter Try.func15, Try.ntmps15
        go_wp2
        go_ret
        exact ⟨by first | rfl | (simp; done) | (simp [*]; done), by repeat (first | exact Drawn0.refl _ | apply Drawn0.step)⟩

/-! ### rivetlaw01_WordShifts: function 6 -/
def rivetlaw01_WordShifts.l0 : Nat → Int → Int → Int → Bool → Int → Int → Int → Option (Bool)
  | 0, _, _, _, _, _, _, _ => none
  | k + 1, x0, x1, x2, x7, x8, x9, x10 => if x10 ≤ 3 then ((word_Shift.f x10 x0 x8).bind fun t106 => ((word_Shift.f x10 t106 x9).bind fun t107 => ((word_Shift.f x10 x0 ((x8 + x9) % 4294967296)).bind fun t108 => (if t107 = t108 then ((word_Shift.f x10 x0 ((32 * x2) % 4294967296)).bind fun t109 => (if t109 = x0 then ((word_Shift.f x10 x0 x1).bind fun t110 => ((word_Shift.f x10 x0 x8).bind fun t111 => (if t110 = t111 then (rivetlaw01_WordShifts.l0 k x0 x1 x2 x7 x8 x9 (wrap64 (x10 + 1))) else (some false)))) else (some false))) else (some false))))) else ((word_Shift.f 1 x0 x8).bind fun t112 => ((word_Shift.f 3 x0 x8).bind fun t113 => ((word_Shift.f 2 x0 x8).bind fun t114 => (if x7 = true then ((word_Shift.f 3 t113 ((32 - x8) % 4294967296)).bind fun t115 => (if t115 = x0 then (if 0 ≤ x8 then (if t112 = (shl .u32 x0 x8) then (if (t114 / 2147483648) = (x0 / 2147483648) then (if (x0 / 2147483648) = 1 then ((word_Shift.f 0 x0 x1).bind fun t116 => (if t116 = x0 then ((word_Shift.f 4 x0 x1).bind fun t117 => (some (t117 == x0))) else (some false))) else (if t114 = (shr .u32 x0 x8) then ((word_Shift.f 0 x0 x1).bind fun t118 => (if t118 = x0 then ((word_Shift.f 4 x0 x1).bind fun t119 => (some (t119 == x0))) else (some false))) else (some false))) else (some false)) else (some false)) else (none)) else (some false))) else (some false)))))
def rivetlaw01_WordShifts.f (k : Nat) (a0 : Int) (a1 : Int) (a2 : Int) : Option (Bool) := (rivetlaw01_shown.f).bind fun t105 => (if ((32 - (Int.tmod a1 32)) % 4294967296) = 0 then (none) else (rivetlaw01_WordShifts.l0 k a0 a1 a2 t105 (Int.tmod a1 32) (Int.tmod a2 ((32 - (Int.tmod a1 32)) % 4294967296)) 1))
theorem rivetlaw01_WordShifts.mono_l : ∀ k, (∀ y0 y1 y2 y3 y4 y5 y6, LeO (rivetlaw01_WordShifts.l0 k y0 y1 y2 y3 y4 y5 y6) (rivetlaw01_WordShifts.l0 (k + 1) y0 y1 y2 y3 y4 y5 y6))
  | 0 => fun _ _ _ _ _ _ _ r h => by simp [rivetlaw01_WordShifts.l0] at h
  | k + 1 => by
    have ih0 := rivetlaw01_WordShifts.mono_l k
    · intro y0 y1 y2 y3 y4 y5 y6
      unfold rivetlaw01_WordShifts.l0
      repeat' first
      | (with_reducible exact ih0 _ _ _ _ _ _ _)
      | (with_reducible exact LeO.refl _)
      | (with_reducible exact LeO.none _)
      | (with_reducible refine LeO.ite ?_ ?_)
      | (with_reducible refine LeO.bind ?_ (fun _ => ?_))
      | exact ih0 _ _ _ _ _ _ _
      | exact LeO.none _
      | refine LeO.ite ?_ ?_
      | refine LeO.bind ?_ (fun _ => ?_)
theorem rivetlaw01_WordShifts.mono : ∀ a0 a1 a2 k, LeO (rivetlaw01_WordShifts.f k a0 a1 a2) (rivetlaw01_WordShifts.f (k + 1) a0 a1 a2) := by
  intro a0 a1 a2 k
  have ih0 := rivetlaw01_WordShifts.mono_l k
  unfold rivetlaw01_WordShifts.f
  repeat' first
      | (with_reducible exact ih0 _ _ _ _ _ _ _)
      | (with_reducible exact LeO.refl _)
      | (with_reducible exact LeO.none _)
      | (with_reducible refine LeO.ite ?_ ?_)
      | (with_reducible refine LeO.bind ?_ (fun _ => ?_))
      | exact ih0 _ _ _ _ _ _ _
      | exact LeO.none _
      | refine LeO.ite ?_ ?_
      | refine LeO.bind ?_ (fun _ => ?_)
set_option maxHeartbeats 8000000 in
set_option maxRecDepth 100000 in
theorem rivetlaw01_WordShifts.calls (k : Nat) (a0 : Int) (a1 : Int) (a2 : Int) (r : Bool) (w : World) (h : rivetlaw01_WordShifts.f k a0 a1 a2 = some r) :
    Calls Try.prog 6 #[.int .u32 a0, .int .u32 a1, .int .u32 a2] w fun e w' => e = .returned (.bool r) ∧ Drawn0 w w' := by
  have H : ((rivetlaw01_shown.f).bind fun t105 => (if ((32 - (Int.tmod a1 32)) % 4294967296) = 0 then (none) else (rivetlaw01_WordShifts.l0 k a0 a1 a2 t105 (Int.tmod a1 32) (Int.tmod a2 ((32 - (Int.tmod a1 32)) % 4294967296)) 1))) = some r := h
  clear h
  replace H := Option.bind_eq_some_iff.mp H
  obtain ⟨t105, A40, H⟩ := H
  replace H : (if ((32 - (Int.tmod a1 32)) % 4294967296) = 0 then (none) else (rivetlaw01_WordShifts.l0 k a0 a1 a2 t105 (Int.tmod a1 32) (Int.tmod a2 ((32 - (Int.tmod a1 32)) % 4294967296)) 1)) = some r := H
  have A4 := Aside0.mk A40
  clear A40
  by_cases c5 : ((32 - (Int.tmod a1 32)) % 4294967296) = 0
  · rw [if_pos c5] at H
    exact absurd H (by simp)
  · rw [if_neg c5] at H
    have c5b0 : (((32 - (Int.tmod a1 32)) % 4294967296) == 0) = false := beq_eq_false_iff_ne.mpr c5
    have c5b1 : (((32 - (Int.tmod a1 32)) % 4294967296) != 0) = true := bne_iff_ne.mpr c5
    have H' := Aside0.mk H
    clear H
    go_enter Try.func6, Try.ntmps6
    go_wp2_with (first | ((with_reducible refine gate_callee (f := 11) rfl ?_); refine goesL_ (some 14) rfl rfl Try.func11 (by kernel_rfl) rfl #[] rfl (by (try simp only [List.map_toArray, List.map_cons, List.map_nil]); first | done | rfl | (simp only [List.length_drop, List.length_take]; rfl)) ?_; (with_reducible refine (rivetlaw01_shown.calls  t105 _ A4.out).mono ?_); rintro e w' ⟨rfl, ⟨nd, rfl⟩⟩; refine ⟨_, rfl, ?_⟩))
    go_loopg [10] k (fun kq v10 w' => ∃ (x10_1 : Int), v10 = .int .i64 x10_1 ∧ Aside0 (rivetlaw01_WordShifts.l0 kq a0 a1 a2 t105 (Int.tmod a1 32) (Int.tmod a2 ((32 - (Int.tmod a1 32)) % 4294967296)) x10_1 = some r) ∧ Aside0 (kq ≤ k) ∧ Drawn0 w w')
    case atStart => exact ⟨(1), (by first | rfl | (simp; done) | (simp [*]; done)), H', ⟨Nat.le_refl _⟩, by repeat (first | exact Drawn0.refl _ | apply Drawn0.step)⟩
    case round =>
      clear H'
      try clear c1
      try clear p2
      try clear c5
      try clear c5b0
      try clear c5b1
      obtain ⟨x10_1, rfl, HA, HK1, ⟨m1, rfl⟩⟩ := hrel
      cases gk with
      | zero => exact absurd HA.out (by simp [rivetlaw01_WordShifts.l0])
      | succ k1 =>
        have H := HA.out
        clear HA
        simp only [rivetlaw01_WordShifts.l0] at H
        by_cases c6 : x10_1 ≤ 3
        · rw [if_pos c6] at H
          have c6b0 : decide (x10_1 ≤ 3) = true := decide_eq_true c6
          clear c6
          replace H := Option.bind_eq_some_iff.mp H
          obtain ⟨t106, A70, H⟩ := H
          replace H : ((word_Shift.f x10_1 t106 (Int.tmod a2 ((32 - (Int.tmod a1 32)) % 4294967296))).bind fun t107 => ((word_Shift.f x10_1 a0 (((Int.tmod a1 32) + (Int.tmod a2 ((32 - (Int.tmod a1 32)) % 4294967296))) % 4294967296)).bind fun t108 => (if t107 = t108 then ((word_Shift.f x10_1 a0 ((32 * a2) % 4294967296)).bind fun t109 => (if t109 = a0 then ((word_Shift.f x10_1 a0 a1).bind fun t110 => ((word_Shift.f x10_1 a0 (Int.tmod a1 32)).bind fun t111 => (if t110 = t111 then (rivetlaw01_WordShifts.l0 k1 a0 a1 a2 t105 (Int.tmod a1 32) (Int.tmod a2 ((32 - (Int.tmod a1 32)) % 4294967296)) (wrap64 (x10_1 + 1))) else (some false)))) else (some false))) else (some false)))) = some r := H
          have A7 := Aside0.mk A70
          clear A70
          replace H := Option.bind_eq_some_iff.mp H
          obtain ⟨t107, A80, H⟩ := H
          replace H : ((word_Shift.f x10_1 a0 (((Int.tmod a1 32) + (Int.tmod a2 ((32 - (Int.tmod a1 32)) % 4294967296))) % 4294967296)).bind fun t108 => (if t107 = t108 then ((word_Shift.f x10_1 a0 ((32 * a2) % 4294967296)).bind fun t109 => (if t109 = a0 then ((word_Shift.f x10_1 a0 a1).bind fun t110 => ((word_Shift.f x10_1 a0 (Int.tmod a1 32)).bind fun t111 => (if t110 = t111 then (rivetlaw01_WordShifts.l0 k1 a0 a1 a2 t105 (Int.tmod a1 32) (Int.tmod a2 ((32 - (Int.tmod a1 32)) % 4294967296)) (wrap64 (x10_1 + 1))) else (some false)))) else (some false))) else (some false))) = some r := H
          have A8 := Aside0.mk A80
          clear A80
          replace H := Option.bind_eq_some_iff.mp H
          obtain ⟨t108, A90, H⟩ := H
          replace H : (if t107 = t108 then ((word_Shift.f x10_1 a0 ((32 * a2) % 4294967296)).bind fun t109 => (if t109 = a0 then ((word_Shift.f x10_1 a0 a1).bind fun t110 => ((word_Shift.f x10_1 a0 (Int.tmod a1 32)).bind fun t111 => (if t110 = t111 then (rivetlaw01_WordShifts.l0 k1 a0 a1 a2 t105 (Int.tmod a1 32) (Int.tmod a2 ((32 - (Int.tmod a1 32)) % 4294967296)) (wrap64 (x10_1 + 1))) else (some false)))) else (some false))) else (some false)) = some r := H
          have A9 := Aside0.mk A90
          clear A90
          by_cases c10 : t107 = t108
          · rw [if_pos c10] at H
            have c10b0 : (t107 == t108) = true := beq_iff_eq.mpr c10
            have c10b1 : (t107 != t108) = false := bne_eq_false_iff_eq.mpr c10
            clear c10
            replace H := Option.bind_eq_some_iff.mp H
            obtain ⟨t109, A110, H⟩ := H
            replace H : (if t109 = a0 then ((word_Shift.f x10_1 a0 a1).bind fun t110 => ((word_Shift.f x10_1 a0 (Int.tmod a1 32)).bind fun t111 => (if t110 = t111 then (rivetlaw01_WordShifts.l0 k1 a0 a1 a2 t105 (Int.tmod a1 32) (Int.tmod a2 ((32 - (Int.tmod a1 32)) % 4294967296)) (wrap64 (x10_1 + 1))) else (some false)))) else (some false)) = some r := H
            have A11 := Aside0.mk A110
            clear A110
            by_cases c12 : t109 = a0
            · rw [if_pos c12] at H
              have c12b0 : (t109 == a0) = true := beq_iff_eq.mpr c12
              have c12b1 : (t109 != a0) = false := bne_eq_false_iff_eq.mpr c12
              clear c12
              replace H := Option.bind_eq_some_iff.mp H
              obtain ⟨t110, A130, H⟩ := H
              replace H : ((word_Shift.f x10_1 a0 (Int.tmod a1 32)).bind fun t111 => (if t110 = t111 then (rivetlaw01_WordShifts.l0 k1 a0 a1 a2 t105 (Int.tmod a1 32) (Int.tmod a2 ((32 - (Int.tmod a1 32)) % 4294967296)) (wrap64 (x10_1 + 1))) else (some false))) = some r := H
              have A13 := Aside0.mk A130
              clear A130
              replace H := Option.bind_eq_some_iff.mp H
              obtain ⟨t111, A140, H⟩ := H
              replace H : (if t110 = t111 then (rivetlaw01_WordShifts.l0 k1 a0 a1 a2 t105 (Int.tmod a1 32) (Int.tmod a2 ((32 - (Int.tmod a1 32)) % 4294967296)) (wrap64 (x10_1 + 1))) else (some false)) = some r := H
              have A14 := Aside0.mk A140
              clear A140
              by_cases c15 : t110 = t111
              · rw [if_pos c15] at H
                have c15b0 : (t110 == t111) = true := beq_iff_eq.mpr c15
                have c15b1 : (t110 != t111) = false := bne_eq_false_iff_eq.mpr c15
                clear c15
                have H' := Aside0.mk H
                clear H
                go_wp2_with (first | ((with_reducible refine gate_callee (f := 15) rfl ?_); refine goesL_ (some 29) rfl rfl Try.func15 (by kernel_rfl) rfl #[.int .i64 x10_1, .int .u32 a0, .int .u32 (Int.tmod a1 32)] rfl (by (try simp only [List.map_toArray, List.map_cons, List.map_nil]); first | done | rfl | (simp only [List.length_drop, List.length_take]; rfl)) ?_; (with_reducible refine (word_Shift.calls x10_1 a0 (Int.tmod a1 32) t106 _ A7.out).mono ?_); rintro e w' ⟨rfl, ⟨nd, rfl⟩⟩; refine ⟨_, rfl, ?_⟩) | ((with_reducible refine gate_callee (f := 15) rfl ?_); refine goesL_ (some 31) rfl rfl Try.func15 (by kernel_rfl) rfl #[.int .i64 x10_1, .int .u32 t106, .int .u32 (Int.tmod a2 ((32 - (Int.tmod a1 32)) % 4294967296))] rfl (by (try simp only [List.map_toArray, List.map_cons, List.map_nil]); first | done | rfl | (simp only [List.length_drop, List.length_take]; rfl)) ?_; (with_reducible refine (word_Shift.calls x10_1 t106 (Int.tmod a2 ((32 - (Int.tmod a1 32)) % 4294967296)) t107 _ A8.out).mono ?_); rintro e w' ⟨rfl, ⟨nd, rfl⟩⟩; refine ⟨_, rfl, ?_⟩) | ((with_reducible refine gate_callee (f := 15) rfl ?_); refine goesL_ (some 37) rfl rfl Try.func15 (by kernel_rfl) rfl #[.int .i64 x10_1, .int .u32 a0, .int .u32 (((Int.tmod a1 32) + (Int.tmod a2 ((32 - (Int.tmod a1 32)) % 4294967296))) % 4294967296)] rfl (by (try simp only [List.map_toArray, List.map_cons, List.map_nil]); first | done | rfl | (simp only [List.length_drop, List.length_take]; rfl)) ?_; (with_reducible refine (word_Shift.calls x10_1 a0 (((Int.tmod a1 32) + (Int.tmod a2 ((32 - (Int.tmod a1 32)) % 4294967296))) % 4294967296) t108 _ A9.out).mono ?_); rintro e w' ⟨rfl, ⟨nd, rfl⟩⟩; refine ⟨_, rfl, ?_⟩) | (go_at_call 15; (with_reducible refine (word_Shift.calls x10_1 a0 ((32 * a2) % 4294967296) t109 _ A11.out).mono ?_); rintro e w' ⟨rfl, ⟨nd, rfl⟩⟩) | (go_at_call 15; (with_reducible refine (word_Shift.calls x10_1 a0 a1 t110 _ A13.out).mono ?_); rintro e w' ⟨rfl, ⟨nd, rfl⟩⟩) | (go_at_call 15; (with_reducible refine (word_Shift.calls x10_1 a0 (Int.tmod a1 32) t111 _ A14.out).mono ?_); rintro e w' ⟨rfl, ⟨nd, rfl⟩⟩))
                go_roundg k1
                case measure => have := HK1.out; omega
                case rel => exact ⟨(wrap64 (x10_1 + 1)), (by first | rfl | (simp; done) | (simp [*]; done)), H', ⟨by have := HK1.out; omega⟩, by repeat (first | exact Drawn0.refl _ | apply Drawn0.step)⟩
              · rw [if_neg c15] at H
                have c15b0 : (t110 == t111) = false := beq_eq_false_iff_ne.mpr c15
                have c15b1 : (t110 != t111) = true := bne_iff_ne.mpr c15
                obtain rfl := Option.some.inj H
                go_wp2_with (first | ((with_reducible refine gate_callee (f := 15) rfl ?_); refine goesL_ (some 29) rfl rfl Try.func15 (by kernel_rfl) rfl #[.int .i64 x10_1, .int .u32 a0, .int .u32 (Int.tmod a1 32)] rfl (by (try simp only [List.map_toArray, List.map_cons, List.map_nil]); first | done | rfl | (simp only [List.length_drop, List.length_take]; rfl)) ?_; (with_reducible refine (word_Shift.calls x10_1 a0 (Int.tmod a1 32) t106 _ A7.out).mono ?_); rintro e w' ⟨rfl, ⟨nd, rfl⟩⟩; refine ⟨_, rfl, ?_⟩) | ((with_reducible refine gate_callee (f := 15) rfl ?_); refine goesL_ (some 31) rfl rfl Try.func15 (by kernel_rfl) rfl #[.int .i64 x10_1, .int .u32 t106, .int .u32 (Int.tmod a2 ((32 - (Int.tmod a1 32)) % 4294967296))] rfl (by (try simp only [List.map_toArray, List.map_cons, List.map_nil]); first | done | rfl | (simp only [List.length_drop, List.length_take]; rfl)) ?_; (with_reducible refine (word_Shift.calls x10_1 t106 (Int.tmod a2 ((32 - (Int.tmod a1 32)) % 4294967296)) t107 _ A8.out).mono ?_); rintro e w' ⟨rfl, ⟨nd, rfl⟩⟩; refine ⟨_, rfl, ?_⟩) | ((with_reducible refine gate_callee (f := 15) rfl ?_); refine goesL_ (some 37) rfl rfl Try.func15 (by kernel_rfl) rfl #[.int .i64 x10_1, .int .u32 a0, .int .u32 (((Int.tmod a1 32) + (Int.tmod a2 ((32 - (Int.tmod a1 32)) % 4294967296))) % 4294967296)] rfl (by (try simp only [List.map_toArray, List.map_cons, List.map_nil]); first | done | rfl | (simp only [List.length_drop, List.length_take]; rfl)) ?_; (with_reducible refine (word_Shift.calls x10_1 a0 (((Int.tmod a1 32) + (Int.tmod a2 ((32 - (Int.tmod a1 32)) % 4294967296))) % 4294967296) t108 _ A9.out).mono ?_); rintro e w' ⟨rfl, ⟨nd, rfl⟩⟩; refine ⟨_, rfl, ?_⟩) | (go_at_call 15; (with_reducible refine (word_Shift.calls x10_1 a0 ((32 * a2) % 4294967296) t109 _ A11.out).mono ?_); rintro e w' ⟨rfl, ⟨nd, rfl⟩⟩) | (go_at_call 15; (with_reducible refine (word_Shift.calls x10_1 a0 a1 t110 _ A13.out).mono ?_); rintro e w' ⟨rfl, ⟨nd, rfl⟩⟩) | (go_at_call 15; (with_reducible refine (word_Shift.calls x10_1 a0 (Int.tmod a1 32) t111 _ A14.out).mono ?_); rintro e w' ⟨rfl, ⟨nd, rfl⟩⟩))
                go_ret
                exact ⟨by first | rfl | (simp; done) | (simp [*]; done), by repeat (first | exact Drawn0.refl _ | apply Drawn0.step)⟩
            · rw [if_neg c12] at H
              have c12b0 : (t109 == a0) = false := beq_eq_false_iff_ne.mpr c12
              have c12b1 : (t109 != a0) = true := bne_iff_ne.mpr c12
              obtain rfl := Option.some.inj H
              go_wp2_with (first | ((with_reducible refine gate_callee (f := 15) rfl ?_); refine goesL_ (some 29) rfl rfl Try.func15 (by kernel_rfl) rfl #[.int .i64 x10_1, .int .u32 a0, .int .u32 (Int.tmod a1 32)] rfl (by (try simp only [List.map_toArray, List.map_cons, List.map_nil]); first | done | rfl | (simp only [List.length_drop, List.length_take]; rfl)) ?_; (with_reducible refine (word_Shift.calls x10_1 a0 (Int.tmod a1 32) t106 _ A7.out).mono ?_); rintro e w' ⟨rfl, ⟨nd, rfl⟩⟩; refine ⟨_, rfl, ?_⟩) | ((with_reducible refine gate_callee (f := 15) rfl ?_); refine goesL_ (some 31) rfl rfl Try.func15 (by kernel_rfl) rfl #[.int .i64 x10_1, .int .u32 t106, .int .u32 (Int.tmod a2 ((32 - (Int.tmod a1 32)) % 4294967296))] rfl (by (try simp only [List.map_toArray, List.map_cons, List.map_nil]); first | done | rfl | (simp only [List.length_drop, List.length_take]; rfl)) ?_; (with_reducible refine (word_Shift.calls x10_1 t106 (Int.tmod a2 ((32 - (Int.tmod a1 32)) % 4294967296)) t107 _ A8.out).mono ?_); rintro e w' ⟨rfl, ⟨nd, rfl⟩⟩; refine ⟨_, rfl, ?_⟩) | ((with_reducible refine gate_callee (f := 15) rfl ?_); refine goesL_ (some 37) rfl rfl Try.func15 (by kernel_rfl) rfl #[.int .i64 x10_1, .int .u32 a0, .int .u32 (((Int.tmod a1 32) + (Int.tmod a2 ((32 - (Int.tmod a1 32)) % 4294967296))) % 4294967296)] rfl (by (try simp only [List.map_toArray, List.map_cons, List.map_nil]); first | done | rfl | (simp only [List.length_drop, List.length_take]; rfl)) ?_; (with_reducible refine (word_Shift.calls x10_1 a0 (((Int.tmod a1 32) + (Int.tmod a2 ((32 - (Int.tmod a1 32)) % 4294967296))) % 4294967296) t108 _ A9.out).mono ?_); rintro e w' ⟨rfl, ⟨nd, rfl⟩⟩; refine ⟨_, rfl, ?_⟩) | (go_at_call 15; (with_reducible refine (word_Shift.calls x10_1 a0 ((32 * a2) % 4294967296) t109 _ A11.out).mono ?_); rintro e w' ⟨rfl, ⟨nd, rfl⟩⟩))
              go_ret
              exact ⟨by first | rfl | (simp; done) | (simp [*]; done), by repeat (first | exact Drawn0.refl _ | apply Drawn0.step)⟩
          · rw [if_neg c10] at H
            have c10b0 : (t107 == t108) = false := beq_eq_false_iff_ne.mpr c10
            have c10b1 : (t107 != t108) = true := bne_iff_ne.mpr c10
            obtain rfl := Option.some.inj H
            go_wp2_with (first | ((with_reducible refine gate_callee (f := 15) rfl ?_); refine goesL_ (some 29) rfl rfl Try.func15 (by kernel_rfl) rfl #[.int .i64 x10_1, .int .u32 a0, .int .u32 (Int.tmod a1 32)] rfl (by (try simp only [List.map_toArray, List.map_cons, List.map_nil]); first | done | rfl | (simp only [List.length_drop, List.length_take]; rfl)) ?_; (with_reducible refine (word_Shift.calls x10_1 a0 (Int.tmod a1 32) t106 _ A7.out).mono ?_); rintro e w' ⟨rfl, ⟨nd, rfl⟩⟩; refine ⟨_, rfl, ?_⟩) | ((with_reducible refine gate_callee (f := 15) rfl ?_); refine goesL_ (some 31) rfl rfl Try.func15 (by kernel_rfl) rfl #[.int .i64 x10_1, .int .u32 t106, .int .u32 (Int.tmod a2 ((32 - (Int.tmod a1 32)) % 4294967296))] rfl (by (try simp only [List.map_toArray, List.map_cons, List.map_nil]); first | done | rfl | (simp only [List.length_drop, List.length_take]; rfl)) ?_; (with_reducible refine (word_Shift.calls x10_1 t106 (Int.tmod a2 ((32 - (Int.tmod a1 32)) % 4294967296)) t107 _ A8.out).mono ?_); rintro e w' ⟨rfl, ⟨nd, rfl⟩⟩; refine ⟨_, rfl, ?_⟩) | ((with_reducible refine gate_callee (f := 15) rfl ?_); refine goesL_ (some 37) rfl rfl Try.func15 (by kernel_rfl) rfl #[.int .i64 x10_1, .int .u32 a0, .int .u32 (((Int.tmod a1 32) + (Int.tmod a2 ((32 - (Int.tmod a1 32)) % 4294967296))) % 4294967296)] rfl (by (try simp only [List.map_toArray, List.map_cons, List.map_nil]); first | done | rfl | (simp only [List.length_drop, List.length_take]; rfl)) ?_; (with_reducible refine (word_Shift.calls x10_1 a0 (((Int.tmod a1 32) + (Int.tmod a2 ((32 - (Int.tmod a1 32)) % 4294967296))) % 4294967296) t108 _ A9.out).mono ?_); rintro e w' ⟨rfl, ⟨nd, rfl⟩⟩; refine ⟨_, rfl, ?_⟩))
            go_ret
            exact ⟨by first | rfl | (simp; done) | (simp [*]; done), by repeat (first | exact Drawn0.refl _ | apply Drawn0.step)⟩
        · rw [if_neg c6] at H
          have c6b0 : decide (x10_1 ≤ 3) = false := decide_eq_false c6
          clear c6
          replace H := Option.bind_eq_some_iff.mp H
          obtain ⟨t112, A160, H⟩ := H
          replace H : ((word_Shift.f 3 a0 (Int.tmod a1 32)).bind fun t113 => ((word_Shift.f 2 a0 (Int.tmod a1 32)).bind fun t114 => (if t105 = true then ((word_Shift.f 3 t113 ((32 - (Int.tmod a1 32)) % 4294967296)).bind fun t115 => (if t115 = a0 then (if 0 ≤ (Int.tmod a1 32) then (if t112 = (shl .u32 a0 (Int.tmod a1 32)) then (if (t114 / 2147483648) = (a0 / 2147483648) then (if (a0 / 2147483648) = 1 then ((word_Shift.f 0 a0 a1).bind fun t116 => (if t116 = a0 then ((word_Shift.f 4 a0 a1).bind fun t117 => (some (t117 == a0))) else (some false))) else (if t114 = (shr .u32 a0 (Int.tmod a1 32)) then ((word_Shift.f 0 a0 a1).bind fun t118 => (if t118 = a0 then ((word_Shift.f 4 a0 a1).bind fun t119 => (some (t119 == a0))) else (some false))) else (some false))) else (some false)) else (some false)) else (none)) else (some false))) else (some false)))) = some r := H
          have A16 := Aside0.mk A160
          clear A160
          replace H := Option.bind_eq_some_iff.mp H
          obtain ⟨t113, A170, H⟩ := H
          replace H : ((word_Shift.f 2 a0 (Int.tmod a1 32)).bind fun t114 => (if t105 = true then ((word_Shift.f 3 t113 ((32 - (Int.tmod a1 32)) % 4294967296)).bind fun t115 => (if t115 = a0 then (if 0 ≤ (Int.tmod a1 32) then (if t112 = (shl .u32 a0 (Int.tmod a1 32)) then (if (t114 / 2147483648) = (a0 / 2147483648) then (if (a0 / 2147483648) = 1 then ((word_Shift.f 0 a0 a1).bind fun t116 => (if t116 = a0 then ((word_Shift.f 4 a0 a1).bind fun t117 => (some (t117 == a0))) else (some false))) else (if t114 = (shr .u32 a0 (Int.tmod a1 32)) then ((word_Shift.f 0 a0 a1).bind fun t118 => (if t118 = a0 then ((word_Shift.f 4 a0 a1).bind fun t119 => (some (t119 == a0))) else (some false))) else (some false))) else (some false)) else (some false)) else (none)) else (some false))) else (some false))) = some r := H
          have A17 := Aside0.mk A170
          clear A170
          replace H := Option.bind_eq_some_iff.mp H
          obtain ⟨t114, A180, H⟩ := H
          replace H : (if t105 = true then ((word_Shift.f 3 t113 ((32 - (Int.tmod a1 32)) % 4294967296)).bind fun t115 => (if t115 = a0 then (if 0 ≤ (Int.tmod a1 32) then (if t112 = (shl .u32 a0 (Int.tmod a1 32)) then (if (t114 / 2147483648) = (a0 / 2147483648) then (if (a0 / 2147483648) = 1 then ((word_Shift.f 0 a0 a1).bind fun t116 => (if t116 = a0 then ((word_Shift.f 4 a0 a1).bind fun t117 => (some (t117 == a0))) else (some false))) else (if t114 = (shr .u32 a0 (Int.tmod a1 32)) then ((word_Shift.f 0 a0 a1).bind fun t118 => (if t118 = a0 then ((word_Shift.f 4 a0 a1).bind fun t119 => (some (t119 == a0))) else (some false))) else (some false))) else (some false)) else (some false)) else (none)) else (some false))) else (some false)) = some r := H
          have A18 := Aside0.mk A180
          clear A180
          by_cases c19 : t105 = true
          · subst c19
            have H1 : ((word_Shift.f 3 t113 ((32 - (Int.tmod a1 32)) % 4294967296)).bind fun t115 => (if t115 = a0 then (if 0 ≤ (Int.tmod a1 32) then (if t112 = (shl .u32 a0 (Int.tmod a1 32)) then (if (t114 / 2147483648) = (a0 / 2147483648) then (if (a0 / 2147483648) = 1 then ((word_Shift.f 0 a0 a1).bind fun t116 => (if t116 = a0 then ((word_Shift.f 4 a0 a1).bind fun t117 => (some (t117 == a0))) else (some false))) else (if t114 = (shr .u32 a0 (Int.tmod a1 32)) then ((word_Shift.f 0 a0 a1).bind fun t118 => (if t118 = a0 then ((word_Shift.f 4 a0 a1).bind fun t119 => (some (t119 == a0))) else (some false))) else (some false))) else (some false)) else (some false)) else (none)) else (some false))) = some r := by rw [if_pos rfl] at H; exact H
            clear H
            have H := H1
            clear H1
            replace H := Option.bind_eq_some_iff.mp H
            obtain ⟨t115, A200, H⟩ := H
            replace H : (if t115 = a0 then (if 0 ≤ (Int.tmod a1 32) then (if t112 = (shl .u32 a0 (Int.tmod a1 32)) then (if (t114 / 2147483648) = (a0 / 2147483648) then (if (a0 / 2147483648) = 1 then ((word_Shift.f 0 a0 a1).bind fun t116 => (if t116 = a0 then ((word_Shift.f 4 a0 a1).bind fun t117 => (some (t117 == a0))) else (some false))) else (if t114 = (shr .u32 a0 (Int.tmod a1 32)) then ((word_Shift.f 0 a0 a1).bind fun t118 => (if t118 = a0 then ((word_Shift.f 4 a0 a1).bind fun t119 => (some (t119 == a0))) else (some false))) else (some false))) else (some false)) else (some false)) else (none)) else (some false)) = some r := H
            have A20 := Aside0.mk A200
            clear A200
            by_cases c21 : t115 = a0
            · rw [if_pos c21] at H
              have c21b0 : (t115 == a0) = true := beq_iff_eq.mpr c21
              have c21b1 : (t115 != a0) = false := bne_eq_false_iff_eq.mpr c21
              clear c21
              obtain ⟨ji22, hji22⟩ : ∃ j_ : Int, (Int.tmod a1 32) = j_ := ⟨_, rfl⟩
              replace H : (if 0 ≤ (ji22) then (if t112 = (shl .u32 a0 (ji22)) then (if (t114 / 2147483648) = (a0 / 2147483648) then (if (a0 / 2147483648) = 1 then ((word_Shift.f 0 a0 a1).bind fun t116 => (if t116 = a0 then ((word_Shift.f 4 a0 a1).bind fun t117 => (some (t117 == a0))) else (some false))) else (if t114 = (shr .u32 a0 (ji22)) then ((word_Shift.f 0 a0 a1).bind fun t118 => (if t118 = a0 then ((word_Shift.f 4 a0 a1).bind fun t119 => (some (t119 == a0))) else (some false))) else (some false))) else (some false)) else (some false)) else (none)) = some r := by first | (rw [hji22] at H; exact H) | (simp only [hji22] at H ⊢; exact H)
              (try rw [hji22] at c5b0)
              (try rw [hji22] at c5b1)
              (try rw [hji22] at A16)
              (try rw [hji22] at A17)
              (try rw [hji22] at A18)
              (try rw [hji22] at A20)
              by_cases c23 : 0 ≤ (ji22)
              · rw [if_pos c23] at H
                have c23b0 := eq_true c23
                have c23b1 : decide (0 ≤ (ji22)) = true := decide_eq_true c23
                clear c23
                obtain ⟨ji24, hji24⟩ : ∃ j_ : Int, (shl .u32 a0 (ji22)) = j_ := ⟨_, rfl⟩
                replace H : (if t112 = (ji24) then (if (t114 / 2147483648) = (a0 / 2147483648) then (if (a0 / 2147483648) = 1 then ((word_Shift.f 0 a0 a1).bind fun t116 => (if t116 = a0 then ((word_Shift.f 4 a0 a1).bind fun t117 => (some (t117 == a0))) else (some false))) else (if t114 = (shr .u32 a0 (ji22)) then ((word_Shift.f 0 a0 a1).bind fun t118 => (if t118 = a0 then ((word_Shift.f 4 a0 a1).bind fun t119 => (some (t119 == a0))) else (some false))) else (some false))) else (some false)) else (some false)) = some r := by first | (rw [hji24] at H; exact H) | (simp only [hji24] at H ⊢; exact H)
                (try rw [hji24] at A16)
                (try rw [hji24] at A17)
                (try rw [hji24] at A18)
                (try rw [hji24] at A20)
                have hji24_ : (IntKind.u32.wrap (a0 * 2 ^ min (ji22).toNat 32)) = ji24 := hji24
                have hji24z : (ji22) ≤ 32 → (IntKind.u32.wrap (a0 * 2 ^ (ji22).toNat)) = ji24 := shl_small hji24
                by_cases c25 : t112 = (ji24)
                · rw [if_pos c25] at H
                  have c25b0 : (t112 == (ji24)) = true := beq_iff_eq.mpr c25
                  have c25b1 : (t112 != (ji24)) = false := bne_eq_false_iff_eq.mpr c25
                  clear c25
                  by_cases c26 : (t114 / 2147483648) = (a0 / 2147483648)
                  · rw [if_pos c26] at H
                    have c26b0 : ((t114 / 2147483648) == (a0 / 2147483648)) = true := beq_iff_eq.mpr c26
                    have c26b1 : ((t114 / 2147483648) != (a0 / 2147483648)) = false := bne_eq_false_iff_eq.mpr c26
                    clear c26
                    by_cases c27 : (a0 / 2147483648) = 1
                    · rw [if_pos c27] at H
                      have c27b0 : ((a0 / 2147483648) == 1) = true := beq_iff_eq.mpr c27
                      have c27b1 : ((a0 / 2147483648) != 1) = false := bne_eq_false_iff_eq.mpr c27
                      clear c27
                      replace H := Option.bind_eq_some_iff.mp H
                      obtain ⟨t116, A280, H⟩ := H
                      replace H : (if t116 = a0 then ((word_Shift.f 4 a0 a1).bind fun t117 => (some (t117 == a0))) else (some false)) = some r := H
                      have A28 := Aside0.mk A280
                      clear A280
                      by_cases c29 : t116 = a0
                      · rw [if_pos c29] at H
                        have c29b0 : (t116 == a0) = true := beq_iff_eq.mpr c29
                        have c29b1 : (t116 != a0) = false := bne_eq_false_iff_eq.mpr c29
                        clear c29
                        replace H := Option.bind_eq_some_iff.mp H
                        obtain ⟨t117, A300, H⟩ := H
                        replace H : (some (t117 == a0)) = some r := H
                        have A30 := Aside0.mk A300
                        clear A300
                        obtain rfl := Option.some.inj H
                        go_wp2_with (first | ((with_reducible refine gate_callee (f := 15) rfl ?_); refine goesL_ (some 61) rfl rfl Try.func15 (by kernel_rfl) rfl #[.int .i64 1, .int .u32 a0, .int .u32 (ji22)] rfl (by (try simp only [List.map_toArray, List.map_cons, List.map_nil]); first | done | (simp only [hji22]; rfl) | rfl | (simp only [List.length_drop, List.length_take]; rfl)) ?_; (with_reducible refine (word_Shift.calls 1 a0 (ji22) t112 _ A16.out).mono ?_); rintro e w' ⟨rfl, ⟨nd, rfl⟩⟩; refine ⟨_, rfl, ?_⟩) | ((with_reducible refine gate_callee (f := 15) rfl ?_); refine goesL_ (some 64) rfl rfl Try.func15 (by kernel_rfl) rfl #[.int .i64 3, .int .u32 a0, .int .u32 (ji22)] rfl (by (try simp only [List.map_toArray, List.map_cons, List.map_nil]); first | done | (simp only [hji22]; rfl) | rfl | (simp only [List.length_drop, List.length_take]; rfl)) ?_; (with_reducible refine (word_Shift.calls 3 a0 (ji22) t113 _ A17.out).mono ?_); rintro e w' ⟨rfl, ⟨nd, rfl⟩⟩; refine ⟨_, rfl, ?_⟩) | ((with_reducible refine gate_callee (f := 15) rfl ?_); refine goesL_ (some 67) rfl rfl Try.func15 (by kernel_rfl) rfl #[.int .i64 2, .int .u32 a0, .int .u32 (ji22)] rfl (by (try simp only [List.map_toArray, List.map_cons, List.map_nil]); first | done | (simp only [hji22]; rfl) | rfl | (simp only [List.length_drop, List.length_take]; rfl)) ?_; (with_reducible refine (word_Shift.calls 2 a0 (ji22) t114 _ A18.out).mono ?_); rintro e w' ⟨rfl, ⟨nd, rfl⟩⟩; refine ⟨_, rfl, ?_⟩) | (go_at_call 15; (with_reducible refine (word_Shift.calls 3 t113 ((32 - (ji22)) % 4294967296) t115 _ A20.out).mono ?_); rintro e w' ⟨rfl, ⟨nd, rfl⟩⟩) | (go_at_call 15; (with_reducible refine (word_Shift.calls 0 a0 a1 t116 _ A28.out).mono ?_); rintro e w' ⟨rfl, ⟨nd, rfl⟩⟩) | (go_at_call 15; (with_reducible refine (word_Shift.calls 4 a0 a1 t117 _ A30.out).mono ?_); rintro e w' ⟨rfl, ⟨nd, rfl⟩⟩))
                        go_ret
                        exact ⟨by first | rfl | (simp; done) | (simp only [← hji22, ← hji24] <;> (first | rfl | simp)) | (simp [*]; done), by repeat (first | exact Drawn0.refl _ | apply Drawn0.step)⟩
                      · rw [if_neg c29] at H
                        have c29b0 : (t116 == a0) = false := beq_eq_false_iff_ne.mpr c29
                        have c29b1 : (t116 != a0) = true := bne_iff_ne.mpr c29
                        obtain rfl := Option.some.inj H
                        go_wp2_with (first | ((with_reducible refine gate_callee (f := 15) rfl ?_); refine goesL_ (some 61) rfl rfl Try.func15 (by kernel_rfl) rfl #[.int .i64 1, .int .u32 a0, .int .u32 (ji22)] rfl (by (try simp only [List.map_toArray, List.map_cons, List.map_nil]); first | done | (simp only [hji22]; rfl) | rfl | (simp only [List.length_drop, List.length_take]; rfl)) ?_; (with_reducible refine (word_Shift.calls 1 a0 (ji22) t112 _ A16.out).mono ?_); rintro e w' ⟨rfl, ⟨nd, rfl⟩⟩; refine ⟨_, rfl, ?_⟩) | ((with_reducible refine gate_callee (f := 15) rfl ?_); refine goesL_ (some 64) rfl rfl Try.func15 (by kernel_rfl) rfl #[.int .i64 3, .int .u32 a0, .int .u32 (ji22)] rfl (by (try simp only [List.map_toArray, List.map_cons, List.map_nil]); first | done | (simp only [hji22]; rfl) | rfl | (simp only [List.length_drop, List.length_take]; rfl)) ?_; (with_reducible refine (word_Shift.calls 3 a0 (ji22) t113 _ A17.out).mono ?_); rintro e w' ⟨rfl, ⟨nd, rfl⟩⟩; refine ⟨_, rfl, ?_⟩) | ((with_reducible refine gate_callee (f := 15) rfl ?_); refine goesL_ (some 67) rfl rfl Try.func15 (by kernel_rfl) rfl #[.int .i64 2, .int .u32 a0, .int .u32 (ji22)] rfl (by (try simp only [List.map_toArray, List.map_cons, List.map_nil]); first | done | (simp only [hji22]; rfl) | rfl | (simp only [List.length_drop, List.length_take]; rfl)) ?_; (with_reducible refine (word_Shift.calls 2 a0 (ji22) t114 _ A18.out).mono ?_); rintro e w' ⟨rfl, ⟨nd, rfl⟩⟩; refine ⟨_, rfl, ?_⟩) | (go_at_call 15; (with_reducible refine (word_Shift.calls 3 t113 ((32 - (ji22)) % 4294967296) t115 _ A20.out).mono ?_); rintro e w' ⟨rfl, ⟨nd, rfl⟩⟩) | (go_at_call 15; (with_reducible refine (word_Shift.calls 0 a0 a1 t116 _ A28.out).mono ?_); rintro e w' ⟨rfl, ⟨nd, rfl⟩⟩))
                        go_ret
                        exact ⟨by first | rfl | (simp; done) | (simp only [← hji22, ← hji24] <;> (first | rfl | simp)) | (simp [*]; done), by repeat (first | exact Drawn0.refl _ | apply Drawn0.step)⟩
                    · rw [if_neg c27] at H
                      have c27b0 : ((a0 / 2147483648) == 1) = false := beq_eq_false_iff_ne.mpr c27
                      have c27b1 : ((a0 / 2147483648) != 1) = true := bne_iff_ne.mpr c27
                      have c31b0 := eq_true (of_decide_eq_true (by first | (with_reducible assumption) | assumption) : 0 ≤ (ji22))
                      obtain ⟨ji32, hji32⟩ : ∃ j_ : Int, (shr .u32 a0 (ji22)) = j_ := ⟨_, rfl⟩
                      replace H : (if t114 = (ji32) then ((word_Shift.f 0 a0 a1).bind fun t118 => (if t118 = a0 then ((word_Shift.f 4 a0 a1).bind fun t119 => (some (t119 == a0))) else (some false))) else (some false)) = some r := by first | (rw [hji32] at H; exact H) | (simp only [hji32] at H ⊢; exact H)
                      (try rw [hji32] at A16)
                      (try rw [hji32] at A17)
                      (try rw [hji32] at A18)
                      (try rw [hji32] at A20)
                      have hji32_ : (a0 / 2 ^ min (ji22).toNat 32) = ji32 := hji32
                      have hji32z : (ji22) ≤ 32 → (a0 / 2 ^ (ji22).toNat) = ji32 := shr_small hji32
                      by_cases c33 : t114 = (ji32)
                      · rw [if_pos c33] at H
                        have c33b0 : (t114 == (ji32)) = true := beq_iff_eq.mpr c33
                        have c33b1 : (t114 != (ji32)) = false := bne_eq_false_iff_eq.mpr c33
                        clear c33
                        replace H := Option.bind_eq_some_iff.mp H
                        obtain ⟨t118, A340, H⟩ := H
                        replace H : (if t118 = a0 then ((word_Shift.f 4 a0 a1).bind fun t119 => (some (t119 == a0))) else (some false)) = some r := H
                        have A34 := Aside0.mk A340
                        clear A340
                        by_cases c35 : t118 = a0
                        · rw [if_pos c35] at H
                          have c35b0 : (t118 == a0) = true := beq_iff_eq.mpr c35
                          have c35b1 : (t118 != a0) = false := bne_eq_false_iff_eq.mpr c35
                          clear c35
                          replace H := Option.bind_eq_some_iff.mp H
                          obtain ⟨t119, A360, H⟩ := H
                          replace H : (some (t119 == a0)) = some r := H
                          have A36 := Aside0.mk A360
                          clear A360
                          obtain rfl := Option.some.inj H
                          go_wp2_with (first | ((with_reducible refine gate_callee (f := 15) rfl ?_); refine goesL_ (some 61) rfl rfl Try.func15 (by kernel_rfl) rfl #[.int .i64 1, .int .u32 a0, .int .u32 (ji22)] rfl (by (try simp only [List.map_toArray, List.map_cons, List.map_nil]); first | done | (simp only [hji22]; rfl) | rfl | (simp only [List.length_drop, List.length_take]; rfl)) ?_; (with_reducible refine (word_Shift.calls 1 a0 (ji22) t112 _ A16.out).mono ?_); rintro e w' ⟨rfl, ⟨nd, rfl⟩⟩; refine ⟨_, rfl, ?_⟩) | ((with_reducible refine gate_callee (f := 15) rfl ?_); refine goesL_ (some 64) rfl rfl Try.func15 (by kernel_rfl) rfl #[.int .i64 3, .int .u32 a0, .int .u32 (ji22)] rfl (by (try simp only [List.map_toArray, List.map_cons, List.map_nil]); first | done | (simp only [hji22]; rfl) | rfl | (simp only [List.length_drop, List.length_take]; rfl)) ?_; (with_reducible refine (word_Shift.calls 3 a0 (ji22) t113 _ A17.out).mono ?_); rintro e w' ⟨rfl, ⟨nd, rfl⟩⟩; refine ⟨_, rfl, ?_⟩) | ((with_reducible refine gate_callee (f := 15) rfl ?_); refine goesL_ (some 67) rfl rfl Try.func15 (by kernel_rfl) rfl #[.int .i64 2, .int .u32 a0, .int .u32 (ji22)] rfl (by (try simp only [List.map_toArray, List.map_cons, List.map_nil]); first | done | (simp only [hji22]; rfl) | rfl | (simp only [List.length_drop, List.length_take]; rfl)) ?_; (with_reducible refine (word_Shift.calls 2 a0 (ji22) t114 _ A18.out).mono ?_); rintro e w' ⟨rfl, ⟨nd, rfl⟩⟩; refine ⟨_, rfl, ?_⟩) | (go_at_call 15; (with_reducible refine (word_Shift.calls 3 t113 ((32 - (ji22)) % 4294967296) t115 _ A20.out).mono ?_); rintro e w' ⟨rfl, ⟨nd, rfl⟩⟩) | (go_at_call 15; (with_reducible refine (word_Shift.calls 0 a0 a1 t118 _ A34.out).mono ?_); rintro e w' ⟨rfl, ⟨nd, rfl⟩⟩) | (go_at_call 15; (with_reducible refine (word_Shift.calls 4 a0 a1 t119 _ A36.out).mono ?_); rintro e w' ⟨rfl, ⟨nd, rfl⟩⟩))
                          go_ret
                          exact ⟨by first | rfl | (simp; done) | (simp only [← hji22, ← hji24, ← hji32] <;> (first | rfl | simp)) | (simp [*]; done), by repeat (first | exact Drawn0.refl _ | apply Drawn0.step)⟩
                        · rw [if_neg c35] at H
                          have c35b0 : (t118 == a0) = false := beq_eq_false_iff_ne.mpr c35
                          have c35b1 : (t118 != a0) = true := bne_iff_ne.mpr c35
                          obtain rfl := Option.some.inj H
                          go_wp2_with (first | ((with_reducible refine gate_callee (f := 15) rfl ?_); refine goesL_ (some 61) rfl rfl Try.func15 (by kernel_rfl) rfl #[.int .i64 1, .int .u32 a0, .int .u32 (ji22)] rfl (by (try simp only [List.map_toArray, List.map_cons, List.map_nil]); first | done | (simp only [hji22]; rfl) | rfl | (simp only [List.length_drop, List.length_take]; rfl)) ?_; (with_reducible refine (word_Shift.calls 1 a0 (ji22) t112 _ A16.out).mono ?_); rintro e w' ⟨rfl, ⟨nd, rfl⟩⟩; refine ⟨_, rfl, ?_⟩) | ((with_reducible refine gate_callee (f := 15) rfl ?_); refine goesL_ (some 64) rfl rfl Try.func15 (by kernel_rfl) rfl #[.int .i64 3, .int .u32 a0, .int .u32 (ji22)] rfl (by (try simp only [List.map_toArray, List.map_cons, List.map_nil]); first | done | (simp only [hji22]; rfl) | rfl | (simp only [List.length_drop, List.length_take]; rfl)) ?_; (with_reducible refine (word_Shift.calls 3 a0 (ji22) t113 _ A17.out).mono ?_); rintro e w' ⟨rfl, ⟨nd, rfl⟩⟩; refine ⟨_, rfl, ?_⟩) | ((with_reducible refine gate_callee (f := 15) rfl ?_); refine goesL_ (some 67) rfl rfl Try.func15 (by kernel_rfl) rfl #[.int .i64 2, .int .u32 a0, .int .u32 (ji22)] rfl (by (try simp only [List.map_toArray, List.map_cons, List.map_nil]); first | done | (simp only [hji22]; rfl) | rfl | (simp only [List.length_drop, List.length_take]; rfl)) ?_; (with_reducible refine (word_Shift.calls 2 a0 (ji22) t114 _ A18.out).mono ?_); rintro e w' ⟨rfl, ⟨nd, rfl⟩⟩; refine ⟨_, rfl, ?_⟩) | (go_at_call 15; (with_reducible refine (word_Shift.calls 3 t113 ((32 - (ji22)) % 4294967296) t115 _ A20.out).mono ?_); rintro e w' ⟨rfl, ⟨nd, rfl⟩⟩) | (go_at_call 15; (with_reducible refine (word_Shift.calls 0 a0 a1 t118 _ A34.out).mono ?_); rintro e w' ⟨rfl, ⟨nd, rfl⟩⟩))
                          go_ret
                          exact ⟨by first | rfl | (simp; done) | (simp only [← hji22, ← hji24, ← hji32] <;> (first | rfl | simp)) | (simp [*]; done), by repeat (first | exact Drawn0.refl _ | apply Drawn0.step)⟩
                      · rw [if_neg c33] at H
                        have c33b0 : (t114 == (ji32)) = false := beq_eq_false_iff_ne.mpr c33
                        have c33b1 : (t114 != (ji32)) = true := bne_iff_ne.mpr c33
                        obtain rfl := Option.some.inj H
                        go_wp2_with (first | ((with_reducible refine gate_callee (f := 15) rfl ?_); refine goesL_ (some 61) rfl rfl Try.func15 (by kernel_rfl) rfl #[.int .i64 1, .int .u32 a0, .int .u32 (ji22)] rfl (by (try simp only [List.map_toArray, List.map_cons, List.map_nil]); first | done | (simp only [hji22]; rfl) | rfl | (simp only [List.length_drop, List.length_take]; rfl)) ?_; (with_reducible refine (word_Shift.calls 1 a0 (ji22) t112 _ A16.out).mono ?_); rintro e w' ⟨rfl, ⟨nd, rfl⟩⟩; refine ⟨_, rfl, ?_⟩) | ((with_reducible refine gate_callee (f := 15) rfl ?_); refine goesL_ (some 64) rfl rfl Try.func15 (by kernel_rfl) rfl #[.int .i64 3, .int .u32 a0, .int .u32 (ji22)] rfl (by (try simp only [List.map_toArray, List.map_cons, List.map_nil]); first | done | (simp only [hji22]; rfl) | rfl | (simp only [List.length_drop, List.length_take]; rfl)) ?_; (with_reducible refine (word_Shift.calls 3 a0 (ji22) t113 _ A17.out).mono ?_); rintro e w' ⟨rfl, ⟨nd, rfl⟩⟩; refine ⟨_, rfl, ?_⟩) | ((with_reducible refine gate_callee (f := 15) rfl ?_); refine goesL_ (some 67) rfl rfl Try.func15 (by kernel_rfl) rfl #[.int .i64 2, .int .u32 a0, .int .u32 (ji22)] rfl (by (try simp only [List.map_toArray, List.map_cons, List.map_nil]); first | done | (simp only [hji22]; rfl) | rfl | (simp only [List.length_drop, List.length_take]; rfl)) ?_; (with_reducible refine (word_Shift.calls 2 a0 (ji22) t114 _ A18.out).mono ?_); rintro e w' ⟨rfl, ⟨nd, rfl⟩⟩; refine ⟨_, rfl, ?_⟩) | (go_at_call 15; (with_reducible refine (word_Shift.calls 3 t113 ((32 - (ji22)) % 4294967296) t115 _ A20.out).mono ?_); rintro e w' ⟨rfl, ⟨nd, rfl⟩⟩))
                        go_ret
                        exact ⟨by first | rfl | (simp; done) | (simp only [← hji22, ← hji24, ← hji32] <;> (first | rfl | simp)) | (simp [*]; done), by repeat (first | exact Drawn0.refl _ | apply Drawn0.step)⟩
                  · rw [if_neg c26] at H
                    have c26b0 : ((t114 / 2147483648) == (a0 / 2147483648)) = false := beq_eq_false_iff_ne.mpr c26
                    have c26b1 : ((t114 / 2147483648) != (a0 / 2147483648)) = true := bne_iff_ne.mpr c26
                    obtain rfl := Option.some.inj H
                    go_wp2_with (first | ((with_reducible refine gate_callee (f := 15) rfl ?_); refine goesL_ (some 61) rfl rfl Try.func15 (by kernel_rfl) rfl #[.int .i64 1, .int .u32 a0, .int .u32 (ji22)] rfl (by (try simp only [List.map_toArray, List.map_cons, List.map_nil]); first | done | (simp only [hji22]; rfl) | rfl | (simp only [List.length_drop, List.length_take]; rfl)) ?_; (with_reducible refine (word_Shift.calls 1 a0 (ji22) t112 _ A16.out).mono ?_); rintro e w' ⟨rfl, ⟨nd, rfl⟩⟩; refine ⟨_, rfl, ?_⟩) | ((with_reducible refine gate_callee (f := 15) rfl ?_); refine goesL_ (some 64) rfl rfl Try.func15 (by kernel_rfl) rfl #[.int .i64 3, .int .u32 a0, .int .u32 (ji22)] rfl (by (try simp only [List.map_toArray, List.map_cons, List.map_nil]); first | done | (simp only [hji22]; rfl) | rfl | (simp only [List.length_drop, List.length_take]; rfl)) ?_; (with_reducible refine (word_Shift.calls 3 a0 (ji22) t113 _ A17.out).mono ?_); rintro e w' ⟨rfl, ⟨nd, rfl⟩⟩; refine ⟨_, rfl, ?_⟩) | ((with_reducible refine gate_callee (f := 15) rfl ?_); refine goesL_ (some 67) rfl rfl Try.func15 (by kernel_rfl) rfl #[.int .i64 2, .int .u32 a0, .int .u32 (ji22)] rfl (by (try simp only [List.map_toArray, List.map_cons, List.map_nil]); first | done | (simp only [hji22]; rfl) | rfl | (simp only [List.length_drop, List.length_take]; rfl)) ?_; (with_reducible refine (word_Shift.calls 2 a0 (ji22) t114 _ A18.out).mono ?_); rintro e w' ⟨rfl, ⟨nd, rfl⟩⟩; refine ⟨_, rfl, ?_⟩) | (go_at_call 15; (with_reducible refine (word_Shift.calls 3 t113 ((32 - (ji22)) % 4294967296) t115 _ A20.out).mono ?_); rintro e w' ⟨rfl, ⟨nd, rfl⟩⟩))
                    go_ret
                    exact ⟨by first | rfl | (simp; done) | (simp only [← hji22, ← hji24] <;> (first | rfl | simp)) | (simp [*]; done), by repeat (first | exact Drawn0.refl _ | apply Drawn0.step)⟩
                · rw [if_neg c25] at H
                  have c25b0 : (t112 == (ji24)) = false := beq_eq_false_iff_ne.mpr c25
                  have c25b1 : (t112 != (ji24)) = true := bne_iff_ne.mpr c25
                  obtain rfl := Option.some.inj H
                  go_wp2_with (first | ((with_reducible refine gate_callee (f := 15) rfl ?_); refine goesL_ (some 61) rfl rfl Try.func15 (by kernel_rfl) rfl #[.int .i64 1, .int .u32 a0, .int .u32 (ji22)] rfl (by (try simp only [List.map_toArray, List.map_cons, List.map_nil]); first | done | (simp only [hji22]; rfl) | rfl | (simp only [List.length_drop, List.length_take]; rfl)) ?_; (with_reducible refine (word_Shift.calls 1 a0 (ji22) t112 _ A16.out).mono ?_); rintro e w' ⟨rfl, ⟨nd, rfl⟩⟩; refine ⟨_, rfl, ?_⟩) | ((with_reducible refine gate_callee (f := 15) rfl ?_); refine goesL_ (some 64) rfl rfl Try.func15 (by kernel_rfl) rfl #[.int .i64 3, .int .u32 a0, .int .u32 (ji22)] rfl (by (try simp only [List.map_toArray, List.map_cons, List.map_nil]); first | done | (simp only [hji22]; rfl) | rfl | (simp only [List.length_drop, List.length_take]; rfl)) ?_; (with_reducible refine (word_Shift.calls 3 a0 (ji22) t113 _ A17.out).mono ?_); rintro e w' ⟨rfl, ⟨nd, rfl⟩⟩; refine ⟨_, rfl, ?_⟩) | ((with_reducible refine gate_callee (f := 15) rfl ?_); refine goesL_ (some 67) rfl rfl Try.func15 (by kernel_rfl) rfl #[.int .i64 2, .int .u32 a0, .int .u32 (ji22)] rfl (by (try simp only [List.map_toArray, List.map_cons, List.map_nil]); first | done | (simp only [hji22]; rfl) | rfl | (simp only [List.length_drop, List.length_take]; rfl)) ?_; (with_reducible refine (word_Shift.calls 2 a0 (ji22) t114 _ A18.out).mono ?_); rintro e w' ⟨rfl, ⟨nd, rfl⟩⟩; refine ⟨_, rfl, ?_⟩) | (go_at_call 15; (with_reducible refine (word_Shift.calls 3 t113 ((32 - (ji22)) % 4294967296) t115 _ A20.out).mono ?_); rintro e w' ⟨rfl, ⟨nd, rfl⟩⟩))
                  go_ret
                  exact ⟨by first | rfl | (simp; done) | (simp only [← hji22, ← hji24] <;> (first | rfl | simp)) | (simp [*]; done), by repeat (first | exact Drawn0.refl _ | apply Drawn0.step)⟩
              · rw [if_neg c23] at H
                exact absurd H (by simp)
            · rw [if_neg c21] at H
              have c21b0 : (t115 == a0) = false := beq_eq_false_iff_ne.mpr c21
              have c21b1 : (t115 != a0) = true := bne_iff_ne.mpr c21
              obtain rfl := Option.some.inj H
              go_wp2_with (first | ((with_reducible refine gate_callee (f := 15) rfl ?_); refine goesL_ (some 61) rfl rfl Try.func15 (by kernel_rfl) rfl #[.int .i64 1, .int .u32 a0, .int .u32 (Int.tmod a1 32)] rfl (by (try simp only [List.map_toArray, List.map_cons, List.map_nil]); first | done | rfl | (simp only [List.length_drop, List.length_take]; rfl)) ?_; (with_reducible refine (word_Shift.calls 1 a0 (Int.tmod a1 32) t112 _ A16.out).mono ?_); rintro e w' ⟨rfl, ⟨nd, rfl⟩⟩; refine ⟨_, rfl, ?_⟩) | ((with_reducible refine gate_callee (f := 15) rfl ?_); refine goesL_ (some 64) rfl rfl Try.func15 (by kernel_rfl) rfl #[.int .i64 3, .int .u32 a0, .int .u32 (Int.tmod a1 32)] rfl (by (try simp only [List.map_toArray, List.map_cons, List.map_nil]); first | done | rfl | (simp only [List.length_drop, List.length_take]; rfl)) ?_; (with_reducible refine (word_Shift.calls 3 a0 (Int.tmod a1 32) t113 _ A17.out).mono ?_); rintro e w' ⟨rfl, ⟨nd, rfl⟩⟩; refine ⟨_, rfl, ?_⟩) | ((with_reducible refine gate_callee (f := 15) rfl ?_); refine goesL_ (some 67) rfl rfl Try.func15 (by kernel_rfl) rfl #[.int .i64 2, .int .u32 a0, .int .u32 (Int.tmod a1 32)] rfl (by (try simp only [List.map_toArray, List.map_cons, List.map_nil]); first | done | rfl | (simp only [List.length_drop, List.length_take]; rfl)) ?_; (with_reducible refine (word_Shift.calls 2 a0 (Int.tmod a1 32) t114 _ A18.out).mono ?_); rintro e w' ⟨rfl, ⟨nd, rfl⟩⟩; refine ⟨_, rfl, ?_⟩) | (go_at_call 15; (with_reducible refine (word_Shift.calls 3 t113 ((32 - (Int.tmod a1 32)) % 4294967296) t115 _ A20.out).mono ?_); rintro e w' ⟨rfl, ⟨nd, rfl⟩⟩))
              go_ret
              exact ⟨by first | rfl | (simp; done) | (simp [*]; done), by repeat (first | exact Drawn0.refl _ | apply Drawn0.step)⟩
          · replace c19 := Bool.eq_false_iff.mpr c19
            subst c19
            have H1 : (some false) = some r := by rw [if_neg (show ¬ (false = true) by decide)] at H; exact H
            clear H
            have H := H1
            clear H1
            obtain rfl := Option.some.inj H
            go_wp2_with (first | ((with_reducible refine gate_callee (f := 15) rfl ?_); refine goesL_ (some 61) rfl rfl Try.func15 (by kernel_rfl) rfl #[.int .i64 1, .int .u32 a0, .int .u32 (Int.tmod a1 32)] rfl (by (try simp only [List.map_toArray, List.map_cons, List.map_nil]); first | done | rfl | (simp only [List.length_drop, List.length_take]; rfl)) ?_; (with_reducible refine (word_Shift.calls 1 a0 (Int.tmod a1 32) t112 _ A16.out).mono ?_); rintro e w' ⟨rfl, ⟨nd, rfl⟩⟩; refine ⟨_, rfl, ?_⟩) | ((with_reducible refine gate_callee (f := 15) rfl ?_); refine goesL_ (some 64) rfl rfl Try.func15 (by kernel_rfl) rfl #[.int .i64 3, .int .u32 a0, .int .u32 (Int.tmod a1 32)] rfl (by (try simp only [List.map_toArray, List.map_cons, List.map_nil]); first | done | rfl | (simp only [List.length_drop, List.length_take]; rfl)) ?_; (with_reducible refine (word_Shift.calls 3 a0 (Int.tmod a1 32) t113 _ A17.out).mono ?_); rintro e w' ⟨rfl, ⟨nd, rfl⟩⟩; refine ⟨_, rfl, ?_⟩) | ((with_reducible refine gate_callee (f := 15) rfl ?_); refine goesL_ (some 67) rfl rfl Try.func15 (by kernel_rfl) rfl #[.int .i64 2, .int .u32 a0, .int .u32 (Int.tmod a1 32)] rfl (by (try simp only [List.map_toArray, List.map_cons, List.map_nil]); first | done | rfl | (simp only [List.length_drop, List.length_take]; rfl)) ?_; (with_reducible refine (word_Shift.calls 2 a0 (Int.tmod a1 32) t114 _ A18.out).mono ?_); rintro e w' ⟨rfl, ⟨nd, rfl⟩⟩; refine ⟨_, rfl, ?_⟩))
            go_ret
            exact ⟨by first | rfl | (simp; done) | (simp [*]; done), by repeat (first | exact Drawn0.refl _ | apply Drawn0.step)⟩

/-- THE ONE PURE STATEMENT of rivetlaw01_WordShifts: yours. -/
def rivetlaw01_WordShifts.Pure : Prop := ∀ (a0 : Int) (a1 : Int) (a2 : Int), (Lit.int .u32 a0).wf = true → (Lit.int .u32 a1).wf = true → (Lit.int .u32 a2).wf = true → ∃ k, rivetlaw01_WordShifts.f k a0 a1 a2 = some true
theorem rivetlaw01_WordShifts.walk (P : rivetlaw01_WordShifts.Pure) (a0 : Int) (a1 : Int) (a2 : Int) (w : World) (w0 : (Lit.int .u32 a0).wf = true) (w1 : (Lit.int .u32 a1).wf = true) (w2 : (Lit.int .u32 a2).wf = true) :
    Calls Try.prog 6 #[.int .u32 a0, .int .u32 a1, .int .u32 a2] w fun e w' => e = .returned (.bool true) ∧ Below w.heap.size w w' := by
  obtain ⟨k, h⟩ := P a0 a1 a2 w0 w1 w2
  refine (rivetlaw01_WordShifts.calls k a0 a1 a2 true w h).mono ?_
  rintro e w' ⟨rfl, hd⟩
  exact ⟨rfl, hd.below⟩

end Go.Proofs.Ythgnniiiekkodaa.PWordShifts
