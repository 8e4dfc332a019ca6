-- PRINTED BY print.sh 35421559b90ae4d0a3588c463048766b98c2df88dd9212a6774a882060cdf62d: not written by this session
import Derived.Test.YthgnniiiekkodaaPWordAllx0
namespace Go.Proofs.Ythgnniiiekkodaa.PWordAll
open Go.RowKit Go.Proofs.YthgnniiiekkodaaW.PrintWords Go.Proofs.YthgnniiiekkodaaW.PrintLast Go.Proofs.YthgnniiiekkodaaW.PrintMore
attribute [local go_sem] max2_int min2_int max_two min_two max_three min_three max_four min_four   -- for this text's walks alone
set_option linter.unusedVariables false
set_option linter.unusedSimpArgs false

/-! ### word_Div: function 12 -/
def word_Div.f (a0 : Int) (a1 : Int) : Option (Int × Int × Bool) := if (wrap64 (wrap32 (a1))) ≤ 0 then (some (0, 0, false)) else (if (wrap64 (wrap32 (a1))) = 0 then (none) else (if (Int.tmod (wrap64 (wrap32 (a0))) (wrap64 (wrap32 (a1)))) < 0 then (some ((wrap64 ((wrap64 (Int.tdiv (wrap64 (wrap32 (a0))) (wrap64 (wrap32 (a1))))) - 1)) % 4294967296, (wrap64 ((Int.tmod (wrap64 (wrap32 (a0))) (wrap64 (wrap32 (a1)))) + (wrap64 (wrap32 (a1))))) % 4294967296, true)) else (some ((wrap64 (Int.tdiv (wrap64 (wrap32 (a0))) (wrap64 (wrap32 (a1))))) % 4294967296, (Int.tmod (wrap64 (wrap32 (a0))) (wrap64 (wrap32 (a1)))) % 4294967296, true))))
set_option maxHeartbeats 8000000 in
set_option maxRecDepth 100000 in
theorem word_Div.calls (a0 : Int) (a1 : Int) (r1 : Int) (r2 : Int) (r3 : Bool) (w : World) (h : word_Div.f a0 a1 = some (r1, r2, r3)) :
    Calls Try.prog 12 #[.int .u32 a0, .int .u32 a1] w fun e w' => e = .returned (.tuple #[.int .u32 r1, .int .u32 r2, .bool r3]) ∧ Drawn0 w w' := by
  have H : (if (wrap64 (wrap32 (a1))) ≤ 0 then (some (0, 0, false)) else (if (wrap64 (wrap32 (a1))) = 0 then (none) else (if (Int.tmod (wrap64 (wrap32 (a0))) (wrap64 (wrap32 (a1)))) < 0 then (some ((wrap64 ((wrap64 (Int.tdiv (wrap64 (wrap32 (a0))) (wrap64 (wrap32 (a1))))) - 1)) % 4294967296, (wrap64 ((Int.tmod (wrap64 (wrap32 (a0))) (wrap64 (wrap32 (a1)))) + (wrap64 (wrap32 (a1))))) % 4294967296, true)) else (some ((wrap64 (Int.tdiv (wrap64 (wrap32 (a0))) (wrap64 (wrap32 (a1))))) % 4294967296, (Int.tmod (wrap64 (wrap32 (a0))) (wrap64 (wrap32 (a1)))) % 4294967296, true))))) = some (r1, r2, r3) := h
  clear h
  by_cases c3 : (wrap64 (wrap32 (a1))) ≤ 0
  · rw [if_pos c3] at H
    have c3b0 : decide ((wrap64 (wrap32 (a1))) ≤ 0) = true := decide_eq_true c3
    clear c3
    simp only [Option.some.injEq, Prod.mk.injEq] at H
    obtain ⟨rfl, rfl, rfl⟩ := H
    go_enter Try.func12, Try.ntmps12
    go_wp2
    repeat (go_quiet (fail); try go_wp2)
    go_ret3
    exact ⟨by first | rfl | (simp; done) | (simp [*]; done), by repeat (first | exact Drawn0.refl _ | apply Drawn0.step)⟩
  · rw [if_neg c3] at H
    have c3b0 : decide ((wrap64 (wrap32 (a1))) ≤ 0) = false := decide_eq_false c3
    clear c3
    by_cases c4 : (wrap64 (wrap32 (a1))) = 0
    · rw [if_pos c4] at H
      exact absurd H (by simp)
    · rw [if_neg c4] at H
      have c4b0 : ((wrap64 (wrap32 (a1))) == 0) = false := beq_eq_false_iff_ne.mpr c4
      have c4b1 : ((wrap64 (wrap32 (a1))) != 0) = true := bne_iff_ne.mpr c4
      by_cases c5 : (Int.tmod (wrap64 (wrap32 (a0))) (wrap64 (wrap32 (a1)))) < 0
      · rw [if_pos c5] at H
        have c5b0 : decide ((Int.tmod (wrap64 (wrap32 (a0))) (wrap64 (wrap32 (a1)))) < 0) = true := decide_eq_true c5
        clear c5
        simp only [Option.some.injEq, Prod.mk.injEq] at H
        obtain ⟨rfl, rfl, rfl⟩ := H
        go_enter Try.func12, Try.ntmps12
        go_wp2
        repeat (go_quiet (fail); try go_wp2)
        go_ret3
        exact ⟨by first | rfl | (simp; done) | (simp [*]; done), by repeat (first | exact Drawn0.refl _ | apply Drawn0.step)⟩
      · rw [if_neg c5] at H
        have c5b0 : decide ((Int.tmod (wrap64 (wrap32 (a0))) (wrap64 (wrap32 (a1)))) < 0) = false := decide_eq_false c5
        clear c5
        simp only [Option.some.injEq, Prod.mk.injEq] at H
        obtain ⟨rfl, rfl, rfl⟩ := H
        go_enter Try.func12, Try.ntmps12
        go_wp2
        repeat (go_quiet (fail); try go_wp2)
        go_ret3
        exact ⟨by first | rfl | (simp; done) | (simp [*]; done), by repeat (first | exact Drawn0.refl _ | apply Drawn0.step)⟩

/-! ### rivetlaw01_shown: function 11 -/
def rivetlaw01_shown.f  : Option (Bool) := (word_Div.f 4294967289 2).bind fun bt101 => (if bt101.1 = 4294967292 then (if bt101.2.1 = 1 then (some bt101.2.2) else (some false)) else (some false))
set_option maxHeartbeats 8000000 in
set_option maxRecDepth 100000 in
theorem rivetlaw01_shown.calls  (r : Bool) (w : World) (h : rivetlaw01_shown.f  = some r) :
    Calls Try.prog 11 #[] w fun e w' => e = .returned (.bool r) ∧ Drawn0 w w' := by
  have H : ((word_Div.f 4294967289 2).bind fun bt101 => (if bt101.1 = 4294967292 then (if bt101.2.1 = 1 then (some bt101.2.2) else (some false)) else (some false))) = some r := h
  clear h
  replace H := Option.bind_eq_some_iff.mp H
  obtain ⟨⟨t101, t102, t103⟩, A10, H⟩ := H
  replace H : (if t101 = 4294967292 then (if t102 = 1 then (some t103) else (some false)) else (some false)) = some r := H
  have A1 := Aside0.mk A10
  clear A10
  by_cases c2 : t101 = 4294967292
  · rw [if_pos c2] at H
    have c2b0 : (t101 == 4294967292) = true := beq_iff_eq.mpr c2
    have c2b1 : (t101 != 4294967292) = false := bne_eq_false_iff_eq.mpr c2
    clear c2
    by_cases c3 : t102 = 1
    · rw [if_pos c3] at H
      have c3b0 : (t102 == 1) = true := beq_iff_eq.mpr c3
      have c3b1 : (t102 != 1) = false := bne_eq_false_iff_eq.mpr c3
      clear c3
      obtain rfl := Option.some.inj H
      go_enter Try.func11, Try.ntmps11
      go_wp2_with (first | ((with_reducible refine gate_callee (f := 12) rfl ?_); refine goesL_ (some 5) rfl rfl Try.func12 (by kernel_rfl) rfl #[.int .u32 4294967289, .int .u32 2] rfl (by (try simp only [List.map_toArray, List.map_cons, List.map_nil]); first | done | rfl | (simp only [List.length_drop, List.length_take]; rfl)) ?_; (with_reducible refine (word_Div.calls 4294967289 2 t101 t102 t103 _ A1.out).mono ?_); rintro e w' ⟨rfl, ⟨nd, rfl⟩⟩; refine ⟨_, rfl, ?_⟩))
      go_ret
      exact ⟨by first | rfl | (simp; done) | (simp [*]; done), by repeat (first | exact Drawn0.refl _ | apply Drawn0.step)⟩
    · rw [if_neg c3] at H
      have c3b0 : (t102 == 1) = false := beq_eq_false_iff_ne.mpr c3
      have c3b1 : (t102 != 1) = true := bne_iff_ne.mpr c3
      obtain rfl := Option.some.inj H
      go_enter Try.func11, Try.ntmps11
      go_wp2_with (first | ((with_reducible refine gate_callee (f := 12) rfl ?_); refine goesL_ (some 5) rfl rfl Try.func12 (by kernel_rfl) rfl #[.int .u32 4294967289, .int .u32 2] rfl (by (try simp only [List.map_toArray, List.map_cons, List.map_nil]); first | done | rfl | (simp only [List.length_drop, List.length_take]; rfl)) ?_; (with_reducible refine (word_Div.calls 4294967289 2 t101 t102 t103 _ A1.out).mono ?_); rintro e w' ⟨rfl, ⟨nd, rfl⟩⟩; refine ⟨_, rfl, ?_⟩))
      go_ret
      exact ⟨by first | rfl | (simp; done) | (simp [*]; done), by repeat (first | exact Drawn0.refl _ | apply Drawn0.step)⟩
  · rw [if_neg c2] at H
    have c2b0 : (t101 == 4294967292) = false := beq_eq_false_iff_ne.mpr c2
    have c2b1 : (t101 != 4294967292) = true := bne_iff_ne.mpr c2
    obtain rfl := Option.some.inj H
    go_enter Try.func11, Try.ntmps11
    go_wp2_with (first | ((with_reducible refine gate_callee (f := 12) rfl ?_); refine goesL_ (some 5) rfl rfl Try.func12 (by kernel_rfl) rfl #[.int .u32 4294967289, .int .u32 2] rfl (by (try simp only [List.map_toArray, List.map_cons, List.map_nil]); first | done | rfl | (simp only [List.length_drop, List.length_take]; rfl)) ?_; (with_reducible refine (word_Div.calls 4294967289 2 t101 t102 t103 _ A1.out).mono ?_); rintro e w' ⟨rfl, ⟨nd, rfl⟩⟩; refine ⟨_, rfl, ?_⟩))
    go_ret
    exact ⟨by first | rfl | (simp; done) | (simp [*]; done), by repeat (first | exact Drawn0.refl _ | apply Drawn0.step)⟩

/-! ### word_Mul: function 14 -/
def word_Mul.f (a0 : Int) (a1 : Int) (a2 : Bool) : Option (Int × Int) := if a2 = true then (some ((IntKind.u64.wrap ((IntKind.u64.wrap (a0)) * (IntKind.u64.wrap (a1)))) % 4294967296, ((IntKind.u64.wrap ((IntKind.u64.wrap (a0)) * (IntKind.u64.wrap (a1)))) / 4294967296) % 4294967296)) else (some ((IntKind.u64.wrap (wrap64 ((wrap64 (wrap32 (a0))) * (wrap64 (wrap32 (a1)))))) % 4294967296, ((IntKind.u64.wrap (wrap64 ((wrap64 (wrap32 (a0))) * (wrap64 (wrap32 (a1)))))) / 4294967296) % 4294967296))
set_option maxHeartbeats 8000000 in
set_option maxRecDepth 100000 in
theorem word_Mul.calls (a0 : Int) (a1 : Int) (a2 : Bool) (r1 : Int) (r2 : Int) (w : World) (h : word_Mul.f a0 a1 a2 = some (r1, r2)) :
    Calls Try.prog 14 #[.int .u32 a0, .int .u32 a1, .bool a2] w fun e w' => e = .returned (.tuple #[.int .u32 r1, .int .u32 r2]) ∧ Drawn0 w w' := by
  have H : (if a2 = true then (some ((IntKind.u64.wrap ((IntKind.u64.wrap (a0)) * (IntKind.u64.wrap (a1)))) % 4294967296, ((IntKind.u64.wrap ((IntKind.u64.wrap (a0)) * (IntKind.u64.wrap (a1)))) / 4294967296) % 4294967296)) else (some ((IntKind.u64.wrap (wrap64 ((wrap64 (wrap32 (a0))) * (wrap64 (wrap32 (a1)))))) % 4294967296, ((IntKind.u64.wrap (wrap64 ((wrap64 (wrap32 (a0))) * (wrap64 (wrap32 (a1)))))) / 4294967296) % 4294967296))) = some (r1, r2) := h
  clear h
  by_cases c4 : a2 = true
  · subst c4
    have H1 : (some ((IntKind.u64.wrap ((IntKind.u64.wrap (a0)) * (IntKind.u64.wrap (a1)))) % 4294967296, ((IntKind.u64.wrap ((IntKind.u64.wrap (a0)) * (IntKind.u64.wrap (a1)))) / 4294967296) % 4294967296)) = some (r1, r2) := by rw [if_pos rfl] at H; exact H
    clear H
    have H := H1
    clear H1
    simp only [Option.some.injEq, Prod.mk.injEq] at H
    obtain ⟨rfl, rfl⟩ := H
    go_enter Try.func14, Try.ntmps14
    go_wp2
    go_ret2
    exact ⟨by first | rfl | (simp; done) | (simp [*]; done), by repeat (first | exact Drawn0.refl _ | apply Drawn0.step)⟩
  · replace c4 := Bool.eq_false_iff.mpr c4
    subst c4
    have H1 : (some ((IntKind.u64.wrap (wrap64 ((wrap64 (wrap32 (a0))) * (wrap64 (wrap32 (a1)))))) % 4294967296, ((IntKind.u64.wrap (wrap64 ((wrap64 (wrap32 (a0))) * (wrap64 (wrap32 (a1)))))) / 4294967296) % 4294967296)) = some (r1, r2) := by rw [if_neg (show ¬ (false = true) by decide)] at H; exact H
    clear H
    have H := H1
    clear H1
    simp only [Option.some.injEq, Prod.mk.injEq] at H
    obtain ⟨rfl, rfl⟩ := H
    go_enter Try.func14, Try.ntmps14
    go_wp2
    go_ret2
    exact ⟨by first | rfl | (simp; done) | (simp [*]; done), by repeat (first | exact Drawn0.refl _ | apply Drawn0.step)⟩

/-! ### bits_RotateLeft32: function 23 -/
def bits_RotateLeft32.f (a0 : Int) (a1 : Int) : Option (Int) := if 0 ≤ (Go.bits .and .u64 (IntKind.u64.wrap (a1)) 31) then (if 0 ≤ (IntKind.u64.wrap (32 - (Go.bits .and .u64 (IntKind.u64.wrap (a1)) 31))) then (some (Go.bits .or .u32 (shl .u32 a0 (Go.bits .and .u64 (IntKind.u64.wrap (a1)) 31)) (shr .u32 a0 (IntKind.u64.wrap (32 - (Go.bits .and .u64 (IntKind.u64.wrap (a1)) 31)))))) else (none)) else (none)
set_option maxHeartbeats 8000000 in
set_option maxRecDepth 100000 in
theorem bits_RotateLeft32.calls (a0 : Int) (a1 : Int) (r : Int) (w : World) (h : bits_RotateLeft32.f a0 a1 = some r) :
    Calls Try.prog 23 #[.int .u32 a0, .int .i64 a1] w fun e w' => e = .returned (.int .u32 r) ∧ Drawn0 w w' := by
  have H : (if 0 ≤ (Go.bits .and .u64 (IntKind.u64.wrap (a1)) 31) then (if 0 ≤ (IntKind.u64.wrap (32 - (Go.bits .and .u64 (IntKind.u64.wrap (a1)) 31))) then (some (Go.bits .or .u32 (shl .u32 a0 (Go.bits .and .u64 (IntKind.u64.wrap (a1)) 31)) (shr .u32 a0 (IntKind.u64.wrap (32 - (Go.bits .and .u64 (IntKind.u64.wrap (a1)) 31)))))) else (none)) else (none)) = some r := h
  clear h
  obtain ⟨ji3, hji3⟩ : ∃ j_ : Int, (Go.bits .and .u64 (IntKind.u64.wrap (a1)) 31) = j_ := ⟨_, rfl⟩
  replace H : (if 0 ≤ (ji3) then (if 0 ≤ (IntKind.u64.wrap (32 - (ji3))) then (some (Go.bits .or .u32 (shl .u32 a0 (ji3)) (shr .u32 a0 (IntKind.u64.wrap (32 - (ji3)))))) else (none)) else (none)) = some r := by first | (rw [hji3] at H; exact H) | (simp only [hji3] at H ⊢; exact H)
  by_cases c4 : 0 ≤ (ji3)
  · rw [if_pos c4] at H
    have c4b0 := eq_true c4
    have c4b1 : decide (0 ≤ (ji3)) = true := decide_eq_true c4
    clear c4
    obtain ⟨ji5, hji5⟩ : ∃ j_ : Int, (shl .u32 a0 (ji3)) = j_ := ⟨_, rfl⟩
    replace H : (if 0 ≤ (IntKind.u64.wrap (32 - (ji3))) then (some (Go.bits .or .u32 (ji5) (shr .u32 a0 (IntKind.u64.wrap (32 - (ji3)))))) else (none)) = some r := by first | (rw [hji5] at H; exact H) | (simp only [hji5] at H ⊢; exact H)
    have hji5_ : (IntKind.u32.wrap (a0 * 2 ^ min (ji3).toNat 32)) = ji5 := hji5
    have hji5z : (ji3) ≤ 32 → (IntKind.u32.wrap (a0 * 2 ^ (ji3).toNat)) = ji5 := shl_small hji5
    obtain ⟨ji6, hji6⟩ : ∃ j_ : Int, (IntKind.u64.wrap (32 - (ji3))) = j_ := ⟨_, rfl⟩
    replace H : (if 0 ≤ (ji6) then (some (Go.bits .or .u32 (ji5) (shr .u32 a0 (ji6)))) else (none)) = some r := by first | (rw [hji6] at H; exact H) | (simp only [hji6] at H ⊢; exact H)
    by_cases c7 : 0 ≤ (ji6)
    · rw [if_pos c7] at H
      have c7b0 := eq_true c7
      have c7b1 : decide (0 ≤ (ji6)) = true := decide_eq_true c7
      clear c7
      obtain ⟨ji8, hji8⟩ : ∃ j_ : Int, (shr .u32 a0 (ji6)) = j_ := ⟨_, rfl⟩
      replace H : (some (Go.bits .or .u32 (ji5) (ji8))) = some r := by first | (rw [hji8] at H; exact H) | (simp only [hji8] at H ⊢; exact H)
      have hji8_ : (a0 / 2 ^ min (ji6).toNat 32) = ji8 := hji8
      have hji8z : (ji6) ≤ 32 → (a0 / 2 ^ (ji6).toNat) = ji8 := shr_small hji8
      obtain rfl := Option.some.inj H
      go_enter Try.func23, Try.ntmps23
      go_wp2
      go_ret
      exact ⟨by first | rfl | (simp; done) | (simp only [← hji3, ← hji5, ← hji6, ← hji8] <;> (first | rfl | simp)) | (simp [*]; done), by repeat (first | exact Drawn0.refl _ | apply Drawn0.step)⟩
    · rw [if_neg c7] at H
      exact absurd H (by simp)
  · rw [if_neg c4] at H
    exact absurd H (by simp)

/-! ### word_Shift: function 15 -/
def word_Shift.f (a0 : Int) (a1 : Int) (a2 : Int) : Option (Int) := if a0 = 1 then (if 0 ≤ (wrap64 (Int.tmod a2 32)) then (some (shl .u32 a1 (wrap64 (Int.tmod a2 32)))) else (none)) else (if a0 = 2 then (if 0 ≤ (wrap64 (Int.tmod a2 32)) then (some ((shr .i32 (wrap32 (a1)) (wrap64 (Int.tmod a2 32))) % 4294967296)) else (none)) else (if a0 = 3 then ((bits_RotateLeft32.f a1 (wrap64 (-(wrap64 (Int.tmod a2 32))))).bind fun t104 => (some t104)) else (some a1)))
set_option maxHeartbeats 8000000 in
set_option maxRecDepth 100000 in
theorem word_Shift.calls (a0 : Int) (a1 : Int) (a2 : Int) (r : Int) (w : World) (h : word_Shift.f a0 a1 a2 = some r) :
    Calls Try.prog 15 #[.int .i64 a0, .int .u32 a1, .int .u32 a2] w fun e w' => e = .returned (.int .u32 r) ∧ Drawn0 w w' := by
  have H : (if a0 = 1 then (if 0 ≤ (wrap64 (Int.tmod a2 32)) then (some (shl .u32 a1 (wrap64 (Int.tmod a2 32)))) else (none)) else (if a0 = 2 then (if 0 ≤ (wrap64 (Int.tmod a2 32)) then (some ((shr .i32 (wrap32 (a1)) (wrap64 (Int.tmod a2 32))) % 4294967296)) else (none)) else (if a0 = 3 then ((bits_RotateLeft32.f a1 (wrap64 (-(wrap64 (Int.tmod a2 32))))).bind fun t104 => (some t104)) else (some a1)))) = some r := h
  clear h
  by_cases c4 : a0 = 1
  · rw [if_pos c4] at H
    have c4b0 : (a0 == 1) = true := beq_iff_eq.mpr c4
    have c4b1 : (a0 != 1) = false := bne_eq_false_iff_eq.mpr c4
    clear c4
    obtain ⟨ji5, hji5⟩ : ∃ j_ : Int, (wrap64 (Int.tmod a2 32)) = j_ := ⟨_, rfl⟩
    replace H : (if 0 ≤ (ji5) then (some (shl .u32 a1 (ji5))) else (none)) = some r := by first | (rw [hji5] at H; exact H) | (simp only [hji5] at H ⊢; exact H)
    have hji5w : (IntKind.i64.wrap (Int.tmod a2 32)) = ji5 := (i64_w _).trans hji5
    by_cases c6 : 0 ≤ (ji5)
    · rw [if_pos c6] at H
      have c6b0 := eq_true c6
      have c6b1 : decide (0 ≤ (ji5)) = true := decide_eq_true c6
      clear c6
      obtain ⟨ji7, hji7⟩ : ∃ j_ : Int, (shl .u32 a1 (ji5)) = j_ := ⟨_, rfl⟩
      replace H : (some ji7) = some r := by first | (rw [hji7] at H; exact H) | (simp only [hji7] at H ⊢; exact H)
      have hji7_ : (IntKind.u32.wrap (a1 * 2 ^ min (ji5).toNat 32)) = ji7 := hji7
      have hji7z : (ji5) ≤ 32 → (IntKind.u32.wrap (a1 * 2 ^ (ji5).toNat)) = ji7 := shl_small hji7
      obtain rfl := Option.some.inj H
      go_enter Try.func15, Try.ntmps15
      go_wp2
      go_ret
      exact ⟨by first | rfl | (simp; done) | (simp only [← hji5, ← hji7] <;> (first | rfl | simp)) | (simp [*]; done), by repeat (first | exact Drawn0.refl _ | apply Drawn0.step)⟩
    · rw [if_neg c6] at H
      exact absurd H (by simp)
  · rw [if_neg c4] at H
    have c4b0 : (a0 == 1) = false := beq_eq_false_iff_ne.mpr c4
    have c4b1 : (a0 != 1) = true := bne_iff_ne.mpr c4
    by_cases c8 : a0 = 2
    · rw [if_pos c8] at H
      have c8b0 : (a0 == 2) = true := beq_iff_eq.mpr c8
      have c8b1 : (a0 != 2) = false := bne_eq_false_iff_eq.mpr c8
      clear c8
      obtain ⟨ji9, hji9⟩ : ∃ j_ : Int, (wrap64 (Int.tmod a2 32)) = j_ := ⟨_, rfl⟩
      replace H : (if 0 ≤ (ji9) then (some ((shr .i32 (wrap32 (a1)) (ji9)) % 4294967296)) else (none)) = some r := by first | (rw [hji9] at H; exact H) | (simp only [hji9] at H ⊢; exact H)
      have hji9w : (IntKind.i64.wrap (Int.tmod a2 32)) = ji9 := (i64_w _).trans hji9
      by_cases c10 : 0 ≤ (ji9)
      · rw [if_pos c10] at H
        have c10b0 := eq_true c10
        have c10b1 : decide (0 ≤ (ji9)) = true := decide_eq_true c10
        clear c10
        obtain ⟨ji11, hji11⟩ : ∃ j_ : Int, (shr .i32 (wrap32 (a1)) (ji9)) = j_ := ⟨_, rfl⟩
        replace H : (some ((ji11) % 4294967296)) = some r := by first | (rw [hji11] at H; exact H) | (simp only [hji11] at H ⊢; exact H)
        have hji11_ : ((wrap32 (a1)) / 2 ^ min (ji9).toNat 32) = ji11 := hji11
        have hji11z : (ji9) ≤ 32 → ((wrap32 (a1)) / 2 ^ (ji9).toNat) = ji11 := shr_small hji11
        obtain rfl := Option.some.inj H
        go_enter Try.func15, Try.ntmps15
        go_wp2
        go_ret
        exact ⟨by first | rfl | (simp; done) | (simp only [← hji9, ← hji11] <;> (first | rfl | simp)) | (simp [*]; done), by repeat (first | exact Drawn0.refl _ | apply Drawn0.step)⟩
      · rw [if_neg c10] at H
        exact absurd H (by simp)
    · rw [if_neg c8] at H
      have c8b0 : (a0 == 2) = false := beq_eq_false_iff_ne.mpr c8
      have c8b1 : (a0 != 2) = true := bne_iff_ne.mpr c8
      by_cases c12 : a0 = 3
      · rw [if_pos c12] at H
        have c12b0 : (a0 == 3) = true := beq_iff_eq.mpr c12
        have c12b1 : (a0 != 3) = false := bne_eq_false_iff_eq.mpr c12
        clear c12
        replace H := Option.bind_eq_some_iff.mp H
        obtain ⟨t104, A130, H⟩ := H
        replace H : (some t104) = some r := H
        have A13 := Aside0.mk A130
        clear A130
        obtain rfl := Option.some.inj H
        go_enter Try.func15, Try.ntmps15
        go_wp2_with (first | ((with_reducible refine gate_callee (f := 23) rfl ?_); refine goesL_ (some 29) rfl rfl Try.func23 (by kernel_rfl) rfl #[.int .u32 a1, .int .i64 (wrap64 (-(wrap64 (Int.tmod a2 32))))] rfl (by (try simp only [List.map_toArray, List.map_cons, List.map_nil]); first | done | rfl | (simp only [List.length_drop, List.length_take]; rfl)) ?_; (with_reducible refine (bits_RotateLeft32.calls a1 (wrap64 (-(wrap64 (Int.tmod a2 32)))) t104 _ A13.out).mono ?_); rintro e w' ⟨rfl, ⟨nd, rfl⟩⟩; refine ⟨_, rfl, ?_⟩))
        go_ret
        exact ⟨by first | rfl | (simp; done) | (simp [*]; done), by repeat (first | exact Drawn0.refl _ | apply Drawn0.step)⟩
      · rw [if_neg c12] at H
        have c12b0 : (a0 == 3) = false := beq_eq_false_iff_ne.mpr c12
        have c12b1 : (a0 != 3) = true := bne_iff_ne.mpr c12
        obtain rfl := Option.some.inj H
        go_enter Try.func15, Try.ntmps15
        go_wp2
        go_ret
        exact ⟨by first | rfl | (simp; done) | (simp [*]; done), by repeat (first | exact Drawn0.refl _ | apply Drawn0.step)⟩

/-! ### bits_Add32: function 24 -/
def bits_Add32.f (a0 : Int) (a1 : Int) (a2 : Int) : Option (Int × Int) := some ((IntKind.u64.wrap ((IntKind.u64.wrap ((IntKind.u64.wrap (a0)) + (IntKind.u64.wrap (a1)))) + (IntKind.u64.wrap (a2)))) % 4294967296, ((IntKind.u64.wrap ((IntKind.u64.wrap ((IntKind.u64.wrap (a0)) + (IntKind.u64.wrap (a1)))) + (IntKind.u64.wrap (a2)))) / 4294967296) % 4294967296)
set_option maxHeartbeats 8000000 in
set_option maxRecDepth 100000 in
theorem bits_Add32.calls (a0 : Int) (a1 : Int) (a2 : Int) (r1 : Int) (r2 : Int) (w : World) (h : bits_Add32.f a0 a1 a2 = some (r1, r2)) :
    Calls Try.prog 24 #[.int .u32 a0, .int .u32 a1, .int .u32 a2] w fun e w' => e = .returned (.tuple #[.int .u32 r1, .int .u32 r2]) ∧ Drawn0 w w' := by
  have H : (some ((IntKind.u64.wrap ((IntKind.u64.wrap ((IntKind.u64.wrap (a0)) + (IntKind.u64.wrap (a1)))) + (IntKind.u64.wrap (a2)))) % 4294967296, ((IntKind.u64.wrap ((IntKind.u64.wrap ((IntKind.u64.wrap (a0)) + (IntKind.u64.wrap (a1)))) + (IntKind.u64.wrap (a2)))) / 4294967296) % 4294967296)) = some (r1, r2) := h
  clear h
  simp only [Option.some.injEq, Prod.mk.injEq] at H
  obtain ⟨rfl, rfl⟩ := H
  go_enter Try.func24, Try.ntmps24
  go_wp2
  go_ret2
  exact ⟨by first | rfl | (simp; done) | (simp [*]; done), by repeat (first | exact Drawn0.refl _ | apply Drawn0.step)⟩

/-! ### word_one: function 25 -/
def word_one.f (a0 : Bool) : Option (Int) := if a0 = true then (some 1) else (some 0)
set_option maxHeartbeats 8000000 in
set_option maxRecDepth 100000 in
theorem word_one.calls (a0 : Bool) (r : Int) (w : World) (h : word_one.f a0 = some r) :
    Calls Try.prog 25 #[.bool a0] w fun e w' => e = .returned (.int .u32 r) ∧ Drawn0 w w' := by
  have H : (if a0 = true then (some 1) else (some 0)) = some r := h
  clear h
  by_cases c2 : a0 = true
  · subst c2
    have H1 : (some 1) = some r := by rw [if_pos rfl] at H; exact H
    clear H
    have H := H1
    clear H1
    obtain rfl := Option.some.inj H
    go_enter Try.func25, Try.ntmps25
    go_wp2
    go_ret
    exact ⟨by first | rfl | (simp; done) | (simp [*]; done), by repeat (first | exact Drawn0.refl _ | apply Drawn0.step)⟩
  · replace c2 := Bool.eq_false_iff.mpr c2
    subst c2
    have H1 : (some 0) = some r := by rw [if_neg (show ¬ (false = true) by decide)] at H; exact H
    clear H
    have H := H1
    clear H1
    obtain rfl := Option.some.inj H
    go_enter Try.func25, Try.ntmps25
    go_wp2
    go_ret
    exact ⟨by first | rfl | (simp; done) | (simp [*]; done), by repeat (first | exact Drawn0.refl _ | apply Drawn0.step)⟩

/-! ### word_Add: function 16 -/
def word_Add.f (a0 : Int) (a1 : Int) (a2 : Bool) : Option (Int × Bool × Bool) := (word_one.f a2).bind fun t105 => ((bits_Add32.f a0 a1 t105).bind fun bt106 => (some (bt106.1, (bt106.2 == 1), (((Go.bits .and .u32 (Go.bits .xor .u32 a0 bt106.1) (Go.bits .xor .u32 a1 bt106.1)) / 2147483648) == 1))))
set_option maxHeartbeats 8000000 in
set_option maxRecDepth 100000 in
theorem word_Add.calls (a0 : Int) (a1 : Int) (a2 : Bool) (r1 : Int) (r2 : Bool) (r3 : Bool) (w : World) (h : word_Add.f a0 a1 a2 = some (r1, r2, r3)) :
    Calls Try.prog 16 #[.int .u32 a0, .int .u32 a1, .bool a2] w fun e w' => e = .returned (.tuple #[.int .u32 r1, .bool r2, .bool r3]) ∧ Drawn0 w w' := by
  have H : ((word_one.f a2).bind fun t105 => ((bits_Add32.f a0 a1 t105).bind fun bt106 => (some (bt106.1, (bt106.2 == 1), (((Go.bits .and .u32 (Go.bits .xor .u32 a0 bt106.1) (Go.bits .xor .u32 a1 bt106.1)) / 2147483648) == 1))))) = some (r1, r2, r3) := h
  clear h
  replace H := Option.bind_eq_some_iff.mp H
  obtain ⟨t105, A40, H⟩ := H
  replace H : ((bits_Add32.f a0 a1 t105).bind fun bt106 => (some (bt106.1, (bt106.2 == 1), (((Go.bits .and .u32 (Go.bits .xor .u32 a0 bt106.1) (Go.bits .xor .u32 a1 bt106.1)) / 2147483648) == 1)))) = some (r1, r2, r3) := H
  have A4 := Aside0.mk A40
  clear A40
  replace H := Option.bind_eq_some_iff.mp H
  obtain ⟨⟨t106, t107⟩, A50, H⟩ := H
  replace H : (some (t106, (t107 == 1), (((Go.bits .and .u32 (Go.bits .xor .u32 a0 t106) (Go.bits .xor .u32 a1 t106)) / 2147483648) == 1))) = some (r1, r2, r3) := H
  have A5 := Aside0.mk A50
  clear A50
  simp only [Option.some.injEq, Prod.mk.injEq] at H
  obtain ⟨rfl, rfl, rfl⟩ := H
  go_enter Try.func16, Try.ntmps16
  go_wp2_with (first | ((with_reducible refine gate_callee (f := 25) rfl ?_); refine goesL_ (some 15) rfl rfl Try.func25 (by kernel_rfl) rfl #[.bool a2] rfl (by (try simp only [List.map_toArray, List.map_cons, List.map_nil]); first | done | rfl | (simp only [List.length_drop, List.length_take]; rfl)) ?_; (with_reducible refine (word_one.calls a2 t105 _ A4.out).mono ?_); rintro e w' ⟨rfl, ⟨nd, rfl⟩⟩; refine ⟨_, rfl, ?_⟩) | ((with_reducible refine gate_callee (f := 24) rfl ?_); refine goesL_ (some 16) rfl rfl Try.func24 (by kernel_rfl) rfl #[.int .u32 a0, .int .u32 a1, .int .u32 t105] rfl (by (try simp only [List.map_toArray, List.map_cons, List.map_nil]); first | done | rfl | (simp only [List.length_drop, List.length_take]; rfl)) ?_; (with_reducible refine (bits_Add32.calls a0 a1 t105 t106 t107 _ A5.out).mono ?_); rintro e w' ⟨rfl, ⟨nd, rfl⟩⟩; refine ⟨_, rfl, ?_⟩))
  go_ret3
  exact ⟨by first | rfl | (simp; done) | (simp [*]; done), by repeat (first | exact Drawn0.refl _ | apply Drawn0.step)⟩

-- NOT PRINTED: function 26 (bits_Sub32)

-- NOT PRINTED: function 17 (word_Sub)

/-! ### rivetref01_signed: function 22 -/
def rivetref01_signed.f (a0 : Int) : Option (Int) := if (wrap64 (a0)) ≥ 2147483648 then (some (wrap64 ((wrap64 (a0)) - 4294967296))) else (some (wrap64 (a0)))
set_option maxHeartbeats 8000000 in
set_option maxRecDepth 100000 in
theorem rivetref01_signed.calls (a0 : Int) (r : Int) (w : World) (h : rivetref01_signed.f a0 = some r) :
    Calls Try.prog 22 #[.int .u32 a0] w fun e w' => e = .returned (.int .i64 r) ∧ Drawn0 w w' := by
  have H : (if (wrap64 (a0)) ≥ 2147483648 then (some (wrap64 ((wrap64 (a0)) - 4294967296))) else (some (wrap64 (a0)))) = some r := h
  clear h
  by_cases c2 : (wrap64 (a0)) ≥ 2147483648
  · rw [if_pos c2] at H
    have c2b0 : decide (2147483648 ≤ (wrap64 (a0))) = true := decide_eq_true c2
    clear c2
    obtain rfl := Option.some.inj H
    go_enter Try.func22, Try.ntmps22
    go_wp2
    go_ret
    exact ⟨by first | rfl | (simp; done) | (simp [*]; done), by repeat (first | exact Drawn0.refl _ | apply Drawn0.step)⟩
  · rw [if_neg c2] at H
    have c2b0 : decide (2147483648 ≤ (wrap64 (a0))) = false := decide_eq_false c2
    clear c2
    obtain rfl := Option.some.inj H
    go_enter Try.func22, Try.ntmps22
    go_wp2
    go_ret
    exact ⟨by first | rfl | (simp; done) | (simp [*]; done), by repeat (first | exact Drawn0.refl _ | apply Drawn0.step)⟩

/-! ### rivetref01_one: function 27 -/
def rivetref01_one.f (a0 : Bool) : Option (Int) := if a0 = true then (some 1) else (some 0)
set_option maxHeartbeats 8000000 in
set_option maxRecDepth 100000 in
theorem rivetref01_one.calls (a0 : Bool) (r : Int) (w : World) (h : rivetref01_one.f a0 = some r) :
    Calls Try.prog 27 #[.bool a0] w fun e w' => e = .returned (.int .i64 r) ∧ Drawn0 w w' := by
  have H : (if a0 = true then (some 1) else (some 0)) = some r := h
  clear h
  by_cases c2 : a0 = true
  · subst c2
    have H1 : (some 1) = some r := by rw [if_pos rfl] at H; exact H
    clear H
    have H := H1
    clear H1
    obtain rfl := Option.some.inj H
    go_enter Try.func27, Try.ntmps27
    go_wp2
    go_ret
    exact ⟨by first | rfl | (simp; done) | (simp [*]; done), by repeat (first | exact Drawn0.refl _ | apply Drawn0.step)⟩
  · replace c2 := Bool.eq_false_iff.mpr c2
    subst c2
    have H1 : (some 0) = some r := by rw [if_neg (show ¬ (false = true) by decide)] at H; exact H
    clear H
    have H := H1
    clear H1
    obtain rfl := Option.some.inj H
    go_enter Try.func27, Try.ntmps27
    go_wp2
    go_ret
    exact ⟨by first | rfl | (simp; done) | (simp [*]; done), by repeat (first | exact Drawn0.refl _ | apply Drawn0.step)⟩

/-! ### rivetref01_out: function 28 -/
def rivetref01_out.f (a0 : Int) : Option (Bool) := if a0 < (-2147483648) then (some true) else (some (decide (a0 ≥ 2147483648)))
set_option maxHeartbeats 8000000 in
set_option maxRecDepth 100000 in
theorem rivetref01_out.calls (a0 : Int) (r : Bool) (w : World) (h : rivetref01_out.f a0 = some r) :
    Calls Try.prog 28 #[.int .i64 a0] w fun e w' => e = .returned (.bool r) ∧ Drawn0 w w' := by
  have H : (if a0 < (-2147483648) then (some true) else (some (decide (a0 ≥ 2147483648)))) = some r := h
  clear h
  by_cases c2 : a0 < (-2147483648)
  · rw [if_pos c2] at H
    have c2b0 : decide (a0 < (-2147483648)) = true := decide_eq_true c2
    clear c2
    obtain rfl := Option.some.inj H
    go_enter Try.func28, Try.ntmps28
    go_wp2
    go_ret
    exact ⟨by first | rfl | (simp; done) | (simp [*]; done), by repeat (first | exact Drawn0.refl _ | apply Drawn0.step)⟩
  · rw [if_neg c2] at H
    have c2b0 : decide (a0 < (-2147483648)) = false := decide_eq_false c2
    clear c2
    obtain rfl := Option.some.inj H
    go_enter Try.func28, Try.ntmps28
    go_wp2
    go_ret
    exact ⟨by first | rfl | (simp; done) | (simp [*]; done), by repeat (first | exact Drawn0.refl _ | apply Drawn0.step)⟩

/-! ### rivetref01_Add: function 18 -/
def rivetref01_Add.f (a0 : Int) (a1 : Int) (a2 : Bool) : Option (Int × Bool × Bool) := (rivetref01_one.f a2).bind fun t109 => ((rivetref01_signed.f a0).bind fun t110 => ((rivetref01_signed.f a1).bind fun t111 => ((rivetref01_one.f a2).bind fun t112 => ((rivetref01_out.f (wrap64 ((wrap64 (t110 + t111)) + t112))).bind fun t113 => (some ((Int.tmod (wrap64 ((wrap64 ((wrap64 (a0)) + (wrap64 (a1)))) + t109)) 4294967296) % 4294967296, decide ((wrap64 ((wrap64 ((wrap64 (a0)) + (wrap64 (a1)))) + t109)) ≥ 4294967296), t113))))))
set_option maxHeartbeats 8000000 in
set_option maxRecDepth 100000 in
theorem rivetref01_Add.calls (a0 : Int) (a1 : Int) (a2 : Bool) (r1 : Int) (r2 : Bool) (r3 : Bool) (w : World) (h : rivetref01_Add.f a0 a1 a2 = some (r1, r2, r3)) :
    Calls Try.prog 18 #[.int .u32 a0, .int .u32 a1, .bool a2] w fun e w' => e = .returned (.tuple #[.int .u32 r1, .bool r2, .bool r3]) ∧ Drawn0 w w' := by
  have H : ((rivetref01_one.f a2).bind fun t109 => ((rivetref01_signed.f a0).bind fun t110 => ((rivetref01_signed.f a1).bind fun t111 => ((rivetref01_one.f a2).bind fun t112 => ((rivetref01_out.f (wrap64 ((wrap64 (t110 + t111)) + t112))).bind fun t113 => (some ((Int.tmod (wrap64 ((wrap64 ((wrap64 (a0)) + (wrap64 (a1)))) + t109)) 4294967296) % 4294967296, decide ((wrap64 ((wrap64 ((wrap64 (a0)) + (wrap64 (a1)))) + t109)) ≥ 4294967296), t113))))))) = some (r1, r2, r3) := h
  clear h
  replace H := Option.bind_eq_some_iff.mp H
  obtain ⟨t109, A40, H⟩ := H
  replace H : ((rivetref01_signed.f a0).bind fun t110 => ((rivetref01_signed.f a1).bind fun t111 => ((rivetref01_one.f a2).bind fun t112 => ((rivetref01_out.f (wrap64 ((wrap64 (t110 + t111)) + t112))).bind fun t113 => (some ((Int.tmod (wrap64 ((wrap64 ((wrap64 (a0)) + (wrap64 (a1)))) + t109)) 4294967296) % 4294967296, decide ((wrap64 ((wrap64 ((wrap64 (a0)) + (wrap64 (a1)))) + t109)) ≥ 4294967296), t113)))))) = some (r1, r2, r3) := H
  have A4 := Aside0.mk A40
  clear A40
  replace H := Option.bind_eq_some_iff.mp H
  obtain ⟨t110, A50, H⟩ := H
  replace H : ((rivetref01_signed.f a1).bind fun t111 => ((rivetref01_one.f a2).bind fun t112 => ((rivetref01_out.f (wrap64 ((wrap64 (t110 + t111)) + t112))).bind fun t113 => (some ((Int.tmod (wrap64 ((wrap64 ((wrap64 (a0)) + (wrap64 (a1)))) + t109)) 4294967296) % 4294967296, decide ((wrap64 ((wrap64 ((wrap64 (a0)) + (wrap64 (a1)))) + t109)) ≥ 4294967296), t113))))) = some (r1, r2, r3) := H
  have A5 := Aside0.mk A50
  clear A50
  replace H := Option.bind_eq_some_iff.mp H
  obtain ⟨t111, A60, H⟩ := H
  replace H : ((rivetref01_one.f a2).bind fun t112 => ((rivetref01_out.f (wrap64 ((wrap64 (t110 + t111)) + t112))).bind fun t113 => (some ((Int.tmod (wrap64 ((wrap64 ((wrap64 (a0)) + (wrap64 (a1)))) + t109)) 4294967296) % 4294967296, decide ((wrap64 ((wrap64 ((wrap64 (a0)) + (wrap64 (a1)))) + t109)) ≥ 4294967296), t113)))) = some (r1, r2, r3) := H
  have A6 := Aside0.mk A60
  clear A60
  replace H := Option.bind_eq_some_iff.mp H
  obtain ⟨t112, A70, H⟩ := H
  replace H : ((rivetref01_out.f (wrap64 ((wrap64 (t110 + t111)) + t112))).bind fun t113 => (some ((Int.tmod (wrap64 ((wrap64 ((wrap64 (a0)) + (wrap64 (a1)))) + t109)) 4294967296) % 4294967296, decide ((wrap64 ((wrap64 ((wrap64 (a0)) + (wrap64 (a1)))) + t109)) ≥ 4294967296), t113))) = some (r1, r2, r3) := H
  have A7 := Aside0.mk A70
  clear A70
  replace H := Option.bind_eq_some_iff.mp H
  obtain ⟨t113, A80, H⟩ := H
  replace H : (some ((Int.tmod (wrap64 ((wrap64 ((wrap64 (a0)) + (wrap64 (a1)))) + t109)) 4294967296) % 4294967296, decide ((wrap64 ((wrap64 ((wrap64 (a0)) + (wrap64 (a1)))) + t109)) ≥ 4294967296), t113)) = some (r1, r2, r3) := H
  have A8 := Aside0.mk A80
  clear A80
  simp only [Option.some.injEq, Prod.mk.injEq] at H
  obtain ⟨rfl, rfl, rfl⟩ := H
  go_enter Try.func18, Try.ntmps18
  go_wp2_with (first | ((with_reducible refine gate_callee (f := 27) rfl ?_); refine goesL_ (some 16) rfl rfl Try.func27 (by kernel_rfl) rfl #[.bool a2] rfl (by (try simp only [List.map_toArray, List.map_cons, List.map_nil]); first | done | rfl | (simp only [List.length_drop, List.length_take]; rfl)) ?_; (with_reducible refine (rivetref01_one.calls a2 t109 _ A4.out).mono ?_); rintro e w' ⟨rfl, ⟨nd, rfl⟩⟩; refine ⟨_, rfl, ?_⟩) | ((with_reducible refine gate_callee (f := 22) rfl ?_); refine goesL_ (some 24) rfl rfl Try.func22 (by kernel_rfl) rfl #[.int .u32 a0] rfl (by (try simp only [List.map_toArray, List.map_cons, List.map_nil]); first | done | rfl | (simp only [List.length_drop, List.length_take]; rfl)) ?_; (with_reducible refine (rivetref01_signed.calls a0 t110 _ A5.out).mono ?_); rintro e w' ⟨rfl, ⟨nd, rfl⟩⟩; refine ⟨_, rfl, ?_⟩) | ((with_reducible refine gate_callee (f := 22) rfl ?_); refine goesL_ (some 26) rfl rfl Try.func22 (by kernel_rfl) rfl #[.int .u32 a1] rfl (by (try simp only [List.map_toArray, List.map_cons, List.map_nil]); first | done | rfl | (simp only [List.length_drop, List.length_take]; rfl)) ?_; (with_reducible refine (rivetref01_signed.calls a1 t111 _ A6.out).mono ?_); rintro e w' ⟨rfl, ⟨nd, rfl⟩⟩; refine ⟨_, rfl, ?_⟩) | ((with_reducible refine gate_callee (f := 27) rfl ?_); refine goesL_ (some 29) rfl rfl Try.func27 (by kernel_rfl) rfl #[.bool a2] rfl (by (try simp only [List.map_toArray, List.map_cons, List.map_nil]); first | done | rfl | (simp only [List.length_drop, List.length_take]; rfl)) ?_; (with_reducible refine (rivetref01_one.calls a2 t112 _ A7.out).mono ?_); rintro e w' ⟨rfl, ⟨nd, rfl⟩⟩; refine ⟨_, rfl, ?_⟩) | ((with_reducible refine gate_callee (f := 28) rfl ?_); refine goesL_ (some 31) rfl rfl Try.func28 (by kernel_rfl) rfl #[.int .i64 (wrap64 ((wrap64 (t110 + t111)) + t112))] rfl (by (try simp only [List.map_toArray, List.map_cons, List.map_nil]); first | done | rfl | (simp only [List.length_drop, List.length_take]; rfl)) ?_; (with_reducible refine (rivetref01_out.calls (wrap64 ((wrap64 (t110 + t111)) + t112)) t113 _ A8.out).mono ?_); rintro e w' ⟨rfl, ⟨nd, rfl⟩⟩; refine ⟨_, rfl, ?_⟩))
  go_ret3
  exact ⟨by first | rfl | (simp; done) | (simp [*]; done), by repeat (first | exact Drawn0.refl _ | apply Drawn0.step)⟩

/-! ### rivetref01_Sub: function 19 -/
def rivetref01_Sub.f (a0 : Int) (a1 : Int) (a2 : Bool) : Option (Int × Bool × Bool) := (rivetref01_one.f a2).bind fun t114 => ((rivetref01_signed.f a0).bind fun t115 => ((rivetref01_signed.f a1).bind fun t116 => ((rivetref01_one.f a2).bind fun t117 => ((rivetref01_out.f (wrap64 ((wrap64 (t115 - t116)) - t117))).bind fun t118 => (some ((Int.tmod (wrap64 ((wrap64 ((wrap64 ((wrap64 (a0)) - (wrap64 (a1)))) - t114)) + 8589934592)) 4294967296) % 4294967296, decide ((wrap64 ((wrap64 ((wrap64 (a0)) - (wrap64 (a1)))) - t114)) < 0), t118))))))
set_option maxHeartbeats 8000000 in
set_option maxRecDepth 100000 in
theorem rivetref01_Sub.calls (a0 : Int) (a1 : Int) (a2 : Bool) (r1 : Int) (r2 : Bool) (r3 : Bool) (w : World) (h : rivetref01_Sub.f a0 a1 a2 = some (r1, r2, r3)) :
    Calls Try.prog 19 #[.int .u32 a0, .int .u32 a1, .bool a2] w fun e w' => e = .returned (.tuple #[.int .u32 r1, .bool r2, .bool r3]) ∧ Drawn0 w w' := by
  have H : ((rivetref01_one.f a2).bind fun t114 => ((rivetref01_signed.f a0).bind fun t115 => ((rivetref01_signed.f a1).bind fun t116 => ((rivetref01_one.f a2).bind fun t117 => ((rivetref01_out.f (wrap64 ((wrap64 (t115 - t116)) - t117))).bind fun t118 => (some ((Int.tmod (wrap64 ((wrap64 ((wrap64 ((wrap64 (a0)) - (wrap64 (a1)))) - t114)) + 8589934592)) 4294967296) % 4294967296, decide ((wrap64 ((wrap64 ((wrap64 (a0)) - (wrap64 (a1)))) - t114)) < 0), t118))))))) = some (r1, r2, r3) := h
  clear h
  replace H := Option.bind_eq_some_iff.mp H
  obtain ⟨t114, A40, H⟩ := H
  replace H : ((rivetref01_signed.f a0).bind fun t115 => ((rivetref01_signed.f a1).bind fun t116 => ((rivetref01_one.f a2).bind fun t117 => ((rivetref01_out.f (wrap64 ((wrap64 (t115 - t116)) - t117))).bind fun t118 => (some ((Int.tmod (wrap64 ((wrap64 ((wrap64 ((wrap64 (a0)) - (wrap64 (a1)))) - t114)) + 8589934592)) 4294967296) % 4294967296, decide ((wrap64 ((wrap64 ((wrap64 (a0)) - (wrap64 (a1)))) - t114)) < 0), t118)))))) = some (r1, r2, r3) := H
  have A4 := Aside0.mk A40
  clear A40
  replace H := Option.bind_eq_some_iff.mp H
  obtain ⟨t115, A50, H⟩ := H
  replace H : ((rivetref01_signed.f a1).bind fun t116 => ((rivetref01_one.f a2).bind fun t117 => ((rivetref01_out.f (wrap64 ((wrap64 (t115 - t116)) - t117))).bind fun t118 => (some ((Int.tmod (wrap64 ((wrap64 ((wrap64 ((wrap64 (a0)) - (wrap64 (a1)))) - t114)) + 8589934592)) 4294967296) % 4294967296, decide ((wrap64 ((wrap64 ((wrap64 (a0)) - (wrap64 (a1)))) - t114)) < 0), t118))))) = some (r1, r2, r3) := H
  have A5 := Aside0.mk A50
  clear A50
  replace H := Option.bind_eq_some_iff.mp H
  obtain ⟨t116, A60, H⟩ := H
  replace H : ((rivetref01_one.f a2).bind fun t117 => ((rivetref01_out.f (wrap64 ((wrap64 (t115 - t116)) - t117))).bind fun t118 => (some ((Int.tmod (wrap64 ((wrap64 ((wrap64 ((wrap64 (a0)) - (wrap64 (a1)))) - t114)) + 8589934592)) 4294967296) % 4294967296, decide ((wrap64 ((wrap64 ((wrap64 (a0)) - (wrap64 (a1)))) - t114)) < 0), t118)))) = some (r1, r2, r3) := H
  have A6 := Aside0.mk A60
  clear A60
  replace H := Option.bind_eq_some_iff.mp H
  obtain ⟨t117, A70, H⟩ := H
  replace H : ((rivetref01_out.f (wrap64 ((wrap64 (t115 - t116)) - t117))).bind fun t118 => (some ((Int.tmod (wrap64 ((wrap64 ((wrap64 ((wrap64 (a0)) - (wrap64 (a1)))) - t114)) + 8589934592)) 4294967296) % 4294967296, decide ((wrap64 ((wrap64 ((wrap64 (a0)) - (wrap64 (a1)))) - t114)) < 0), t118))) = some (r1, r2, r3) := H
  have A7 := Aside0.mk A70
  clear A70
  replace H := Option.bind_eq_some_iff.mp H
  obtain ⟨t118, A80, H⟩ := H
  replace H : (some ((Int.tmod (wrap64 ((wrap64 ((wrap64 ((wrap64 (a0)) - (wrap64 (a1)))) - t114)) + 8589934592)) 4294967296) % 4294967296, decide ((wrap64 ((wrap64 ((wrap64 (a0)) - (wrap64 (a1)))) - t114)) < 0), t118)) = some (r1, r2, r3) := H
  have A8 := Aside0.mk A80
  clear A80
  simp only [Option.some.injEq, Prod.mk.injEq] at H
  obtain ⟨rfl, rfl, rfl⟩ := H
  go_enter Try.func19, Try.ntmps19
  go_wp2_with (first | ((with_reducible refine gate_callee (f := 27) rfl ?_); refine goesL_ (some 16) rfl rfl Try.func27 (by kernel_rfl) rfl #[.bool a2] rfl (by (try simp only [List.map_toArray, List.map_cons, List.map_nil]); first | done | rfl | (simp only [List.length_drop, List.length_take]; rfl)) ?_; (with_reducible refine (rivetref01_one.calls a2 t114 _ A4.out).mono ?_); rintro e w' ⟨rfl, ⟨nd, rfl⟩⟩; refine ⟨_, rfl, ?_⟩) | ((with_reducible refine gate_callee (f := 22) rfl ?_); refine goesL_ (some 25) rfl rfl Try.func22 (by kernel_rfl) rfl #[.int .u32 a0] rfl (by (try simp only [List.map_toArray, List.map_cons, List.map_nil]); first | done | rfl | (simp only [List.length_drop, List.length_take]; rfl)) ?_; (with_reducible refine (rivetref01_signed.calls a0 t115 _ A5.out).mono ?_); rintro e w' ⟨rfl, ⟨nd, rfl⟩⟩; refine ⟨_, rfl, ?_⟩) | ((with_reducible refine gate_callee (f := 22) rfl ?_); refine goesL_ (some 27) rfl rfl Try.func22 (by kernel_rfl) rfl #[.int .u32 a1] rfl (by (try simp only [List.map_toArray, List.map_cons, List.map_nil]); first | done | rfl | (simp only [List.length_drop, List.length_take]; rfl)) ?_; (with_reducible refine (rivetref01_signed.calls a1 t116 _ A6.out).mono ?_); rintro e w' ⟨rfl, ⟨nd, rfl⟩⟩; refine ⟨_, rfl, ?_⟩) | ((with_reducible refine gate_callee (f := 27) rfl ?_); refine goesL_ (some 30) rfl rfl Try.func27 (by kernel_rfl) rfl #[.bool a2] rfl (by (try simp only [List.map_toArray, List.map_cons, List.map_nil]); first | done | rfl | (simp only [List.length_drop, List.length_take]; rfl)) ?_; (with_reducible refine (rivetref01_one.calls a2 t117 _ A7.out).mono ?_); rintro e w' ⟨rfl, ⟨nd, rfl⟩⟩; refine ⟨_, rfl, ?_⟩) | ((with_reducible refine gate_callee (f := 28) rfl ?_); refine goesL_ (some 32) rfl rfl Try.func28 (by kernel_rfl) rfl #[.int .i64 (wrap64 ((wrap64 (t115 - t116)) - t117))] rfl (by (try simp only [List.map_toArray, List.map_cons, List.map_nil]); first | done | rfl | (simp only [List.length_drop, List.length_take]; rfl)) ?_; (with_reducible refine (rivetref01_out.calls (wrap64 ((wrap64 (t115 - t116)) - t117)) t118 _ A8.out).mono ?_); rintro e w' ⟨rfl, ⟨nd, rfl⟩⟩; refine ⟨_, rfl, ?_⟩))
  go_ret3
  exact ⟨by first | rfl | (simp; done) | (simp [*]; done), by repeat (first | exact Drawn0.refl _ | apply Drawn0.step)⟩

/-! ### rivetref01_Mul: function 20 -/
def rivetref01_Mul.f (a0 : Int) (a1 : Int) (a2 : Bool) : Option (Int × Int) := if a2 = true then (some ((wrap64 ((Int.tmod (wrap64 ((Int.tmod (wrap64 (a0)) 65536) * (Int.tmod (wrap64 (a1)) 65536))) 65536) + (wrap64 ((Int.tmod (wrap64 ((wrap64 ((wrap64 ((Int.tmod (wrap64 (a0)) 65536) * (wrap64 (Int.tdiv (wrap64 (a1)) 65536)))) + (wrap64 ((wrap64 (Int.tdiv (wrap64 (a0)) 65536)) * (Int.tmod (wrap64 (a1)) 65536))))) + (wrap64 (Int.tdiv (wrap64 ((Int.tmod (wrap64 (a0)) 65536) * (Int.tmod (wrap64 (a1)) 65536))) 65536)))) 65536) * 65536)))) % 4294967296, (Int.tmod (wrap64 ((wrap64 ((wrap64 ((wrap64 (Int.tdiv (wrap64 (a0)) 65536)) * (wrap64 (Int.tdiv (wrap64 (a1)) 65536)))) + (wrap64 (Int.tdiv (wrap64 ((wrap64 ((wrap64 ((Int.tmod (wrap64 (a0)) 65536) * (wrap64 (Int.tdiv (wrap64 (a1)) 65536)))) + (wrap64 ((wrap64 (Int.tdiv (wrap64 (a0)) 65536)) * (Int.tmod (wrap64 (a1)) 65536))))) + (wrap64 (Int.tdiv (wrap64 ((Int.tmod (wrap64 (a0)) 65536) * (Int.tmod (wrap64 (a1)) 65536))) 65536)))) 65536)))) + 17179869184)) 4294967296) % 4294967296)) else ((rivetref01_signed.f a0).bind fun t119 => (if t119 < 0 then ((rivetref01_signed.f a1).bind fun t120 => (if t120 < 0 then (some ((wrap64 ((Int.tmod (wrap64 ((Int.tmod (wrap64 (a0)) 65536) * (Int.tmod (wrap64 (a1)) 65536))) 65536) + (wrap64 ((Int.tmod (wrap64 ((wrap64 ((wrap64 ((Int.tmod (wrap64 (a0)) 65536) * (wrap64 (Int.tdiv (wrap64 (a1)) 65536)))) + (wrap64 ((wrap64 (Int.tdiv (wrap64 (a0)) 65536)) * (Int.tmod (wrap64 (a1)) 65536))))) + (wrap64 (Int.tdiv (wrap64 ((Int.tmod (wrap64 (a0)) 65536) * (Int.tmod (wrap64 (a1)) 65536))) 65536)))) 65536) * 65536)))) % 4294967296, (Int.tmod (wrap64 ((wrap64 ((wrap64 ((wrap64 ((wrap64 ((wrap64 (Int.tdiv (wrap64 (a0)) 65536)) * (wrap64 (Int.tdiv (wrap64 (a1)) 65536)))) + (wrap64 (Int.tdiv (wrap64 ((wrap64 ((wrap64 ((Int.tmod (wrap64 (a0)) 65536) * (wrap64 (Int.tdiv (wrap64 (a1)) 65536)))) + (wrap64 ((wrap64 (Int.tdiv (wrap64 (a0)) 65536)) * (Int.tmod (wrap64 (a1)) 65536))))) + (wrap64 (Int.tdiv (wrap64 ((Int.tmod (wrap64 (a0)) 65536) * (Int.tmod (wrap64 (a1)) 65536))) 65536)))) 65536)))) - (wrap64 (a1)))) - (wrap64 (a0)))) + 17179869184)) 4294967296) % 4294967296)) else (some ((wrap64 ((Int.tmod (wrap64 ((Int.tmod (wrap64 (a0)) 65536) * (Int.tmod (wrap64 (a1)) 65536))) 65536) + (wrap64 ((Int.tmod (wrap64 ((wrap64 ((wrap64 ((Int.tmod (wrap64 (a0)) 65536) * (wrap64 (Int.tdiv (wrap64 (a1)) 65536)))) + (wrap64 ((wrap64 (Int.tdiv (wrap64 (a0)) 65536)) * (Int.tmod (wrap64 (a1)) 65536))))) + (wrap64 (Int.tdiv (wrap64 ((Int.tmod (wrap64 (a0)) 65536) * (Int.tmod (wrap64 (a1)) 65536))) 65536)))) 65536) * 65536)))) % 4294967296, (Int.tmod (wrap64 ((wrap64 ((wrap64 ((wrap64 ((wrap64 (Int.tdiv (wrap64 (a0)) 65536)) * (wrap64 (Int.tdiv (wrap64 (a1)) 65536)))) + (wrap64 (Int.tdiv (wrap64 ((wrap64 ((wrap64 ((Int.tmod (wrap64 (a0)) 65536) * (wrap64 (Int.tdiv (wrap64 (a1)) 65536)))) + (wrap64 ((wrap64 (Int.tdiv (wrap64 (a0)) 65536)) * (Int.tmod (wrap64 (a1)) 65536))))) + (wrap64 (Int.tdiv (wrap64 ((Int.tmod (wrap64 (a0)) 65536) * (Int.tmod (wrap64 (a1)) 65536))) 65536)))) 65536)))) - (wrap64 (a1)))) + 17179869184)) 4294967296) % 4294967296)))) else ((rivetref01_signed.f a1).bind fun t121 => (if t121 < 0 then (some ((wrap64 ((Int.tmod (wrap64 ((Int.tmod (wrap64 (a0)) 65536) * (Int.tmod (wrap64 (a1)) 65536))) 65536) + (wrap64 ((Int.tmod (wrap64 ((wrap64 ((wrap64 ((Int.tmod (wrap64 (a0)) 65536) * (wrap64 (Int.tdiv (wrap64 (a1)) 65536)))) + (wrap64 ((wrap64 (Int.tdiv (wrap64 (a0)) 65536)) * (Int.tmod (wrap64 (a1)) 65536))))) + (wrap64 (Int.tdiv (wrap64 ((Int.tmod (wrap64 (a0)) 65536) * (Int.tmod (wrap64 (a1)) 65536))) 65536)))) 65536) * 65536)))) % 4294967296, (Int.tmod (wrap64 ((wrap64 ((wrap64 ((wrap64 ((wrap64 (Int.tdiv (wrap64 (a0)) 65536)) * (wrap64 (Int.tdiv (wrap64 (a1)) 65536)))) + (wrap64 (Int.tdiv (wrap64 ((wrap64 ((wrap64 ((Int.tmod (wrap64 (a0)) 65536) * (wrap64 (Int.tdiv (wrap64 (a1)) 65536)))) + (wrap64 ((wrap64 (Int.tdiv (wrap64 (a0)) 65536)) * (Int.tmod (wrap64 (a1)) 65536))))) + (wrap64 (Int.tdiv (wrap64 ((Int.tmod (wrap64 (a0)) 65536) * (Int.tmod (wrap64 (a1)) 65536))) 65536)))) 65536)))) - (wrap64 (a0)))) + 17179869184)) 4294967296) % 4294967296)) else (some ((wrap64 ((Int.tmod (wrap64 ((Int.tmod (wrap64 (a0)) 65536) * (Int.tmod (wrap64 (a1)) 65536))) 65536) + (wrap64 ((Int.tmod (wrap64 ((wrap64 ((wrap64 ((Int.tmod (wrap64 (a0)) 65536) * (wrap64 (Int.tdiv (wrap64 (a1)) 65536)))) + (wrap64 ((wrap64 (Int.tdiv (wrap64 (a0)) 65536)) * (Int.tmod (wrap64 (a1)) 65536))))) + (wrap64 (Int.tdiv (wrap64 ((Int.tmod (wrap64 (a0)) 65536) * (Int.tmod (wrap64 (a1)) 65536))) 65536)))) 65536) * 65536)))) % 4294967296, (Int.tmod (wrap64 ((wrap64 ((wrap64 ((wrap64 (Int.tdiv (wrap64 (a0)) 65536)) * (wrap64 (Int.tdiv (wrap64 (a1)) 65536)))) + (wrap64 (Int.tdiv (wrap64 ((wrap64 ((wrap64 ((Int.tmod (wrap64 (a0)) 65536) * (wrap64 (Int.tdiv (wrap64 (a1)) 65536)))) + (wrap64 ((wrap64 (Int.tdiv (wrap64 (a0)) 65536)) * (Int.tmod (wrap64 (a1)) 65536))))) + (wrap64 (Int.tdiv (wrap64 ((Int.tmod (wrap64 (a0)) 65536) * (Int.tmod (wrap64 (a1)) 65536))) 65536)))) 65536)))) + 17179869184)) 4294967296) % 4294967296))))))
set_option maxHeartbeats 8000000 in
set_option maxRecDepth 100000 in
theorem rivetref01_Mul.calls (a0 : Int) (a1 : Int) (a2 : Bool) (r1 : Int) (r2 : Int) (w : World) (h : rivetref01_Mul.f a0 a1 a2 = some (r1, r2)) :
    Calls Try.prog 20 #[.int .u32 a0, .int .u32 a1, .bool a2] w fun e w' => e = .returned (.tuple #[.int .u32 r1, .int .u32 r2]) ∧ Drawn0 w w' := by
  have H : (if a2 = true then (some ((wrap64 ((Int.tmod (wrap64 ((Int.tmod (wrap64 (a0)) 65536) * (Int.tmod (wrap64 (a1)) 65536))) 65536) + (wrap64 ((Int.tmod (wrap64 ((wrap64 ((wrap64 ((Int.tmod (wrap64 (a0)) 65536) * (wrap64 (Int.tdiv (wrap64 (a1)) 65536)))) + (wrap64 ((wrap64 (Int.tdiv (wrap64 (a0)) 65536)) * (Int.tmod (wrap64 (a1)) 65536))))) + (wrap64 (Int.tdiv (wrap64 ((Int.tmod (wrap64 (a0)) 65536) * (Int.tmod (wrap64 (a1)) 65536))) 65536)))) 65536) * 65536)))) % 4294967296, (Int.tmod (wrap64 ((wrap64 ((wrap64 ((wrap64 (Int.tdiv (wrap64 (a0)) 65536)) * (wrap64 (Int.tdiv (wrap64 (a1)) 65536)))) + (wrap64 (Int.tdiv (wrap64 ((wrap64 ((wrap64 ((Int.tmod (wrap64 (a0)) 65536) * (wrap64 (Int.tdiv (wrap64 (a1)) 65536)))) + (wrap64 ((wrap64 (Int.tdiv (wrap64 (a0)) 65536)) * (Int.tmod (wrap64 (a1)) 65536))))) + (wrap64 (Int.tdiv (wrap64 ((Int.tmod (wrap64 (a0)) 65536) * (Int.tmod (wrap64 (a1)) 65536))) 65536)))) 65536)))) + 17179869184)) 4294967296) % 4294967296)) else ((rivetref01_signed.f a0).bind fun t119 => (if t119 < 0 then ((rivetref01_signed.f a1).bind fun t120 => (if t120 < 0 then (some ((wrap64 ((Int.tmod (wrap64 ((Int.tmod (wrap64 (a0)) 65536) * (Int.tmod (wrap64 (a1)) 65536))) 65536) + (wrap64 ((Int.tmod (wrap64 ((wrap64 ((wrap64 ((Int.tmod (wrap64 (a0)) 65536) * (wrap64 (Int.tdiv (wrap64 (a1)) 65536)))) + (wrap64 ((wrap64 (Int.tdiv (wrap64 (a0)) 65536)) * (Int.tmod (wrap64 (a1)) 65536))))) + (wrap64 (Int.tdiv (wrap64 ((Int.tmod (wrap64 (a0)) 65536) * (Int.tmod (wrap64 (a1)) 65536))) 65536)))) 65536) * 65536)))) % 4294967296, (Int.tmod (wrap64 ((wrap64 ((wrap64 ((wrap64 ((wrap64 ((wrap64 (Int.tdiv (wrap64 (a0)) 65536)) * (wrap64 (Int.tdiv (wrap64 (a1)) 65536)))) + (wrap64 (Int.tdiv (wrap64 ((wrap64 ((wrap64 ((Int.tmod (wrap64 (a0)) 65536) * (wrap64 (Int.tdiv (wrap64 (a1)) 65536)))) + (wrap64 ((wrap64 (Int.tdiv (wrap64 (a0)) 65536)) * (Int.tmod (wrap64 (a1)) 65536))))) + (wrap64 (Int.tdiv (wrap64 ((Int.tmod (wrap64 (a0)) 65536) * (Int.tmod (wrap64 (a1)) 65536))) 65536)))) 65536)))) - (wrap64 (a1)))) - (wrap64 (a0)))) + 17179869184)) 4294967296) % 4294967296)) else (some ((wrap64 ((Int.tmod (wrap64 ((Int.tmod (wrap64 (a0)) 65536) * (Int.tmod (wrap64 (a1)) 65536))) 65536) + (wrap64 ((Int.tmod (wrap64 ((wrap64 ((wrap64 ((Int.tmod (wrap64 (a0)) 65536) * (wrap64 (Int.tdiv (wrap64 (a1)) 65536)))) + (wrap64 ((wrap64 (Int.tdiv (wrap64 (a0)) 65536)) * (Int.tmod (wrap64 (a1)) 65536))))) + (wrap64 (Int.tdiv (wrap64 ((Int.tmod (wrap64 (a0)) 65536) * (Int.tmod (wrap64 (a1)) 65536))) 65536)))) 65536) * 65536)))) % 4294967296, (Int.tmod (wrap64 ((wrap64 ((wrap64 ((wrap64 ((wrap64 (Int.tdiv (wrap64 (a0)) 65536)) * (wrap64 (Int.tdiv (wrap64 (a1)) 65536)))) + (wrap64 (Int.tdiv (wrap64 ((wrap64 ((wrap64 ((Int.tmod (wrap64 (a0)) 65536) * (wrap64 (Int.tdiv (wrap64 (a1)) 65536)))) + (wrap64 ((wrap64 (Int.tdiv (wrap64 (a0)) 65536)) * (Int.tmod (wrap64 (a1)) 65536))))) + (wrap64 (Int.tdiv (wrap64 ((Int.tmod (wrap64 (a0)) 65536) * (Int.tmod (wrap64 (a1)) 65536))) 65536)))) 65536)))) - (wrap64 (a1)))) + 17179869184)) 4294967296) % 4294967296)))) else ((rivetref01_signed.f a1).bind fun t121 => (if t121 < 0 then (some ((wrap64 ((Int.tmod (wrap64 ((Int.tmod (wrap64 (a0)) 65536) * (Int.tmod (wrap64 (a1)) 65536))) 65536) + (wrap64 ((Int.tmod (wrap64 ((wrap64 ((wrap64 ((Int.tmod (wrap64 (a0)) 65536) * (wrap64 (Int.tdiv (wrap64 (a1)) 65536)))) + (wrap64 ((wrap64 (Int.tdiv (wrap64 (a0)) 65536)) * (Int.tmod (wrap64 (a1)) 65536))))) + (wrap64 (Int.tdiv (wrap64 ((Int.tmod (wrap64 (a0)) 65536) * (Int.tmod (wrap64 (a1)) 65536))) 65536)))) 65536) * 65536)))) % 4294967296, (Int.tmod (wrap64 ((wrap64 ((wrap64 ((wrap64 ((wrap64 (Int.tdiv (wrap64 (a0)) 65536)) * (wrap64 (Int.tdiv (wrap64 (a1)) 65536)))) + (wrap64 (Int.tdiv (wrap64 ((wrap64 ((wrap64 ((Int.tmod (wrap64 (a0)) 65536) * (wrap64 (Int.tdiv (wrap64 (a1)) 65536)))) + (wrap64 ((wrap64 (Int.tdiv (wrap64 (a0)) 65536)) * (Int.tmod (wrap64 (a1)) 65536))))) + (wrap64 (Int.tdiv (wrap64 ((Int.tmod (wrap64 (a0)) 65536) * (Int.tmod (wrap64 (a1)) 65536))) 65536)))) 65536)))) - (wrap64 (a0)))) + 17179869184)) 4294967296) % 4294967296)) else (some ((wrap64 ((Int.tmod (wrap64 ((Int.tmod (wrap64 (a0)) 65536) * (Int.tmod (wrap64 (a1)) 65536))) 65536) + (wrap64 ((Int.tmod (wrap64 ((wrap64 ((wrap64 ((Int.tmod (wrap64 (a0)) 65536) * (wrap64 (Int.tdiv (wrap64 (a1)) 65536)))) + (wrap64 ((wrap64 (Int.tdiv (wrap64 (a0)) 65536)) * (Int.tmod (wrap64 (a1)) 65536))))) + (wrap64 (Int.tdiv (wrap64 ((Int.tmod (wrap64 (a0)) 65536) * (Int.tmod (wrap64 (a1)) 65536))) 65536)))) 65536) * 65536)))) % 4294967296, (Int.tmod (wrap64 ((wrap64 ((wrap64 ((wrap64 (Int.tdiv (wrap64 (a0)) 65536)) * (wrap64 (Int.tdiv (wrap64 (a1)) 65536)))) + (wrap64 (Int.tdiv (wrap64 ((wrap64 ((wrap64 ((Int.tmod (wrap64 (a0)) 65536) * (wrap64 (Int.tdiv (wrap64 (a1)) 65536)))) + (wrap64 ((wrap64 (Int.tdiv (wrap64 (a0)) 65536)) * (Int.tmod (wrap64 (a1)) 65536))))) + (wrap64 (Int.tdiv (wrap64 ((Int.tmod (wrap64 (a0)) 65536) * (Int.tmod (wrap64 (a1)) 65536))) 65536)))) 65536)))) + 17179869184)) 4294967296) % 4294967296))))))) = some (r1, r2) := h
  clear h
  by_cases c4 : a2 = true
  · subst c4
    have H1 : (some ((wrap64 ((Int.tmod (wrap64 ((Int.tmod (wrap64 (a0)) 65536) * (Int.tmod (wrap64 (a1)) 65536))) 65536) + (wrap64 ((Int.tmod (wrap64 ((wrap64 ((wrap64 ((Int.tmod (wrap64 (a0)) 65536) * (wrap64 (Int.tdiv (wrap64 (a1)) 65536)))) + (wrap64 ((wrap64 (Int.tdiv (wrap64 (a0)) 65536)) * (Int.tmod (wrap64 (a1)) 65536))))) + (wrap64 (Int.tdiv (wrap64 ((Int.tmod (wrap64 (a0)) 65536) * (Int.tmod (wrap64 (a1)) 65536))) 65536)))) 65536) * 65536)))) % 4294967296, (Int.tmod (wrap64 ((wrap64 ((wrap64 ((wrap64 (Int.tdiv (wrap64 (a0)) 65536)) * (wrap64 (Int.tdiv (wrap64 (a1)) 65536)))) + (wrap64 (Int.tdiv (wrap64 ((wrap64 ((wrap64 ((Int.tmod (wrap64 (a0)) 65536) * (wrap64 (Int.tdiv (wrap64 (a1)) 65536)))) + (wrap64 ((wrap64 (Int.tdiv (wrap64 (a0)) 65536)) * (Int.tmod (wrap64 (a1)) 65536))))) + (wrap64 (Int.tdiv (wrap64 ((Int.tmod (wrap64 (a0)) 65536) * (Int.tmod (wrap64 (a1)) 65536))) 65536)))) 65536)))) + 17179869184)) 4294967296) % 4294967296)) = some (r1, r2) := by rw [if_pos rfl] at H; exact H
    clear H
    have H := H1
    clear H1
    simp only [Option.some.injEq, Prod.mk.injEq] at H
    obtain ⟨rfl, rfl⟩ := H
    go_enter Try.func20, Try.ntmps20
    go_wp2
    go_ret2
    exact ⟨by first | rfl | (simp; done) | (simp [*]; done), by repeat (first | exact Drawn0.refl _ | apply Drawn0.step)⟩
  · replace c4 := Bool.eq_false_iff.mpr c4
    subst c4
    have H1 : ((rivetref01_signed.f a0).bind fun t119 => (if t119 < 0 then ((rivetref01_signed.f a1).bind fun t120 => (if t120 < 0 then (some ((wrap64 ((Int.tmod (wrap64 ((Int.tmod (wrap64 (a0)) 65536) * (Int.tmod (wrap64 (a1)) 65536))) 65536) + (wrap64 ((Int.tmod (wrap64 ((wrap64 ((wrap64 ((Int.tmod (wrap64 (a0)) 65536) * (wrap64 (Int.tdiv (wrap64 (a1)) 65536)))) + (wrap64 ((wrap64 (Int.tdiv (wrap64 (a0)) 65536)) * (Int.tmod (wrap64 (a1)) 65536))))) + (wrap64 (Int.tdiv (wrap64 ((Int.tmod (wrap64 (a0)) 65536) * (Int.tmod (wrap64 (a1)) 65536))) 65536)))) 65536) * 65536)))) % 4294967296, (Int.tmod (wrap64 ((wrap64 ((wrap64 ((wrap64 ((wrap64 ((wrap64 (Int.tdiv (wrap64 (a0)) 65536)) * (wrap64 (Int.tdiv (wrap64 (a1)) 65536)))) + (wrap64 (Int.tdiv (wrap64 ((wrap64 ((wrap64 ((Int.tmod (wrap64 (a0)) 65536) * (wrap64 (Int.tdiv (wrap64 (a1)) 65536)))) + (wrap64 ((wrap64 (Int.tdiv (wrap64 (a0)) 65536)) * (Int.tmod (wrap64 (a1)) 65536))))) + (wrap64 (Int.tdiv (wrap64 ((Int.tmod (wrap64 (a0)) 65536) * (Int.tmod (wrap64 (a1)) 65536))) 65536)))) 65536)))) - (wrap64 (a1)))) - (wrap64 (a0)))) + 17179869184)) 4294967296) % 4294967296)) else (some ((wrap64 ((Int.tmod (wrap64 ((Int.tmod (wrap64 (a0)) 65536) * (Int.tmod (wrap64 (a1)) 65536))) 65536) + (wrap64 ((Int.tmod (wrap64 ((wrap64 ((wrap64 ((Int.tmod (wrap64 (a0)) 65536) * (wrap64 (Int.tdiv (wrap64 (a1)) 65536)))) + (wrap64 ((wrap64 (Int.tdiv (wrap64 (a0)) 65536)) * (Int.tmod (wrap64 (a1)) 65536))))) + (wrap64 (Int.tdiv (wrap64 ((Int.tmod (wrap64 (a0)) 65536) * (Int.tmod (wrap64 (a1)) 65536))) 65536)))) 65536) * 65536)))) % 4294967296, (Int.tmod (wrap64 ((wrap64 ((wrap64 ((wrap64 ((wrap64 (Int.tdiv (wrap64 (a0)) 65536)) * (wrap64 (Int.tdiv (wrap64 (a1)) 65536)))) + (wrap64 (Int.tdiv (wrap64 ((wrap64 ((wrap64 ((Int.tmod (wrap64 (a0)) 65536) * (wrap64 (Int.tdiv (wrap64 (a1)) 65536)))) + (wrap64 ((wrap64 (Int.tdiv (wrap64 (a0)) 65536)) * (Int.tmod (wrap64 (a1)) 65536))))) + (wrap64 (Int.tdiv (wrap64 ((Int.tmod (wrap64 (a0)) 65536) * (Int.tmod (wrap64 (a1)) 65536))) 65536)))) 65536)))) - (wrap64 (a1)))) + 17179869184)) 4294967296) % 4294967296)))) else ((rivetref01_signed.f a1).bind fun t121 => (if t121 < 0 then (some ((wrap64 ((Int.tmod (wrap64 ((Int.tmod (wrap64 (a0)) 65536) * (Int.tmod (wrap64 (a1)) 65536))) 65536) + (wrap64 ((Int.tmod (wrap64 ((wrap64 ((wrap64 ((Int.tmod (wrap64 (a0)) 65536) * (wrap64 (Int.tdiv (wrap64 (a1)) 65536)))) + (wrap64 ((wrap64 (Int.tdiv (wrap64 (a0)) 65536)) * (Int.tmod (wrap64 (a1)) 65536))))) + (wrap64 (Int.tdiv (wrap64 ((Int.tmod (wrap64 (a0)) 65536) * (Int.tmod (wrap64 (a1)) 65536))) 65536)))) 65536) * 65536)))) % 4294967296, (Int.tmod (wrap64 ((wrap64 ((wrap64 ((wrap64 ((wrap64 (Int.tdiv (wrap64 (a0)) 65536)) * (wrap64 (Int.tdiv (wrap64 (a1)) 65536)))) + (wrap64 (Int.tdiv (wrap64 ((wrap64 ((wrap64 ((Int.tmod (wrap64 (a0)) 65536) * (wrap64 (Int.tdiv (wrap64 (a1)) 65536)))) + (wrap64 ((wrap64 (Int.tdiv (wrap64 (a0)) 65536)) * (Int.tmod (wrap64 (a1)) 65536))))) + (wrap64 (Int.tdiv (wrap64 ((Int.tmod (wrap64 (a0)) 65536) * (Int.tmod (wrap64 (a1)) 65536))) 65536)))) 65536)))) - (wrap64 (a0)))) + 17179869184)) 4294967296) % 4294967296)) else (some ((wrap64 ((Int.tmod (wrap64 ((Int.tmod (wrap64 (a0)) 65536) * (Int.tmod (wrap64 (a1)) 65536))) 65536) + (wrap64 ((Int.tmod (wrap64 ((wrap64 ((wrap64 ((Int.tmod (wrap64 (a0)) 65536) * (wrap64 (Int.tdiv (wrap64 (a1)) 65536)))) + (wrap64 ((wrap64 (Int.tdiv (wrap64 (a0)) 65536)) * (Int.tmod (wrap64 (a1)) 65536))))) + (wrap64 (Int.tdiv (wrap64 ((Int.tmod (wrap64 (a0)) 65536) * (Int.tmod (wrap64 (a1)) 65536))) 65536)))) 65536) * 65536)))) % 4294967296, (Int.tmod (wrap64 ((wrap64 ((wrap64 ((wrap64 (Int.tdiv (wrap64 (a0)) 65536)) * (wrap64 (Int.tdiv (wrap64 (a1)) 65536)))) + (wrap64 (Int.tdiv (wrap64 ((wrap64 ((wrap64 ((Int.tmod (wrap64 (a0)) 65536) * (wrap64 (Int.tdiv (wrap64 (a1)) 65536)))) + (wrap64 ((wrap64 (Int.tdiv (wrap64 (a0)) 65536)) * (Int.tmod (wrap64 (a1)) 65536))))) + (wrap64 (Int.tdiv (wrap64 ((Int.tmod (wrap64 (a0)) 65536) * (Int.tmod (wrap64 (a1)) 65536))) 65536)))) 65536)))) + 17179869184)) 4294967296) % 4294967296)))))) = some (r1, r2) := by rw [if_neg (show ¬ (false = true) by decide)] at H; exact H
    clear H
    have H := H1
    clear H1
    replace H := Option.bind_eq_some_iff.mp H
    obtain ⟨t119, A50, H⟩ := H
    replace H : (if t119 < 0 then ((rivetref01_signed.f a1).bind fun t120 => (if t120 < 0 then (some ((wrap64 ((Int.tmod (wrap64 ((Int.tmod (wrap64 (a0)) 65536) * (Int.tmod (wrap64 (a1)) 65536))) 65536) + (wrap64 ((Int.tmod (wrap64 ((wrap64 ((wrap64 ((Int.tmod (wrap64 (a0)) 65536) * (wrap64 (Int.tdiv (wrap64 (a1)) 65536)))) + (wrap64 ((wrap64 (Int.tdiv (wrap64 (a0)) 65536)) * (Int.tmod (wrap64 (a1)) 65536))))) + (wrap64 (Int.tdiv (wrap64 ((Int.tmod (wrap64 (a0)) 65536) * (Int.tmod (wrap64 (a1)) 65536))) 65536)))) 65536) * 65536)))) % 4294967296, (Int.tmod (wrap64 ((wrap64 ((wrap64 ((wrap64 ((wrap64 ((wrap64 (Int.tdiv (wrap64 (a0)) 65536)) * (wrap64 (Int.tdiv (wrap64 (a1)) 65536)))) + (wrap64 (Int.tdiv (wrap64 ((wrap64 ((wrap64 ((Int.tmod (wrap64 (a0)) 65536) * (wrap64 (Int.tdiv (wrap64 (a1)) 65536)))) + (wrap64 ((wrap64 (Int.tdiv (wrap64 (a0)) 65536)) * (Int.tmod (wrap64 (a1)) 65536))))) + (wrap64 (Int.tdiv (wrap64 ((Int.tmod (wrap64 (a0)) 65536) * (Int.tmod (wrap64 (a1)) 65536))) 65536)))) 65536)))) - (wrap64 (a1)))) - (wrap64 (a0)))) + 17179869184)) 4294967296) % 4294967296)) else (some ((wrap64 ((Int.tmod (wrap64 ((Int.tmod (wrap64 (a0)) 65536) * (Int.tmod (wrap64 (a1)) 65536))) 65536) + (wrap64 ((Int.tmod (wrap64 ((wrap64 ((wrap64 ((Int.tmod (wrap64 (a0)) 65536) * (wrap64 (Int.tdiv (wrap64 (a1)) 65536)))) + (wrap64 ((wrap64 (Int.tdiv (wrap64 (a0)) 65536)) * (Int.tmod (wrap64 (a1)) 65536))))) + (wrap64 (Int.tdiv (wrap64 ((Int.tmod (wrap64 (a0)) 65536) * (Int.tmod (wrap64 (a1)) 65536))) 65536)))) 65536) * 65536)))) % 4294967296, (Int.tmod (wrap64 ((wrap64 ((wrap64 ((wrap64 ((wrap64 (Int.tdiv (wrap64 (a0)) 65536)) * (wrap64 (Int.tdiv (wrap64 (a1)) 65536)))) + (wrap64 (Int.tdiv (wrap64 ((wrap64 ((wrap64 ((Int.tmod (wrap64 (a0)) 65536) * (wrap64 (Int.tdiv (wrap64 (a1)) 65536)))) + (wrap64 ((wrap64 (Int.tdiv (wrap64 (a0)) 65536)) * (Int.tmod (wrap64 (a1)) 65536))))) + (wrap64 (Int.tdiv (wrap64 ((Int.tmod (wrap64 (a0)) 65536) * (Int.tmod (wrap64 (a1)) 65536))) 65536)))) 65536)))) - (wrap64 (a1)))) + 17179869184)) 4294967296) % 4294967296)))) else ((rivetref01_signed.f a1).bind fun t121 => (if t121 < 0 then (some ((wrap64 ((Int.tmod (wrap64 ((Int.tmod (wrap64 (a0)) 65536) * (Int.tmod (wrap64 (a1)) 65536))) 65536) + (wrap64 ((Int.tmod (wrap64 ((wrap64 ((wrap64 ((Int.tmod (wrap64 (a0)) 65536) * (wrap64 (Int.tdiv (wrap64 (a1)) 65536)))) + (wrap64 ((wrap64 (Int.tdiv (wrap64 (a0)) 65536)) * (Int.tmod (wrap64 (a1)) 65536))))) + (wrap64 (Int.tdiv (wrap64 ((Int.tmod (wrap64 (a0)) 65536) * (Int.tmod (wrap64 (a1)) 65536))) 65536)))) 65536) * 65536)))) % 4294967296, (Int.tmod (wrap64 ((wrap64 ((wrap64 ((wrap64 ((wrap64 (Int.tdiv (wrap64 (a0)) 65536)) * (wrap64 (Int.tdiv (wrap64 (a1)) 65536)))) + (wrap64 (Int.tdiv (wrap64 ((wrap64 ((wrap64 ((Int.tmod (wrap64 (a0)) 65536) * (wrap64 (Int.tdiv (wrap64 (a1)) 65536)))) + (wrap64 ((wrap64 (Int.tdiv (wrap64 (a0)) 65536)) * (Int.tmod (wrap64 (a1)) 65536))))) + (wrap64 (Int.tdiv (wrap64 ((Int.tmod (wrap64 (a0)) 65536) * (Int.tmod (wrap64 (a1)) 65536))) 65536)))) 65536)))) - (wrap64 (a0)))) + 17179869184)) 4294967296) % 4294967296)) else (some ((wrap64 ((Int.tmod (wrap64 ((Int.tmod (wrap64 (a0)) 65536) * (Int.tmod (wrap64 (a1)) 65536))) 65536) + (wrap64 ((Int.tmod (wrap64 ((wrap64 ((wrap64 ((Int.tmod (wrap64 (a0)) 65536) * (wrap64 (Int.tdiv (wrap64 (a1)) 65536)))) + (wrap64 ((wrap64 (Int.tdiv (wrap64 (a0)) 65536)) * (Int.tmod (wrap64 (a1)) 65536))))) + (wrap64 (Int.tdiv (wrap64 ((Int.tmod (wrap64 (a0)) 65536) * (Int.tmod (wrap64 (a1)) 65536))) 65536)))) 65536) * 65536)))) % 4294967296, (Int.tmod (wrap64 ((wrap64 ((wrap64 ((wrap64 (Int.tdiv (wrap64 (a0)) 65536)) * (wrap64 (Int.tdiv (wrap64 (a1)) 65536)))) + (wrap64 (Int.tdiv (wrap64 ((wrap64 ((wrap64 ((Int.tmod (wrap64 (a0)) 65536) * (wrap64 (Int.tdiv (wrap64 (a1)) 65536)))) + (wrap64 ((wrap64 (Int.tdiv (wrap64 (a0)) 65536)) * (Int.tmod (wrap64 (a1)) 65536))))) + (wrap64 (Int.tdiv (wrap64 ((Int.tmod (wrap64 (a0)) 65536) * (Int.tmod (wrap64 (a1)) 65536))) 65536)))) 65536)))) + 17179869184)) 4294967296) % 4294967296))))) = some (r1, r2) := H
    have A5 := Aside0.mk A50
    clear A50
    by_cases c6 : t119 < 0
    · rw [if_pos c6] at H
      have c6b0 : decide (t119 < 0) = true := decide_eq_true c6
      clear c6
      replace H := Option.bind_eq_some_iff.mp H
      obtain ⟨t120, A70, H⟩ := H
      replace H : (if t120 < 0 then (some ((wrap64 ((Int.tmod (wrap64 ((Int.tmod (wrap64 (a0)) 65536) * (Int.tmod (wrap64 (a1)) 65536))) 65536) + (wrap64 ((Int.tmod (wrap64 ((wrap64 ((wrap64 ((Int.tmod (wrap64 (a0)) 65536) * (wrap64 (Int.tdiv (wrap64 (a1)) 65536)))) + (wrap64 ((wrap64 (Int.tdiv (wrap64 (a0)) 65536)) * (Int.tmod (wrap64 (a1)) 65536))))) + (wrap64 (Int.tdiv (wrap64 ((Int.tmod (wrap64 (a0)) 65536) * (Int.tmod (wrap64 (a1)) 65536))) 65536)))) 65536) * 65536)))) % 4294967296, (Int.tmod (wrap64 ((wrap64 ((wrap64 ((wrap64 ((wrap64 ((wrap64 (Int.tdiv (wrap64 (a0)) 65536)) * (wrap64 (Int.tdiv (wrap64 (a1)) 65536)))) + (wrap64 (Int.tdiv (wrap64 ((wrap64 ((wrap64 ((Int.tmod (wrap64 (a0)) 65536) * (wrap64 (Int.tdiv (wrap64 (a1)) 65536)))) + (wrap64 ((wrap64 (Int.tdiv (wrap64 (a0)) 65536)) * (Int.tmod (wrap64 (a1)) 65536))))) + (wrap64 (Int.tdiv (wrap64 ((Int.tmod (wrap64 (a0)) 65536) * (Int.tmod (wrap64 (a1)) 65536))) 65536)))) 65536)))) - (wrap64 (a1)))) - (wrap64 (a0)))) + 17179869184)) 4294967296) % 4294967296)) else (some ((wrap64 ((Int.tmod (wrap64 ((Int.tmod (wrap64 (a0)) 65536) * (Int.tmod (wrap64 (a1)) 65536))) 65536) + (wrap64 ((Int.tmod (wrap64 ((wrap64 ((wrap64 ((Int.tmod (wrap64 (a0)) 65536) * (wrap64 (Int.tdiv (wrap64 (a1)) 65536)))) + (wrap64 ((wrap64 (Int.tdiv (wrap64 (a0)) 65536)) * (Int.tmod (wrap64 (a1)) 65536))))) + (wrap64 (Int.tdiv (wrap64 ((Int.tmod (wrap64 (a0)) 65536) * (Int.tmod (wrap64 (a1)) 65536))) 65536)))) 65536) * 65536)))) % 4294967296, (Int.tmod (wrap64 ((wrap64 ((wrap64 ((wrap64 ((wrap64 (Int.tdiv (wrap64 (a0)) 65536)) * (wrap64 (Int.tdiv (wrap64 (a1)) 65536)))) + (wrap64 (Int.tdiv (wrap64 ((wrap64 ((wrap64 ((Int.tmod (wrap64 (a0)) 65536) * (wrap64 (Int.tdiv (wrap64 (a1)) 65536)))) + (wrap64 ((wrap64 (Int.tdiv (wrap64 (a0)) 65536)) * (Int.tmod (wrap64 (a1)) 65536))))) + (wrap64 (Int.tdiv (wrap64 ((Int.tmod (wrap64 (a0)) 65536) * (Int.tmod (wrap64 (a1)) 65536))) 65536)))) 65536)))) - (wrap64 (a1)))) + 17179869184)) 4294967296) % 4294967296))) = some (r1, r2) := H
      have A7 := Aside0.mk A70
      clear A70
      by_cases c8 : t120 < 0
      · rw [if_pos c8] at H
        have c8b0 : decide (t120 < 0) = true := decide_eq_true c8
        clear c8
        simp only [Option.some.injEq, Prod.mk.injEq] at H
        obtain ⟨rfl, rfl⟩ := H
        go_enter Try.func20, Try.ntmps20
        go_wp2_with (first | ((with_reducible refine gate_callee (f := 22) rfl ?_); refine goesL_ (some 55) rfl rfl Try.func22 (by kernel_rfl) rfl #[.int .u32 a0] rfl (by (try simp only [List.map_toArray, List.map_cons, List.map_nil]); first | done | rfl | (simp only [List.length_drop, List.length_take]; rfl)) ?_; (with_reducible refine (rivetref01_signed.calls a0 t119 _ A5.out).mono ?_); rintro e w' ⟨rfl, ⟨nd, rfl⟩⟩; refine ⟨_, rfl, ?_⟩) | ((with_reducible refine gate_callee (f := 22) rfl ?_); refine goesL_ (some 62) rfl rfl Try.func22 (by kernel_rfl) rfl #[.int .u32 a1] rfl (by (try simp only [List.map_toArray, List.map_cons, List.map_nil]); first | done | rfl | (simp only [List.length_drop, List.length_take]; rfl)) ?_; (with_reducible refine (rivetref01_signed.calls a1 t120 _ A7.out).mono ?_); rintro e w' ⟨rfl, ⟨nd, rfl⟩⟩; refine ⟨_, rfl, ?_⟩))
        go_ret2
        exact ⟨by first | rfl | (simp; done) | (simp [*]; done), by repeat (first | exact Drawn0.refl _ | apply Drawn0.step)⟩
      · rw [if_neg c8] at H
        have c8b0 : decide (t120 < 0) = false := decide_eq_false c8
        clear c8
        simp only [Option.some.injEq, Prod.mk.injEq] at H
        obtain ⟨rfl, rfl⟩ := H
        go_enter Try.func20, Try.ntmps20
        go_wp2_with (first | ((with_reducible refine gate_callee (f := 22) rfl ?_); refine goesL_ (some 55) rfl rfl Try.func22 (by kernel_rfl) rfl #[.int .u32 a0] rfl (by (try simp only [List.map_toArray, List.map_cons, List.map_nil]); first | done | rfl | (simp only [List.length_drop, List.length_take]; rfl)) ?_; (with_reducible refine (rivetref01_signed.calls a0 t119 _ A5.out).mono ?_); rintro e w' ⟨rfl, ⟨nd, rfl⟩⟩; refine ⟨_, rfl, ?_⟩) | ((with_reducible refine gate_callee (f := 22) rfl ?_); refine goesL_ (some 62) rfl rfl Try.func22 (by kernel_rfl) rfl #[.int .u32 a1] rfl (by (try simp only [List.map_toArray, List.map_cons, List.map_nil]); first | done | rfl | (simp only [List.length_drop, List.length_take]; rfl)) ?_; (with_reducible refine (rivetref01_signed.calls a1 t120 _ A7.out).mono ?_); rintro e w' ⟨rfl, ⟨nd, rfl⟩⟩; refine ⟨_, rfl, ?_⟩))
        go_ret2
        exact ⟨by first | rfl | (simp; done) | (simp [*]; done), by repeat (first | exact Drawn0.refl _ | apply Drawn0.step)⟩
    · rw [if_neg c6] at H
      have c6b0 : decide (t119 < 0) = false := decide_eq_false c6
      clear c6
      replace H := Option.bind_eq_some_iff.mp H
      obtain ⟨t121, A90, H⟩ := H
      replace H : (if t121 < 0 then (some ((wrap64 ((Int.tmod (wrap64 ((Int.tmod (wrap64 (a0)) 65536) * (Int.tmod (wrap64 (a1)) 65536))) 65536) + (wrap64 ((Int.tmod (wrap64 ((wrap64 ((wrap64 ((Int.tmod (wrap64 (a0)) 65536) * (wrap64 (Int.tdiv (wrap64 (a1)) 65536)))) + (wrap64 ((wrap64 (Int.tdiv (wrap64 (a0)) 65536)) * (Int.tmod (wrap64 (a1)) 65536))))) + (wrap64 (Int.tdiv (wrap64 ((Int.tmod (wrap64 (a0)) 65536) * (Int.tmod (wrap64 (a1)) 65536))) 65536)))) 65536) * 65536)))) % 4294967296, (Int.tmod (wrap64 ((wrap64 ((wrap64 ((wrap64 ((wrap64 (Int.tdiv (wrap64 (a0)) 65536)) * (wrap64 (Int.tdiv (wrap64 (a1)) 65536)))) + (wrap64 (Int.tdiv (wrap64 ((wrap64 ((wrap64 ((Int.tmod (wrap64 (a0)) 65536) * (wrap64 (Int.tdiv (wrap64 (a1)) 65536)))) + (wrap64 ((wrap64 (Int.tdiv (wrap64 (a0)) 65536)) * (Int.tmod (wrap64 (a1)) 65536))))) + (wrap64 (Int.tdiv (wrap64 ((Int.tmod (wrap64 (a0)) 65536) * (Int.tmod (wrap64 (a1)) 65536))) 65536)))) 65536)))) - (wrap64 (a0)))) + 17179869184)) 4294967296) % 4294967296)) else (some ((wrap64 ((Int.tmod (wrap64 ((Int.tmod (wrap64 (a0)) 65536) * (Int.tmod (wrap64 (a1)) 65536))) 65536) + (wrap64 ((Int.tmod (wrap64 ((wrap64 ((wrap64 ((Int.tmod (wrap64 (a0)) 65536) * (wrap64 (Int.tdiv (wrap64 (a1)) 65536)))) + (wrap64 ((wrap64 (Int.tdiv (wrap64 (a0)) 65536)) * (Int.tmod (wrap64 (a1)) 65536))))) + (wrap64 (Int.tdiv (wrap64 ((Int.tmod (wrap64 (a0)) 65536) * (Int.tmod (wrap64 (a1)) 65536))) 65536)))) 65536) * 65536)))) % 4294967296, (Int.tmod (wrap64 ((wrap64 ((wrap64 ((wrap64 (Int.tdiv (wrap64 (a0)) 65536)) * (wrap64 (Int.tdiv (wrap64 (a1)) 65536)))) + (wrap64 (Int.tdiv (wrap64 ((wrap64 ((wrap64 ((Int.tmod (wrap64 (a0)) 65536) * (wrap64 (Int.tdiv (wrap64 (a1)) 65536)))) + (wrap64 ((wrap64 (Int.tdiv (wrap64 (a0)) 65536)) * (Int.tmod (wrap64 (a1)) 65536))))) + (wrap64 (Int.tdiv (wrap64 ((Int.tmod (wrap64 (a0)) 65536) * (Int.tmod (wrap64 (a1)) 65536))) 65536)))) 65536)))) + 17179869184)) 4294967296) % 4294967296))) = some (r1, r2) := H
      have A9 := Aside0.mk A90
      clear A90
      by_cases c10 : t121 < 0
      · rw [if_pos c10] at H
        have c10b0 : decide (t121 < 0) = true := decide_eq_true c10
        clear c10
        simp only [Option.some.injEq, Prod.mk.injEq] at H
        obtain ⟨rfl, rfl⟩ := H
        go_enter Try.func20, Try.ntmps20
        go_wp2_with (first | ((with_reducible refine gate_callee (f := 22) rfl ?_); refine goesL_ (some 55) rfl rfl Try.func22 (by kernel_rfl) rfl #[.int .u32 a0] rfl (by (try simp only [List.map_toArray, List.map_cons, List.map_nil]); first | done | rfl | (simp only [List.length_drop, List.length_take]; rfl)) ?_; (with_reducible refine (rivetref01_signed.calls a0 t119 _ A5.out).mono ?_); rintro e w' ⟨rfl, ⟨nd, rfl⟩⟩; refine ⟨_, rfl, ?_⟩) | ((with_reducible refine gate_callee (f := 22) rfl ?_); refine goesL_ (some 62) rfl rfl Try.func22 (by kernel_rfl) rfl #[.int .u32 a1] rfl (by (try simp only [List.map_toArray, List.map_cons, List.map_nil]); first | done | rfl | (simp only [List.length_drop, List.length_take]; rfl)) ?_; (with_reducible refine (rivetref01_signed.calls a1 t121 _ A9.out).mono ?_); rintro e w' ⟨rfl, ⟨nd, rfl⟩⟩; refine ⟨_, rfl, ?_⟩))
        go_ret2
        exact ⟨by first | rfl | (simp; done) | (simp [*]; done), by repeat (first | exact Drawn0.refl _ | apply Drawn0.step)⟩
      · rw [if_neg c10] at H
        have c10b0 : decide (t121 < 0) = false := decide_eq_false c10
        clear c10
        simp only [Option.some.injEq, Prod.mk.injEq] at H
        obtain ⟨rfl, rfl⟩ := H
        go_enter Try.func20, Try.ntmps20
        go_wp2_with (first | ((with_reducible refine gate_callee (f := 22) rfl ?_); refine goesL_ (some 55) rfl rfl Try.func22 (by kernel_rfl) rfl #[.int .u32 a0] rfl (by (try simp only [List.map_toArray, List.map_cons, List.map_nil]); first | done | rfl | (simp only [List.length_drop, List.length_take]; rfl)) ?_; (with_reducible refine (rivetref01_signed.calls a0 t119 _ A5.out).mono ?_); rintro e w' ⟨rfl, ⟨nd, rfl⟩⟩; refine ⟨_, rfl, ?_⟩) | ((with_reducible refine gate_callee (f := 22) rfl ?_); refine goesL_ (some 62) rfl rfl Try.func22 (by kernel_rfl) rfl #[.int .u32 a1] rfl (by (try simp only [List.map_toArray, List.map_cons, List.map_nil]); first | done | rfl | (simp only [List.length_drop, List.length_take]; rfl)) ?_; (with_reducible refine (rivetref01_signed.calls a1 t121 _ A9.out).mono ?_); rintro e w' ⟨rfl, ⟨nd, rfl⟩⟩; refine ⟨_, rfl, ?_⟩))
        go_ret2
        exact ⟨by first | rfl | (simp; done) | (simp [*]; done), by repeat (first | exact Drawn0.refl _ | apply Drawn0.step)⟩

/-! ### rivetref01_Shift: function 21 -/
def rivetref01_Shift.l0 : Nat → Int → Int → Int → Int → Option (Int)
  | 0, _, _, _, _ => none
  | k + 1, x0, x1, x2, x7 => if x7 < (wrap64 (Int.tmod x2 32)) then (if x0 = 1 then (rivetref01_Shift.l0 k x0 ((Int.tmod (wrap64 ((wrap64 (x1)) * 2)) 4294967296) % 4294967296) x2 (wrap64 (x7 + 1))) else (if x0 = 2 then (rivetref01_Shift.l0 k x0 ((((Int.tdiv x1 2) % 4294967296) + ((((Int.tdiv x1 2147483648) % 4294967296) * 2147483648) % 4294967296)) % 4294967296) x2 (wrap64 (x7 + 1))) else (if x0 = 3 then (rivetref01_Shift.l0 k x0 ((((Int.tdiv x1 2) % 4294967296) + (((Int.tmod x1 2) * 2147483648) % 4294967296)) % 4294967296) x2 (wrap64 (x7 + 1))) else (rivetref01_Shift.l0 k x0 x1 x2 (wrap64 (x7 + 1)))))) else (some x1)
def rivetref01_Shift.f (k : Nat) (a0 : Int) (a1 : Int) (a2 : Int) : Option (Int) := rivetref01_Shift.l0 k a0 a1 a2 0
theorem rivetref01_Shift.mono_l : ∀ k, (∀ y0 y1 y2 y3, LeO (rivetref01_Shift.l0 k y0 y1 y2 y3) (rivetref01_Shift.l0 (k + 1) y0 y1 y2 y3))
  | 0 => fun _ _ _ _ r h => by simp [rivetref01_Shift.l0] at h
  | k + 1 => by
    have ih0 := rivetref01_Shift.mono_l k
    · intro y0 y1 y2 y3
      unfold rivetref01_Shift.l0
      repeat' first
      | (with_reducible exact ih0 _ _ _ _)
      | (with_reducible exact LeO.refl _)
      | (with_reducible exact LeO.none _)
      | (with_reducible refine LeO.ite ?_ ?_)
      | (with_reducible refine LeO.bind ?_ (fun _ => ?_))
      | exact ih0 _ _ _ _
      | exact LeO.none _
      | refine LeO.ite ?_ ?_
      | refine LeO.bind ?_ (fun _ => ?_)
theorem rivetref01_Shift.mono : ∀ a0 a1 a2 k, LeO (rivetref01_Shift.f k a0 a1 a2) (rivetref01_Shift.f (k + 1) a0 a1 a2) := by
  intro a0 a1 a2 k
  have ih0 := rivetref01_Shift.mono_l k
  unfold rivetref01_Shift.f
  repeat' first
      | (with_reducible exact ih0 _ _ _ _)
      | (with_reducible exact LeO.refl _)
      | (with_reducible exact LeO.none _)
      | (with_reducible refine LeO.ite ?_ ?_)
      | (with_reducible refine LeO.bind ?_ (fun _ => ?_))
      | exact ih0 _ _ _ _
      | exact LeO.none _
      | refine LeO.ite ?_ ?_
      | refine LeO.bind ?_ (fun _ => ?_)
set_option maxHeartbeats 8000000 in
set_option maxRecDepth 100000 in
theorem rivetref01_Shift.calls (k : Nat) (a0 : Int) (a1 : Int) (a2 : Int) (r : Int) (w : World) (h : rivetref01_Shift.f k a0 a1 a2 = some r) :
    Calls Try.prog 21 #[.int .i64 a0, .int .u32 a1, .int .u32 a2] w fun e w' => e = .returned (.int .u32 r) ∧ Drawn0 w w' := by
  have H : (rivetref01_Shift.l0 k a0 a1 a2 0) = some r := h
  clear h
  have H' := Aside0.mk H
  clear H
  go_enter Try.func21, Try.ntmps21
  go_wp2
  go_loopg [1, 7] k (fun kq v1 v7 w' => ∃ (x1_1 : Int) (x7_1 : Int), v1 = .int .u32 x1_1 ∧ v7 = .int .i64 x7_1 ∧ Aside0 (rivetref01_Shift.l0 kq a0 x1_1 a2 x7_1 = some r) ∧ Aside0 (kq ≤ k) ∧ Drawn0 w w')
  case atStart => exact ⟨(a1), (0), (by first | rfl | (simp; done) | (simp [*]; done)), (by first | rfl | (simp; done) | (simp [*]; done)), H', ⟨Nat.le_refl _⟩, by repeat (first | exact Drawn0.refl _ | apply Drawn0.step)⟩
  case round =>
    clear H'
    try clear c2
    try clear p2
    obtain ⟨x1_1, x7_1, rfl, rfl, HA, HK1, ⟨m1, rfl⟩⟩ := hrel
    cases gk with
    | zero => exact absurd HA.out (by simp [rivetref01_Shift.l0])
    | succ k1 =>
      have H := HA.out
      clear HA
      simp only [rivetref01_Shift.l0] at H
      by_cases c4 : x7_1 < (wrap64 (Int.tmod a2 32))
      · rw [if_pos c4] at H
        have c4b0 : decide (x7_1 < (wrap64 (Int.tmod a2 32))) = true := decide_eq_true c4
        clear c4
        by_cases c5 : a0 = 1
        · rw [if_pos c5] at H
          have c5b0 : (a0 == 1) = true := beq_iff_eq.mpr c5
          have c5b1 : (a0 != 1) = false := bne_eq_false_iff_eq.mpr c5
          clear c5
          have H' := Aside0.mk H
          clear H
          go_wp2
          go_roundg k1
          case measure => have := HK1.out; omega
          case rel => exact ⟨((Int.tmod (wrap64 ((wrap64 (x1_1)) * 2)) 4294967296) % 4294967296), (wrap64 (x7_1 + 1)), (by first | rfl | (simp; done) | (simp [*]; done)), (by first | rfl | (simp; done) | (simp [*]; done)), H', ⟨by have := HK1.out; omega⟩, by repeat (first | exact Drawn0.refl _ | apply Drawn0.step)⟩
        · rw [if_neg c5] at H
          have c5b0 : (a0 == 1) = false := beq_eq_false_iff_ne.mpr c5
          have c5b1 : (a0 != 1) = true := bne_iff_ne.mpr c5
          by_cases c6 : a0 = 2
          · rw [if_pos c6] at H
            have c6b0 : (a0 == 2) = true := beq_iff_eq.mpr c6
            have c6b1 : (a0 != 2) = false := bne_eq_false_iff_eq.mpr c6
            clear c6
            have H' := Aside0.mk H
            clear H
            go_wp2
            go_roundg k1
            case measure => have := HK1.out; omega
            case rel => exact ⟨((((Int.tdiv x1_1 2) % 4294967296) + ((((Int.tdiv x1_1 2147483648) % 4294967296) * 2147483648) % 4294967296)) % 4294967296), (wrap64 (x7_1 + 1)), (by first | rfl | (simp; done) | (simp [*]; done)), (by first | rfl | (simp; done) | (simp [*]; done)), H', ⟨by have := HK1.out; omega⟩, by repeat (first | exact Drawn0.refl _ | apply Drawn0.step)⟩
          · rw [if_neg c6] at H
            have c6b0 : (a0 == 2) = false := beq_eq_false_iff_ne.mpr c6
            have c6b1 : (a0 != 2) = true := bne_iff_ne.mpr c6
            by_cases c7 : a0 = 3
            · rw [if_pos c7] at H
              have c7b0 : (a0 == 3) = true := beq_iff_eq.mpr c7
              have c7b1 : (a0 != 3) = false := bne_eq_false_iff_eq.mpr c7
              clear c7
              have H' := Aside0.mk H
              clear H
              go_wp2
              go_roundg k1
              case measure => have := HK1.out; omega
              case rel => exact ⟨((((Int.tdiv x1_1 2) % 4294967296) + (((Int.tmod x1_1 2) * 2147483648) % 4294967296)) % 4294967296), (wrap64 (x7_1 + 1)), (by first | rfl | (simp; done) | (simp [*]; done)), (by first | rfl | (simp; done) | (simp [*]; done)), H', ⟨by have := HK1.out; omega⟩, by repeat (first | exact Drawn0.refl _ | apply Drawn0.step)⟩
            · rw [if_neg c7] at H
              have c7b0 : (a0 == 3) = false := beq_eq_false_iff_ne.mpr c7
              have c7b1 : (a0 != 3) = true := bne_iff_ne.mpr c7
              have H' := Aside0.mk H
              clear H
              go_wp2
              go_roundg k1
              case measure => have := HK1.out; omega
              case rel => exact ⟨(x1_1), (wrap64 (x7_1 + 1)), (by first | rfl | (simp; done) | (simp [*]; done)), (by first | rfl | (simp; done) | (simp [*]; done)), H', ⟨by have := HK1.out; omega⟩, by repeat (first | exact Drawn0.refl _ | apply Drawn0.step)⟩
      · rw [if_neg c4] at H
        have c4b0 : decide (x7_1 < (wrap64 (Int.tmod a2 32))) = false := decide_eq_false c4
        clear c4
        obtain rfl := Option.some.inj H
        go_wp2
        go_ret
        exact ⟨by first | rfl | (simp; done) | (simp [*]; done), by repeat (first | exact Drawn0.refl _ | apply Drawn0.step)⟩

-- NOT PRINTED: function 10 (rivetlaw01_WordAll)

end Go.Proofs.Ythgnniiiekkodaa.PWordAll
