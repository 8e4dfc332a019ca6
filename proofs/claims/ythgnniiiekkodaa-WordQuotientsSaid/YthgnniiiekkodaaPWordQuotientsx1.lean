-- PRINTED BY print.sh 35421559b90ae4d0a3588c463048766b98c2df88dd9212a6774a882060cdf62d: not written by this session
import Derived.Test.YthgnniiiekkodaaPWordQuotientsx0
namespace Go.Proofs.Ythgnniiiekkodaa.PWordQuotients
open Go.RowKit Go.Proofs.YthgnniiiekkodaaW.PrintWords Go.Proofs.YthgnniiiekkodaaW.PrintLast Go.Proofs.YthgnniiiekkodaaW.PrintMore
attribute [local go_sem] max2_int min2_int max_two min_two max_three min_three max_four min_four   -- for this text's walks alone
set_option linter.unusedVariables false
set_option linter.unusedSimpArgs false

/-! ### word_Div: function 12 -/
def word_Div.f (a0 : Int) (a1 : Int) : Option (Int × Int × Bool) := if (wrap64 (wrap32 (a1))) ≤ 0 then (some (0, 0, false)) else (if (wrap64 (wrap32 (a1))) = 0 then (none) else (if (Int.tmod (wrap64 (wrap32 (a0))) (wrap64 (wrap32 (a1)))) < 0 then (some ((wrap64 ((wrap64 (Int.tdiv (wrap64 (wrap32 (a0))) (wrap64 (wrap32 (a1))))) - 1)) % 4294967296, (wrap64 ((Int.tmod (wrap64 (wrap32 (a0))) (wrap64 (wrap32 (a1)))) + (wrap64 (wrap32 (a1))))) % 4294967296, true)) else (some ((wrap64 (Int.tdiv (wrap64 (wrap32 (a0))) (wrap64 (wrap32 (a1))))) % 4294967296, (Int.tmod (wrap64 (wrap32 (a0))) (wrap64 (wrap32 (a1)))) % 4294967296, true))))
set_option maxHeartbeats 8000000 in
set_option maxRecDepth 100000 in
theorem word_Div.calls (a0 : Int) (a1 : Int) (r1 : Int) (r2 : Int) (r3 : Bool) (w : World) (h : word_Div.f a0 a1 = some (r1, r2, r3)) :
    Calls Try.prog 12 #[.int .u32 a0, .int .u32 a1] w fun e w' => e = .returned (.tuple #[.int .u32 r1, .int .u32 r2, .bool r3]) ∧ Drawn0 w w' := by
  have H : (if (wrap64 (wrap32 (a1))) ≤ 0 then (some (0, 0, false)) else (if (wrap64 (wrap32 (a1))) = 0 then (none) else (if (Int.tmod (wrap64 (wrap32 (a0))) (wrap64 (wrap32 (a1)))) < 0 then (some ((wrap64 ((wrap64 (Int.tdiv (wrap64 (wrap32 (a0))) (wrap64 (wrap32 (a1))))) - 1)) % 4294967296, (wrap64 ((Int.tmod (wrap64 (wrap32 (a0))) (wrap64 (wrap32 (a1)))) + (wrap64 (wrap32 (a1))))) % 4294967296, true)) else (some ((wrap64 (Int.tdiv (wrap64 (wrap32 (a0))) (wrap64 (wrap32 (a1))))) % 4294967296, (Int.tmod (wrap64 (wrap32 (a0))) (wrap64 (wrap32 (a1)))) % 4294967296, true))))) = some (r1, r2, r3) := h
  clear h
  by_cases c3 : (wrap64 (wrap32 (a1))) ≤ 0
  · rw [if_pos c3] at H
    have c3b0 : decide ((wrap64 (wrap32 (a1))) ≤ 0) = true := decide_eq_true c3
    clear c3
    simp only [Option.some.injEq, Prod.mk.injEq] at H
    obtain ⟨rfl, rfl, rfl⟩ := H
    go_enter Try.func12, Try.ntmps12
    go_wp2
    repeat (go_quiet (fail); try go_wp2)
    go_ret3
    exact ⟨by first | rfl | (simp; done) | (simp [*]; done), by repeat (first | exact Drawn0.refl _ | apply Drawn0.step)⟩
  · rw [if_neg c3] at H
    have c3b0 : decide ((wrap64 (wrap32 (a1))) ≤ 0) = false := decide_eq_false c3
    clear c3
    by_cases c4 : (wrap64 (wrap32 (a1))) = 0
    · rw [if_pos c4] at H
      exact absurd H (by simp)
    · rw [if_neg c4] at H
      have c4b0 : ((wrap64 (wrap32 (a1))) == 0) = false := beq_eq_false_iff_ne.mpr c4
      have c4b1 : ((wrap64 (wrap32 (a1))) != 0) = true := bne_iff_ne.mpr c4
      by_cases c5 : (Int.tmod (wrap64 (wrap32 (a0))) (wrap64 (wrap32 (a1)))) < 0
      · rw [if_pos c5] at H
        have c5b0 : decide ((Int.tmod (wrap64 (wrap32 (a0))) (wrap64 (wrap32 (a1)))) < 0) = true := decide_eq_true c5
        clear c5
        simp only [Option.some.injEq, Prod.mk.injEq] at H
        obtain ⟨rfl, rfl, rfl⟩ := H
        go_enter Try.func12, Try.ntmps12
        go_wp2
        repeat (go_quiet (fail); try go_wp2)
        go_ret3
        exact ⟨by first | rfl | (simp; done) | (simp [*]; done), by repeat (first | exact Drawn0.refl _ | apply Drawn0.step)⟩
      · rw [if_neg c5] at H
        have c5b0 : decide ((Int.tmod (wrap64 (wrap32 (a0))) (wrap64 (wrap32 (a1)))) < 0) = false := decide_eq_false c5
        clear c5
        simp only [Option.some.injEq, Prod.mk.injEq] at H
        obtain ⟨rfl, rfl, rfl⟩ := H
        go_enter Try.func12, Try.ntmps12
        go_wp2
        repeat (go_quiet (fail); try go_wp2)
        go_ret3
        exact ⟨by first | rfl | (simp; done) | (simp [*]; done), by repeat (first | exact Drawn0.refl _ | apply Drawn0.step)⟩

/-! ### rivetlaw01_shown: function 11 -/
def rivetlaw01_shown.f  : Option (Bool) := (word_Div.f 4294967289 2).bind fun bt101 => (if bt101.1 = 4294967292 then (if bt101.2.1 = 1 then (some bt101.2.2) else (some false)) else (some false))
set_option maxHeartbeats 8000000 in
set_option maxRecDepth 100000 in
theorem rivetlaw01_shown.calls  (r : Bool) (w : World) (h : rivetlaw01_shown.f  = some r) :
    Calls Try.prog 11 #[] w fun e w' => e = .returned (.bool r) ∧ Drawn0 w w' := by
  have H : ((word_Div.f 4294967289 2).bind fun bt101 => (if bt101.1 = 4294967292 then (if bt101.2.1 = 1 then (some bt101.2.2) else (some false)) else (some false))) = some r := h
  clear h
  replace H := Option.bind_eq_some_iff.mp H
  obtain ⟨⟨t101, t102, t103⟩, A10, H⟩ := H
  replace H : (if t101 = 4294967292 then (if t102 = 1 then (some t103) else (some false)) else (some false)) = some r := H
  have A1 := Aside0.mk A10
  clear A10
  by_cases c2 : t101 = 4294967292
  · rw [if_pos c2] at H
    have c2b0 : (t101 == 4294967292) = true := beq_iff_eq.mpr c2
    have c2b1 : (t101 != 4294967292) = false := bne_eq_false_iff_eq.mpr c2
    clear c2
    by_cases c3 : t102 = 1
    · rw [if_pos c3] at H
      have c3b0 : (t102 == 1) = true := beq_iff_eq.mpr c3
      have c3b1 : (t102 != 1) = false := bne_eq_false_iff_eq.mpr c3
      clear c3
      obtain rfl := Option.some.inj H
      go_enter Try.func11, Try.ntmps11
      go_wp2_with (first | ((with_reducible refine gate_callee (f := 12) rfl ?_); refine goesL_ (some 5) rfl rfl Try.func12 (by kernel_rfl) rfl #[.int .u32 4294967289, .int .u32 2] rfl (by (try simp only [List.map_toArray, List.map_cons, List.map_nil]); first | done | rfl | (simp only [List.length_drop, List.length_take]; rfl)) ?_; (with_reducible refine (word_Div.calls 4294967289 2 t101 t102 t103 _ A1.out).mono ?_); rintro e w' ⟨rfl, ⟨nd, rfl⟩⟩; refine ⟨_, rfl, ?_⟩))
      go_ret
      exact ⟨by first | rfl | (simp; done) | (simp [*]; done), by repeat (first | exact Drawn0.refl _ | apply Drawn0.step)⟩
    · rw [if_neg c3] at H
      have c3b0 : (t102 == 1) = false := beq_eq_false_iff_ne.mpr c3
      have c3b1 : (t102 != 1) = true := bne_iff_ne.mpr c3
      obtain rfl := Option.some.inj H
      go_enter Try.func11, Try.ntmps11
      go_wp2_with (first | ((with_reducible refine gate_callee (f := 12) rfl ?_); refine goesL_ (some 5) rfl rfl Try.func12 (by kernel_rfl) rfl #[.int .u32 4294967289, .int .u32 2] rfl (by (try simp only [List.map_toArray, List.map_cons, List.map_nil]); first | done | rfl | (simp only [List.length_drop, List.length_take]; rfl)) ?_; (with_reducible refine (word_Div.calls 4294967289 2 t101 t102 t103 _ A1.out).mono ?_); rintro e w' ⟨rfl, ⟨nd, rfl⟩⟩; refine ⟨_, rfl, ?_⟩))
      go_ret
      exact ⟨by first | rfl | (simp; done) | (simp [*]; done), by repeat (first | exact Drawn0.refl _ | apply Drawn0.step)⟩
  · rw [if_neg c2] at H
    have c2b0 : (t101 == 4294967292) = false := beq_eq_false_iff_ne.mpr c2
    have c2b1 : (t101 != 4294967292) = true := bne_iff_ne.mpr c2
    obtain rfl := Option.some.inj H
    go_enter Try.func11, Try.ntmps11
    go_wp2_with (first | ((with_reducible refine gate_callee (f := 12) rfl ?_); refine goesL_ (some 5) rfl rfl Try.func12 (by kernel_rfl) rfl #[.int .u32 4294967289, .int .u32 2] rfl (by (try simp only [List.map_toArray, List.map_cons, List.map_nil]); first | done | rfl | (simp only [List.length_drop, List.length_take]; rfl)) ?_; (with_reducible refine (word_Div.calls 4294967289 2 t101 t102 t103 _ A1.out).mono ?_); rintro e w' ⟨rfl, ⟨nd, rfl⟩⟩; refine ⟨_, rfl, ?_⟩))
    go_ret
    exact ⟨by first | rfl | (simp; done) | (simp [*]; done), by repeat (first | exact Drawn0.refl _ | apply Drawn0.step)⟩

/-! ### rivetlaw01_WordQuotients: function 4 -/
def rivetlaw01_WordQuotients.f (a0 : Int) (a1 : Int) : Option (Bool) := (rivetlaw01_shown.f).bind fun t104 => ((word_Div.f a0 1).bind fun bt105 => (if (((Go.bits .and .u32 a1 1073741823) + 1) % 4294967296) = 0 then (none) else ((word_Div.f (Int.tmod a0 (((Go.bits .and .u32 a1 1073741823) + 1) % 4294967296)) (((Go.bits .and .u32 a1 1073741823) + 1) % 4294967296)).bind fun bt108 => ((word_Div.f (a0 / 4) (((Go.bits .and .u32 a1 1073741823) + 1) % 4294967296)).bind fun bt111 => ((word_Div.f (((a0 / 4) + (((Go.bits .and .u32 a1 1073741823) + 1) % 4294967296)) % 4294967296) (((Go.bits .and .u32 a1 1073741823) + 1) % 4294967296)).bind fun bt114 => (if t104 = true then (if bt105.2.2 = true then (if bt105.1 = a0 then (if bt105.2.1 = 0 then (if bt108.2.2 = true then (if bt108.1 = 0 then (if bt108.2.1 = (Int.tmod a0 (((Go.bits .and .u32 a1 1073741823) + 1) % 4294967296)) then (if bt111.2.2 = true then (if bt114.2.2 = true then (if bt114.1 = ((bt111.1 + 1) % 4294967296) then (if bt114.2.1 = bt111.2.1 then (some (bt111.1 == ((Int.tdiv (a0 / 4) (((Go.bits .and .u32 a1 1073741823) + 1) % 4294967296)) % 4294967296))) else (some false)) else (some false)) else (some false)) else (some false)) else (some false)) else (some false)) else (some false)) else (some false)) else (some false)) else (some false)) else (some false)))))))
set_option maxHeartbeats 8000000 in
set_option maxRecDepth 100000 in
theorem rivetlaw01_WordQuotients.calls (a0 : Int) (a1 : Int) (r : Bool) (w : World) (h : rivetlaw01_WordQuotients.f a0 a1 = some r) :
    Calls Try.prog 4 #[.int .u32 a0, .int .u32 a1] w fun e w' => e = .returned (.bool r) ∧ Drawn0 w w' := by
  have H : ((rivetlaw01_shown.f).bind fun t104 => ((word_Div.f a0 1).bind fun bt105 => (if (((Go.bits .and .u32 a1 1073741823) + 1) % 4294967296) = 0 then (none) else ((word_Div.f (Int.tmod a0 (((Go.bits .and .u32 a1 1073741823) + 1) % 4294967296)) (((Go.bits .and .u32 a1 1073741823) + 1) % 4294967296)).bind fun bt108 => ((word_Div.f (a0 / 4) (((Go.bits .and .u32 a1 1073741823) + 1) % 4294967296)).bind fun bt111 => ((word_Div.f (((a0 / 4) + (((Go.bits .and .u32 a1 1073741823) + 1) % 4294967296)) % 4294967296) (((Go.bits .and .u32 a1 1073741823) + 1) % 4294967296)).bind fun bt114 => (if t104 = true then (if bt105.2.2 = true then (if bt105.1 = a0 then (if bt105.2.1 = 0 then (if bt108.2.2 = true then (if bt108.1 = 0 then (if bt108.2.1 = (Int.tmod a0 (((Go.bits .and .u32 a1 1073741823) + 1) % 4294967296)) then (if bt111.2.2 = true then (if bt114.2.2 = true then (if bt114.1 = ((bt111.1 + 1) % 4294967296) then (if bt114.2.1 = bt111.2.1 then (some (bt111.1 == ((Int.tdiv (a0 / 4) (((Go.bits .and .u32 a1 1073741823) + 1) % 4294967296)) % 4294967296))) else (some false)) else (some false)) else (some false)) else (some false)) else (some false)) else (some false)) else (some false)) else (some false)) else (some false)) else (some false)) else (some false)))))))) = some r := h
  clear h
  replace H := Option.bind_eq_some_iff.mp H
  obtain ⟨t104, A30, H⟩ := H
  replace H : ((word_Div.f a0 1).bind fun bt105 => (if (((Go.bits .and .u32 a1 1073741823) + 1) % 4294967296) = 0 then (none) else ((word_Div.f (Int.tmod a0 (((Go.bits .and .u32 a1 1073741823) + 1) % 4294967296)) (((Go.bits .and .u32 a1 1073741823) + 1) % 4294967296)).bind fun bt108 => ((word_Div.f (a0 / 4) (((Go.bits .and .u32 a1 1073741823) + 1) % 4294967296)).bind fun bt111 => ((word_Div.f (((a0 / 4) + (((Go.bits .and .u32 a1 1073741823) + 1) % 4294967296)) % 4294967296) (((Go.bits .and .u32 a1 1073741823) + 1) % 4294967296)).bind fun bt114 => (if t104 = true then (if bt105.2.2 = true then (if bt105.1 = a0 then (if bt105.2.1 = 0 then (if bt108.2.2 = true then (if bt108.1 = 0 then (if bt108.2.1 = (Int.tmod a0 (((Go.bits .and .u32 a1 1073741823) + 1) % 4294967296)) then (if bt111.2.2 = true then (if bt114.2.2 = true then (if bt114.1 = ((bt111.1 + 1) % 4294967296) then (if bt114.2.1 = bt111.2.1 then (some (bt111.1 == ((Int.tdiv (a0 / 4) (((Go.bits .and .u32 a1 1073741823) + 1) % 4294967296)) % 4294967296))) else (some false)) else (some false)) else (some false)) else (some false)) else (some false)) else (some false)) else (some false)) else (some false)) else (some false)) else (some false)) else (some false))))))) = some r := H
  have A3 := Aside0.mk A30
  clear A30
  replace H := Option.bind_eq_some_iff.mp H
  obtain ⟨⟨t105, t106, t107⟩, A40, H⟩ := H
  replace H : (if (((Go.bits .and .u32 a1 1073741823) + 1) % 4294967296) = 0 then (none) else ((word_Div.f (Int.tmod a0 (((Go.bits .and .u32 a1 1073741823) + 1) % 4294967296)) (((Go.bits .and .u32 a1 1073741823) + 1) % 4294967296)).bind fun bt108 => ((word_Div.f (a0 / 4) (((Go.bits .and .u32 a1 1073741823) + 1) % 4294967296)).bind fun bt111 => ((word_Div.f (((a0 / 4) + (((Go.bits .and .u32 a1 1073741823) + 1) % 4294967296)) % 4294967296) (((Go.bits .and .u32 a1 1073741823) + 1) % 4294967296)).bind fun bt114 => (if t104 = true then (if t107 = true then (if t105 = a0 then (if t106 = 0 then (if bt108.2.2 = true then (if bt108.1 = 0 then (if bt108.2.1 = (Int.tmod a0 (((Go.bits .and .u32 a1 1073741823) + 1) % 4294967296)) then (if bt111.2.2 = true then (if bt114.2.2 = true then (if bt114.1 = ((bt111.1 + 1) % 4294967296) then (if bt114.2.1 = bt111.2.1 then (some (bt111.1 == ((Int.tdiv (a0 / 4) (((Go.bits .and .u32 a1 1073741823) + 1) % 4294967296)) % 4294967296))) else (some false)) else (some false)) else (some false)) else (some false)) else (some false)) else (some false)) else (some false)) else (some false)) else (some false)) else (some false)) else (some false)))))) = some r := H
  have A4 := Aside0.mk A40
  clear A40
  by_cases c5 : (((Go.bits .and .u32 a1 1073741823) + 1) % 4294967296) = 0
  · rw [if_pos c5] at H
    exact absurd H (by simp)
  · rw [if_neg c5] at H
    have c5b0 : ((((Go.bits .and .u32 a1 1073741823) + 1) % 4294967296) == 0) = false := beq_eq_false_iff_ne.mpr c5
    have c5b1 : ((((Go.bits .and .u32 a1 1073741823) + 1) % 4294967296) != 0) = true := bne_iff_ne.mpr c5
    replace H := Option.bind_eq_some_iff.mp H
    obtain ⟨⟨t108, t109, t110⟩, A60, H⟩ := H
    replace H : ((word_Div.f (a0 / 4) (((Go.bits .and .u32 a1 1073741823) + 1) % 4294967296)).bind fun bt111 => ((word_Div.f (((a0 / 4) + (((Go.bits .and .u32 a1 1073741823) + 1) % 4294967296)) % 4294967296) (((Go.bits .and .u32 a1 1073741823) + 1) % 4294967296)).bind fun bt114 => (if t104 = true then (if t107 = true then (if t105 = a0 then (if t106 = 0 then (if t110 = true then (if t108 = 0 then (if t109 = (Int.tmod a0 (((Go.bits .and .u32 a1 1073741823) + 1) % 4294967296)) then (if bt111.2.2 = true then (if bt114.2.2 = true then (if bt114.1 = ((bt111.1 + 1) % 4294967296) then (if bt114.2.1 = bt111.2.1 then (some (bt111.1 == ((Int.tdiv (a0 / 4) (((Go.bits .and .u32 a1 1073741823) + 1) % 4294967296)) % 4294967296))) else (some false)) else (some false)) else (some false)) else (some false)) else (some false)) else (some false)) else (some false)) else (some false)) else (some false)) else (some false)) else (some false)))) = some r := H
    have A6 := Aside0.mk A60
    clear A60
    replace H := Option.bind_eq_some_iff.mp H
    obtain ⟨⟨t111, t112, t113⟩, A70, H⟩ := H
    replace H : ((word_Div.f (((a0 / 4) + (((Go.bits .and .u32 a1 1073741823) + 1) % 4294967296)) % 4294967296) (((Go.bits .and .u32 a1 1073741823) + 1) % 4294967296)).bind fun bt114 => (if t104 = true then (if t107 = true then (if t105 = a0 then (if t106 = 0 then (if t110 = true then (if t108 = 0 then (if t109 = (Int.tmod a0 (((Go.bits .and .u32 a1 1073741823) + 1) % 4294967296)) then (if t113 = true then (if bt114.2.2 = true then (if bt114.1 = ((t111 + 1) % 4294967296) then (if bt114.2.1 = t112 then (some (t111 == ((Int.tdiv (a0 / 4) (((Go.bits .and .u32 a1 1073741823) + 1) % 4294967296)) % 4294967296))) else (some false)) else (some false)) else (some false)) else (some false)) else (some false)) else (some false)) else (some false)) else (some false)) else (some false)) else (some false)) else (some false))) = some r := H
    have A7 := Aside0.mk A70
    clear A70
    replace H := Option.bind_eq_some_iff.mp H
    obtain ⟨⟨t114, t115, t116⟩, A80, H⟩ := H
    replace H : (if t104 = true then (if t107 = true then (if t105 = a0 then (if t106 = 0 then (if t110 = true then (if t108 = 0 then (if t109 = (Int.tmod a0 (((Go.bits .and .u32 a1 1073741823) + 1) % 4294967296)) then (if t113 = true then (if t116 = true then (if t114 = ((t111 + 1) % 4294967296) then (if t115 = t112 then (some (t111 == ((Int.tdiv (a0 / 4) (((Go.bits .and .u32 a1 1073741823) + 1) % 4294967296)) % 4294967296))) else (some false)) else (some false)) else (some false)) else (some false)) else (some false)) else (some false)) else (some false)) else (some false)) else (some false)) else (some false)) else (some false)) = some r := H
    have A8 := Aside0.mk A80
    clear A80
    by_cases c9 : t104 = true
    · subst c9
      have H1 : (if t107 = true then (if t105 = a0 then (if t106 = 0 then (if t110 = true then (if t108 = 0 then (if t109 = (Int.tmod a0 (((Go.bits .and .u32 a1 1073741823) + 1) % 4294967296)) then (if t113 = true then (if t116 = true then (if t114 = ((t111 + 1) % 4294967296) then (if t115 = t112 then (some (t111 == ((Int.tdiv (a0 / 4) (((Go.bits .and .u32 a1 1073741823) + 1) % 4294967296)) % 4294967296))) else (some false)) else (some false)) else (some false)) else (some false)) else (some false)) else (some false)) else (some false)) else (some false)) else (some false)) else (some false)) = some r := by rw [if_pos rfl] at H; exact H
      clear H
      have H := H1
      clear H1
      by_cases c10 : t107 = true
      · subst c10
        have H1 : (if t105 = a0 then (if t106 = 0 then (if t110 = true then (if t108 = 0 then (if t109 = (Int.tmod a0 (((Go.bits .and .u32 a1 1073741823) + 1) % 4294967296)) then (if t113 = true then (if t116 = true then (if t114 = ((t111 + 1) % 4294967296) then (if t115 = t112 then (some (t111 == ((Int.tdiv (a0 / 4) (((Go.bits .and .u32 a1 1073741823) + 1) % 4294967296)) % 4294967296))) else (some false)) else (some false)) else (some false)) else (some false)) else (some false)) else (some false)) else (some false)) else (some false)) else (some false)) = some r := by rw [if_pos rfl] at H; exact H
        clear H
        have H := H1
        clear H1
        by_cases c11 : t105 = a0
        · rw [if_pos c11] at H
          have c11b0 : (t105 == a0) = true := beq_iff_eq.mpr c11
          have c11b1 : (t105 != a0) = false := bne_eq_false_iff_eq.mpr c11
          clear c11
          by_cases c12 : t106 = 0
          · rw [if_pos c12] at H
            have c12b0 : (t106 == 0) = true := beq_iff_eq.mpr c12
            have c12b1 : (t106 != 0) = false := bne_eq_false_iff_eq.mpr c12
            clear c12
            by_cases c13 : t110 = true
            · subst c13
              have H1 : (if t108 = 0 then (if t109 = (Int.tmod a0 (((Go.bits .and .u32 a1 1073741823) + 1) % 4294967296)) then (if t113 = true then (if t116 = true then (if t114 = ((t111 + 1) % 4294967296) then (if t115 = t112 then (some (t111 == ((Int.tdiv (a0 / 4) (((Go.bits .and .u32 a1 1073741823) + 1) % 4294967296)) % 4294967296))) else (some false)) else (some false)) else (some false)) else (some false)) else (some false)) else (some false)) = some r := by rw [if_pos rfl] at H; exact H
              clear H
              have H := H1
              clear H1
              by_cases c14 : t108 = 0
              · rw [if_pos c14] at H
                have c14b0 : (t108 == 0) = true := beq_iff_eq.mpr c14
                have c14b1 : (t108 != 0) = false := bne_eq_false_iff_eq.mpr c14
                clear c14
                by_cases c15 : t109 = (Int.tmod a0 (((Go.bits .and .u32 a1 1073741823) + 1) % 4294967296))
                · rw [if_pos c15] at H
                  have c15b0 : (t109 == (Int.tmod a0 (((Go.bits .and .u32 a1 1073741823) + 1) % 4294967296))) = true := beq_iff_eq.mpr c15
                  have c15b1 : (t109 != (Int.tmod a0 (((Go.bits .and .u32 a1 1073741823) + 1) % 4294967296))) = false := bne_eq_false_iff_eq.mpr c15
                  clear c15
                  by_cases c16 : t113 = true
                  · subst c16
                    have H1 : (if t116 = true then (if t114 = ((t111 + 1) % 4294967296) then (if t115 = t112 then (some (t111 == ((Int.tdiv (a0 / 4) (((Go.bits .and .u32 a1 1073741823) + 1) % 4294967296)) % 4294967296))) else (some false)) else (some false)) else (some false)) = some r := by rw [if_pos rfl] at H; exact H
                    clear H
                    have H := H1
                    clear H1
                    by_cases c17 : t116 = true
                    · subst c17
                      have H1 : (if t114 = ((t111 + 1) % 4294967296) then (if t115 = t112 then (some (t111 == ((Int.tdiv (a0 / 4) (((Go.bits .and .u32 a1 1073741823) + 1) % 4294967296)) % 4294967296))) else (some false)) else (some false)) = some r := by rw [if_pos rfl] at H; exact H
                      clear H
                      have H := H1
                      clear H1
                      by_cases c18 : t114 = ((t111 + 1) % 4294967296)
                      · rw [if_pos c18] at H
                        have c18b0 : (t114 == ((t111 + 1) % 4294967296)) = true := beq_iff_eq.mpr c18
                        have c18b1 : (t114 != ((t111 + 1) % 4294967296)) = false := bne_eq_false_iff_eq.mpr c18
                        clear c18
                        by_cases c19 : t115 = t112
                        · rw [if_pos c19] at H
                          have c19b0 : (t115 == t112) = true := beq_iff_eq.mpr c19
                          have c19b1 : (t115 != t112) = false := bne_eq_false_iff_eq.mpr c19
                          clear c19
                          obtain rfl := Option.some.inj H
                          go_enter Try.func4, Try.ntmps4
                          go_wp2_with (first | ((with_reducible refine gate_callee (f := 11) rfl ?_); refine goesL_ (some 19) rfl rfl Try.func11 (by kernel_rfl) rfl #[] rfl (by (try simp only [List.map_toArray, List.map_cons, List.map_nil]); first | done | rfl | (simp only [List.length_drop, List.length_take]; rfl)) ?_; (with_reducible refine (rivetlaw01_shown.calls  true _ A3.out).mono ?_); rintro e w' ⟨rfl, ⟨nd, rfl⟩⟩; refine ⟨_, rfl, ?_⟩) | ((with_reducible refine gate_callee (f := 12) rfl ?_); refine goesL_ (some 25) rfl rfl Try.func12 (by kernel_rfl) rfl #[.int .u32 a0, .int .u32 1] rfl (by (try simp only [List.map_toArray, List.map_cons, List.map_nil]); first | done | rfl | (simp only [List.length_drop, List.length_take]; rfl)) ?_; (with_reducible refine (word_Div.calls a0 1 t105 t106 true _ A4.out).mono ?_); rintro e w' ⟨rfl, ⟨nd, rfl⟩⟩; refine ⟨_, rfl, ?_⟩) | ((with_reducible refine gate_callee (f := 12) rfl ?_); refine goesL_ (some 34) rfl rfl Try.func12 (by kernel_rfl) rfl #[.int .u32 (Int.tmod a0 (((Go.bits .and .u32 a1 1073741823) + 1) % 4294967296)), .int .u32 (((Go.bits .and .u32 a1 1073741823) + 1) % 4294967296)] rfl (by (try simp only [List.map_toArray, List.map_cons, List.map_nil]); first | done | rfl | (simp only [List.length_drop, List.length_take]; rfl)) ?_; (with_reducible refine (word_Div.calls (Int.tmod a0 (((Go.bits .and .u32 a1 1073741823) + 1) % 4294967296)) (((Go.bits .and .u32 a1 1073741823) + 1) % 4294967296) t108 t109 true _ A6.out).mono ?_); rintro e w' ⟨rfl, ⟨nd, rfl⟩⟩; refine ⟨_, rfl, ?_⟩) | ((with_reducible refine gate_callee (f := 12) rfl ?_); refine goesL_ (some 42) rfl rfl Try.func12 (by kernel_rfl) rfl #[.int .u32 (a0 / 4), .int .u32 (((Go.bits .and .u32 a1 1073741823) + 1) % 4294967296)] rfl (by (try simp only [List.map_toArray, List.map_cons, List.map_nil]); first | done | rfl | (simp only [List.length_drop, List.length_take]; rfl)) ?_; (with_reducible refine (word_Div.calls (a0 / 4) (((Go.bits .and .u32 a1 1073741823) + 1) % 4294967296) t111 t112 true _ A7.out).mono ?_); rintro e w' ⟨rfl, ⟨nd, rfl⟩⟩; refine ⟨_, rfl, ?_⟩) | ((with_reducible refine gate_callee (f := 12) rfl ?_); refine goesL_ (some 52) rfl rfl Try.func12 (by kernel_rfl) rfl #[.int .u32 (((a0 / 4) + (((Go.bits .and .u32 a1 1073741823) + 1) % 4294967296)) % 4294967296), .int .u32 (((Go.bits .and .u32 a1 1073741823) + 1) % 4294967296)] rfl (by (try simp only [List.map_toArray, List.map_cons, List.map_nil]); first | done | rfl | (simp only [List.length_drop, List.length_take]; rfl)) ?_; (with_reducible refine (word_Div.calls (((a0 / 4) + (((Go.bits .and .u32 a1 1073741823) + 1) % 4294967296)) % 4294967296) (((Go.bits .and .u32 a1 1073741823) + 1) % 4294967296) t114 t115 true _ A8.out).mono ?_); rintro e w' ⟨rfl, ⟨nd, rfl⟩⟩; refine ⟨_, rfl, ?_⟩))
                          go_ret
                          exact ⟨by first | rfl | (simp; done) | (simp [*]; done), by repeat (first | exact Drawn0.refl _ | apply Drawn0.step)⟩
                        · rw [if_neg c19] at H
                          have c19b0 : (t115 == t112) = false := beq_eq_false_iff_ne.mpr c19
                          have c19b1 : (t115 != t112) = true := bne_iff_ne.mpr c19
                          obtain rfl := Option.some.inj H
                          go_enter Try.func4, Try.ntmps4
                          go_wp2_with (first | ((with_reducible refine gate_callee (f := 11) rfl ?_); refine goesL_ (some 19) rfl rfl Try.func11 (by kernel_rfl) rfl #[] rfl (by (try simp only [List.map_toArray, List.map_cons, List.map_nil]); first | done | rfl | (simp only [List.length_drop, List.length_take]; rfl)) ?_; (with_reducible refine (rivetlaw01_shown.calls  true _ A3.out).mono ?_); rintro e w' ⟨rfl, ⟨nd, rfl⟩⟩; refine ⟨_, rfl, ?_⟩) | ((with_reducible refine gate_callee (f := 12) rfl ?_); refine goesL_ (some 25) rfl rfl Try.func12 (by kernel_rfl) rfl #[.int .u32 a0, .int .u32 1] rfl (by (try simp only [List.map_toArray, List.map_cons, List.map_nil]); first | done | rfl | (simp only [List.length_drop, List.length_take]; rfl)) ?_; (with_reducible refine (word_Div.calls a0 1 t105 t106 true _ A4.out).mono ?_); rintro e w' ⟨rfl, ⟨nd, rfl⟩⟩; refine ⟨_, rfl, ?_⟩) | ((with_reducible refine gate_callee (f := 12) rfl ?_); refine goesL_ (some 34) rfl rfl Try.func12 (by kernel_rfl) rfl #[.int .u32 (Int.tmod a0 (((Go.bits .and .u32 a1 1073741823) + 1) % 4294967296)), .int .u32 (((Go.bits .and .u32 a1 1073741823) + 1) % 4294967296)] rfl (by (try simp only [List.map_toArray, List.map_cons, List.map_nil]); first | done | rfl | (simp only [List.length_drop, List.length_take]; rfl)) ?_; (with_reducible refine (word_Div.calls (Int.tmod a0 (((Go.bits .and .u32 a1 1073741823) + 1) % 4294967296)) (((Go.bits .and .u32 a1 1073741823) + 1) % 4294967296) t108 t109 true _ A6.out).mono ?_); rintro e w' ⟨rfl, ⟨nd, rfl⟩⟩; refine ⟨_, rfl, ?_⟩) | ((with_reducible refine gate_callee (f := 12) rfl ?_); refine goesL_ (some 42) rfl rfl Try.func12 (by kernel_rfl) rfl #[.int .u32 (a0 / 4), .int .u32 (((Go.bits .and .u32 a1 1073741823) + 1) % 4294967296)] rfl (by (try simp only [List.map_toArray, List.map_cons, List.map_nil]); first | done | rfl | (simp only [List.length_drop, List.length_take]; rfl)) ?_; (with_reducible refine (word_Div.calls (a0 / 4) (((Go.bits .and .u32 a1 1073741823) + 1) % 4294967296) t111 t112 true _ A7.out).mono ?_); rintro e w' ⟨rfl, ⟨nd, rfl⟩⟩; refine ⟨_, rfl, ?_⟩) | ((with_reducible refine gate_callee (f := 12) rfl ?_); refine goesL_ (some 52) rfl rfl Try.func12 (by kernel_rfl) rfl #[.int .u32 (((a0 / 4) + (((Go.bits .and .u32 a1 1073741823) + 1) % 4294967296)) % 4294967296), .int .u32 (((Go.bits .and .u32 a1 1073741823) + 1) % 4294967296)] rfl (by (try simp only [List.map_toArray, List.map_cons, List.map_nil]); first | done | rfl | (simp only [List.length_drop, List.length_take]; rfl)) ?_; (with_reducible refine (word_Div.calls (((a0 / 4) + (((Go.bits .and .u32 a1 1073741823) + 1) % 4294967296)) % 4294967296) (((Go.bits .and .u32 a1 1073741823) + 1) % 4294967296) t114 t115 true _ A8.out).mono ?_); rintro e w' ⟨rfl, ⟨nd, rfl⟩⟩; refine ⟨_, rfl, ?_⟩))
                          go_ret
                          exact ⟨by first | rfl | (simp; done) | (simp [*]; done), by repeat (first | exact Drawn0.refl _ | apply Drawn0.step)⟩
                      · rw [if_neg c18] at H
                        have c18b0 : (t114 == ((t111 + 1) % 4294967296)) = false := beq_eq_false_iff_ne.mpr c18
                        have c18b1 : (t114 != ((t111 + 1) % 4294967296)) = true := bne_iff_ne.mpr c18
                        obtain rfl := Option.some.inj H
                        go_enter Try.func4, Try.ntmps4
                        go_wp2_with (first | ((with_reducible refine gate_callee (f := 11) rfl ?_); refine goesL_ (some 19) rfl rfl Try.func11 (by kernel_rfl) rfl #[] rfl (by (try simp only [List.map_toArray, List.map_cons, List.map_nil]); first | done | rfl | (simp only [List.length_drop, List.length_take]; rfl)) ?_; (with_reducible refine (rivetlaw01_shown.calls  true _ A3.out).mono ?_); rintro e w' ⟨rfl, ⟨nd, rfl⟩⟩; refine ⟨_, rfl, ?_⟩) | ((with_reducible refine gate_callee (f := 12) rfl ?_); refine goesL_ (some 25) rfl rfl Try.func12 (by kernel_rfl) rfl #[.int .u32 a0, .int .u32 1] rfl (by (try simp only [List.map_toArray, List.map_cons, List.map_nil]); first | done | rfl | (simp only [List.length_drop, List.length_take]; rfl)) ?_; (with_reducible refine (word_Div.calls a0 1 t105 t106 true _ A4.out).mono ?_); rintro e w' ⟨rfl, ⟨nd, rfl⟩⟩; refine ⟨_, rfl, ?_⟩) | ((with_reducible refine gate_callee (f := 12) rfl ?_); refine goesL_ (some 34) rfl rfl Try.func12 (by kernel_rfl) rfl #[.int .u32 (Int.tmod a0 (((Go.bits .and .u32 a1 1073741823) + 1) % 4294967296)), .int .u32 (((Go.bits .and .u32 a1 1073741823) + 1) % 4294967296)] rfl (by (try simp only [List.map_toArray, List.map_cons, List.map_nil]); first | done | rfl | (simp only [List.length_drop, List.length_take]; rfl)) ?_; (with_reducible refine (word_Div.calls (Int.tmod a0 (((Go.bits .and .u32 a1 1073741823) + 1) % 4294967296)) (((Go.bits .and .u32 a1 1073741823) + 1) % 4294967296) t108 t109 true _ A6.out).mono ?_); rintro e w' ⟨rfl, ⟨nd, rfl⟩⟩; refine ⟨_, rfl, ?_⟩) | ((with_reducible refine gate_callee (f := 12) rfl ?_); refine goesL_ (some 42) rfl rfl Try.func12 (by kernel_rfl) rfl #[.int .u32 (a0 / 4), .int .u32 (((Go.bits .and .u32 a1 1073741823) + 1) % 4294967296)] rfl (by (try simp only [List.map_toArray, List.map_cons, List.map_nil]); first | done | rfl | (simp only [List.length_drop, List.length_take]; rfl)) ?_; (with_reducible refine (word_Div.calls (a0 / 4) (((Go.bits .and .u32 a1 1073741823) + 1) % 4294967296) t111 t112 true _ A7.out).mono ?_); rintro e w' ⟨rfl, ⟨nd, rfl⟩⟩; refine ⟨_, rfl, ?_⟩) | ((with_reducible refine gate_callee (f := 12) rfl ?_); refine goesL_ (some 52) rfl rfl Try.func12 (by kernel_rfl) rfl #[.int .u32 (((a0 / 4) + (((Go.bits .and .u32 a1 1073741823) + 1) % 4294967296)) % 4294967296), .int .u32 (((Go.bits .and .u32 a1 1073741823) + 1) % 4294967296)] rfl (by (try simp only [List.map_toArray, List.map_cons, List.map_nil]); first | done | rfl | (simp only [List.length_drop, List.length_take]; rfl)) ?_; (with_reducible refine (word_Div.calls (((a0 / 4) + (((Go.bits .and .u32 a1 1073741823) + 1) % 4294967296)) % 4294967296) (((Go.bits .and .u32 a1 1073741823) + 1) % 4294967296) t114 t115 true _ A8.out).mono ?_); rintro e w' ⟨rfl, ⟨nd, rfl⟩⟩; refine ⟨_, rfl, ?_⟩))
                        go_ret
                        exact ⟨by first | rfl | (simp; done) | (simp [*]; done), by repeat (first | exact Drawn0.refl _ | apply Drawn0.step)⟩
                    · replace c17 := Bool.eq_false_iff.mpr c17
                      subst c17
                      have H1 : (some false) = some r := by rw [if_neg (show ¬ (false = true) by decide)] at H; exact H
                      clear H
                      have H := H1
                      clear H1
                      obtain rfl := Option.some.inj H
                      go_enter Try.func4, Try.ntmps4
                      go_wp2_with (first | ((with_reducible refine gate_callee (f := 11) rfl ?_); refine goesL_ (some 19) rfl rfl Try.func11 (by kernel_rfl) rfl #[] rfl (by (try simp only [List.map_toArray, List.map_cons, List.map_nil]); first | done | rfl | (simp only [List.length_drop, List.length_take]; rfl)) ?_; (with_reducible refine (rivetlaw01_shown.calls  true _ A3.out).mono ?_); rintro e w' ⟨rfl, ⟨nd, rfl⟩⟩; refine ⟨_, rfl, ?_⟩) | ((with_reducible refine gate_callee (f := 12) rfl ?_); refine goesL_ (some 25) rfl rfl Try.func12 (by kernel_rfl) rfl #[.int .u32 a0, .int .u32 1] rfl (by (try simp only [List.map_toArray, List.map_cons, List.map_nil]); first | done | rfl | (simp only [List.length_drop, List.length_take]; rfl)) ?_; (with_reducible refine (word_Div.calls a0 1 t105 t106 true _ A4.out).mono ?_); rintro e w' ⟨rfl, ⟨nd, rfl⟩⟩; refine ⟨_, rfl, ?_⟩) | ((with_reducible refine gate_callee (f := 12) rfl ?_); refine goesL_ (some 34) rfl rfl Try.func12 (by kernel_rfl) rfl #[.int .u32 (Int.tmod a0 (((Go.bits .and .u32 a1 1073741823) + 1) % 4294967296)), .int .u32 (((Go.bits .and .u32 a1 1073741823) + 1) % 4294967296)] rfl (by (try simp only [List.map_toArray, List.map_cons, List.map_nil]); first | done | rfl | (simp only [List.length_drop, List.length_take]; rfl)) ?_; (with_reducible refine (word_Div.calls (Int.tmod a0 (((Go.bits .and .u32 a1 1073741823) + 1) % 4294967296)) (((Go.bits .and .u32 a1 1073741823) + 1) % 4294967296) t108 t109 true _ A6.out).mono ?_); rintro e w' ⟨rfl, ⟨nd, rfl⟩⟩; refine ⟨_, rfl, ?_⟩) | ((with_reducible refine gate_callee (f := 12) rfl ?_); refine goesL_ (some 42) rfl rfl Try.func12 (by kernel_rfl) rfl #[.int .u32 (a0 / 4), .int .u32 (((Go.bits .and .u32 a1 1073741823) + 1) % 4294967296)] rfl (by (try simp only [List.map_toArray, List.map_cons, List.map_nil]); first | done | rfl | (simp only [List.length_drop, List.length_take]; rfl)) ?_; (with_reducible refine (word_Div.calls (a0 / 4) (((Go.bits .and .u32 a1 1073741823) + 1) % 4294967296) t111 t112 true _ A7.out).mono ?_); rintro e w' ⟨rfl, ⟨nd, rfl⟩⟩; refine ⟨_, rfl, ?_⟩) | ((with_reducible refine gate_callee (f := 12) rfl ?_); refine goesL_ (some 52) rfl rfl Try.func12 (by kernel_rfl) rfl #[.int .u32 (((a0 / 4) + (((Go.bits .and .u32 a1 1073741823) + 1) % 4294967296)) % 4294967296), .int .u32 (((Go.bits .and .u32 a1 1073741823) + 1) % 4294967296)] rfl (by (try simp only [List.map_toArray, List.map_cons, List.map_nil]); first | done | rfl | (simp only [List.length_drop, List.length_take]; rfl)) ?_; (with_reducible refine (word_Div.calls (((a0 / 4) + (((Go.bits .and .u32 a1 1073741823) + 1) % 4294967296)) % 4294967296) (((Go.bits .and .u32 a1 1073741823) + 1) % 4294967296) t114 t115 false _ A8.out).mono ?_); rintro e w' ⟨rfl, ⟨nd, rfl⟩⟩; refine ⟨_, rfl, ?_⟩))
                      go_ret
                      exact ⟨by first | rfl | (simp; done) | (simp [*]; done), by repeat (first | exact Drawn0.refl _ | apply Drawn0.step)⟩
                  · replace c16 := Bool.eq_false_iff.mpr c16
                    subst c16
                    have H1 : (some false) = some r := by rw [if_neg (show ¬ (false = true) by decide)] at H; exact H
                    clear H
                    have H := H1
                    clear H1
                    obtain rfl := Option.some.inj H
                    go_enter Try.func4, Try.ntmps4
                    go_wp2_with (first | ((with_reducible refine gate_callee (f := 11) rfl ?_); refine goesL_ (some 19) rfl rfl Try.func11 (by kernel_rfl) rfl #[] rfl (by (try simp only [List.map_toArray, List.map_cons, List.map_nil]); first | done | rfl | (simp only [List.length_drop, List.length_take]; rfl)) ?_; (with_reducible refine (rivetlaw01_shown.calls  true _ A3.out).mono ?_); rintro e w' ⟨rfl, ⟨nd, rfl⟩⟩; refine ⟨_, rfl, ?_⟩) | ((with_reducible refine gate_callee (f := 12) rfl ?_); refine goesL_ (some 25) rfl rfl Try.func12 (by kernel_rfl) rfl #[.int .u32 a0, .int .u32 1] rfl (by (try simp only [List.map_toArray, List.map_cons, List.map_nil]); first | done | rfl | (simp only [List.length_drop, List.length_take]; rfl)) ?_; (with_reducible refine (word_Div.calls a0 1 t105 t106 true _ A4.out).mono ?_); rintro e w' ⟨rfl, ⟨nd, rfl⟩⟩; refine ⟨_, rfl, ?_⟩) | ((with_reducible refine gate_callee (f := 12) rfl ?_); refine goesL_ (some 34) rfl rfl Try.func12 (by kernel_rfl) rfl #[.int .u32 (Int.tmod a0 (((Go.bits .and .u32 a1 1073741823) + 1) % 4294967296)), .int .u32 (((Go.bits .and .u32 a1 1073741823) + 1) % 4294967296)] rfl (by (try simp only [List.map_toArray, List.map_cons, List.map_nil]); first | done | rfl | (simp only [List.length_drop, List.length_take]; rfl)) ?_; (with_reducible refine (word_Div.calls (Int.tmod a0 (((Go.bits .and .u32 a1 1073741823) + 1) % 4294967296)) (((Go.bits .and .u32 a1 1073741823) + 1) % 4294967296) t108 t109 true _ A6.out).mono ?_); rintro e w' ⟨rfl, ⟨nd, rfl⟩⟩; refine ⟨_, rfl, ?_⟩) | ((with_reducible refine gate_callee (f := 12) rfl ?_); refine goesL_ (some 42) rfl rfl Try.func12 (by kernel_rfl) rfl #[.int .u32 (a0 / 4), .int .u32 (((Go.bits .and .u32 a1 1073741823) + 1) % 4294967296)] rfl (by (try simp only [List.map_toArray, List.map_cons, List.map_nil]); first | done | rfl | (simp only [List.length_drop, List.length_take]; rfl)) ?_; (with_reducible refine (word_Div.calls (a0 / 4) (((Go.bits .and .u32 a1 1073741823) + 1) % 4294967296) t111 t112 false _ A7.out).mono ?_); rintro e w' ⟨rfl, ⟨nd, rfl⟩⟩; refine ⟨_, rfl, ?_⟩) | ((with_reducible refine gate_callee (f := 12) rfl ?_); refine goesL_ (some 52) rfl rfl Try.func12 (by kernel_rfl) rfl #[.int .u32 (((a0 / 4) + (((Go.bits .and .u32 a1 1073741823) + 1) % 4294967296)) % 4294967296), .int .u32 (((Go.bits .and .u32 a1 1073741823) + 1) % 4294967296)] rfl (by (try simp only [List.map_toArray, List.map_cons, List.map_nil]); first | done | rfl | (simp only [List.length_drop, List.length_take]; rfl)) ?_; (with_reducible refine (word_Div.calls (((a0 / 4) + (((Go.bits .and .u32 a1 1073741823) + 1) % 4294967296)) % 4294967296) (((Go.bits .and .u32 a1 1073741823) + 1) % 4294967296) t114 t115 t116 _ A8.out).mono ?_); rintro e w' ⟨rfl, ⟨nd, rfl⟩⟩; refine ⟨_, rfl, ?_⟩))
                    go_ret
                    exact ⟨by first | rfl | (simp; done) | (simp [*]; done), by repeat (first | exact Drawn0.refl _ | apply Drawn0.step)⟩
                · rw [if_neg c15] at H
                  have c15b0 : (t109 == (Int.tmod a0 (((Go.bits .and .u32 a1 1073741823) + 1) % 4294967296))) = false := beq_eq_false_iff_ne.mpr c15
                  have c15b1 : (t109 != (Int.tmod a0 (((Go.bits .and .u32 a1 1073741823) + 1) % 4294967296))) = true := bne_iff_ne.mpr c15
                  obtain rfl := Option.some.inj H
                  go_enter Try.func4, Try.ntmps4
                  go_wp2_with (first | ((with_reducible refine gate_callee (f := 11) rfl ?_); refine goesL_ (some 19) rfl rfl Try.func11 (by kernel_rfl) rfl #[] rfl (by (try simp only [List.map_toArray, List.map_cons, List.map_nil]); first | done | rfl | (simp only [List.length_drop, List.length_take]; rfl)) ?_; (with_reducible refine (rivetlaw01_shown.calls  true _ A3.out).mono ?_); rintro e w' ⟨rfl, ⟨nd, rfl⟩⟩; refine ⟨_, rfl, ?_⟩) | ((with_reducible refine gate_callee (f := 12) rfl ?_); refine goesL_ (some 25) rfl rfl Try.func12 (by kernel_rfl) rfl #[.int .u32 a0, .int .u32 1] rfl (by (try simp only [List.map_toArray, List.map_cons, List.map_nil]); first | done | rfl | (simp only [List.length_drop, List.length_take]; rfl)) ?_; (with_reducible refine (word_Div.calls a0 1 t105 t106 true _ A4.out).mono ?_); rintro e w' ⟨rfl, ⟨nd, rfl⟩⟩; refine ⟨_, rfl, ?_⟩) | ((with_reducible refine gate_callee (f := 12) rfl ?_); refine goesL_ (some 34) rfl rfl Try.func12 (by kernel_rfl) rfl #[.int .u32 (Int.tmod a0 (((Go.bits .and .u32 a1 1073741823) + 1) % 4294967296)), .int .u32 (((Go.bits .and .u32 a1 1073741823) + 1) % 4294967296)] rfl (by (try simp only [List.map_toArray, List.map_cons, List.map_nil]); first | done | rfl | (simp only [List.length_drop, List.length_take]; rfl)) ?_; (with_reducible refine (word_Div.calls (Int.tmod a0 (((Go.bits .and .u32 a1 1073741823) + 1) % 4294967296)) (((Go.bits .and .u32 a1 1073741823) + 1) % 4294967296) t108 t109 true _ A6.out).mono ?_); rintro e w' ⟨rfl, ⟨nd, rfl⟩⟩; refine ⟨_, rfl, ?_⟩) | ((with_reducible refine gate_callee (f := 12) rfl ?_); refine goesL_ (some 42) rfl rfl Try.func12 (by kernel_rfl) rfl #[.int .u32 (a0 / 4), .int .u32 (((Go.bits .and .u32 a1 1073741823) + 1) % 4294967296)] rfl (by (try simp only [List.map_toArray, List.map_cons, List.map_nil]); first | done | rfl | (simp only [List.length_drop, List.length_take]; rfl)) ?_; (with_reducible refine (word_Div.calls (a0 / 4) (((Go.bits .and .u32 a1 1073741823) + 1) % 4294967296) t111 t112 t113 _ A7.out).mono ?_); rintro e w' ⟨rfl, ⟨nd, rfl⟩⟩; refine ⟨_, rfl, ?_⟩) | ((with_reducible refine gate_callee (f := 12) rfl ?_); refine goesL_ (some 52) rfl rfl Try.func12 (by kernel_rfl) rfl #[.int .u32 (((a0 / 4) + (((Go.bits .and .u32 a1 1073741823) + 1) % 4294967296)) % 4294967296), .int .u32 (((Go.bits .and .u32 a1 1073741823) + 1) % 4294967296)] rfl (by (try simp only [List.map_toArray, List.map_cons, List.map_nil]); first | done | rfl | (simp only [List.length_drop, List.length_take]; rfl)) ?_; (with_reducible refine (word_Div.calls (((a0 / 4) + (((Go.bits .and .u32 a1 1073741823) + 1) % 4294967296)) % 4294967296) (((Go.bits .and .u32 a1 1073741823) + 1) % 4294967296) t114 t115 t116 _ A8.out).mono ?_); rintro e w' ⟨rfl, ⟨nd, rfl⟩⟩; refine ⟨_, rfl, ?_⟩))
                  go_ret
                  exact ⟨by first | rfl | (simp; done) | (simp [*]; done), by repeat (first | exact Drawn0.refl _ | apply Drawn0.step)⟩
              · rw [if_neg c14] at H
                have c14b0 : (t108 == 0) = false := beq_eq_false_iff_ne.mpr c14
                have c14b1 : (t108 != 0) = true := bne_iff_ne.mpr c14
                obtain rfl := Option.some.inj H
                go_enter Try.func4, Try.ntmps4
                go_wp2_with (first | ((with_reducible refine gate_callee (f := 11) rfl ?_); refine goesL_ (some 19) rfl rfl Try.func11 (by kernel_rfl) rfl #[] rfl (by (try simp only [List.map_toArray, List.map_cons, List.map_nil]); first | done | rfl | (simp only [List.length_drop, List.length_take]; rfl)) ?_; (with_reducible refine (rivetlaw01_shown.calls  true _ A3.out).mono ?_); rintro e w' ⟨rfl, ⟨nd, rfl⟩⟩; refine ⟨_, rfl, ?_⟩) | ((with_reducible refine gate_callee (f := 12) rfl ?_); refine goesL_ (some 25) rfl rfl Try.func12 (by kernel_rfl) rfl #[.int .u32 a0, .int .u32 1] rfl (by (try simp only [List.map_toArray, List.map_cons, List.map_nil]); first | done | rfl | (simp only [List.length_drop, List.length_take]; rfl)) ?_; (with_reducible refine (word_Div.calls a0 1 t105 t106 true _ A4.out).mono ?_); rintro e w' ⟨rfl, ⟨nd, rfl⟩⟩; refine ⟨_, rfl, ?_⟩) | ((with_reducible refine gate_callee (f := 12) rfl ?_); refine goesL_ (some 34) rfl rfl Try.func12 (by kernel_rfl) rfl #[.int .u32 (Int.tmod a0 (((Go.bits .and .u32 a1 1073741823) + 1) % 4294967296)), .int .u32 (((Go.bits .and .u32 a1 1073741823) + 1) % 4294967296)] rfl (by (try simp only [List.map_toArray, List.map_cons, List.map_nil]); first | done | rfl | (simp only [List.length_drop, List.length_take]; rfl)) ?_; (with_reducible refine (word_Div.calls (Int.tmod a0 (((Go.bits .and .u32 a1 1073741823) + 1) % 4294967296)) (((Go.bits .and .u32 a1 1073741823) + 1) % 4294967296) t108 t109 true _ A6.out).mono ?_); rintro e w' ⟨rfl, ⟨nd, rfl⟩⟩; refine ⟨_, rfl, ?_⟩) | ((with_reducible refine gate_callee (f := 12) rfl ?_); refine goesL_ (some 42) rfl rfl Try.func12 (by kernel_rfl) rfl #[.int .u32 (a0 / 4), .int .u32 (((Go.bits .and .u32 a1 1073741823) + 1) % 4294967296)] rfl (by (try simp only [List.map_toArray, List.map_cons, List.map_nil]); first | done | rfl | (simp only [List.length_drop, List.length_take]; rfl)) ?_; (with_reducible refine (word_Div.calls (a0 / 4) (((Go.bits .and .u32 a1 1073741823) + 1) % 4294967296) t111 t112 t113 _ A7.out).mono ?_); rintro e w' ⟨rfl, ⟨nd, rfl⟩⟩; refine ⟨_, rfl, ?_⟩) | ((with_reducible refine gate_callee (f := 12) rfl ?_); refine goesL_ (some 52) rfl rfl Try.func12 (by kernel_rfl) rfl #[.int .u32 (((a0 / 4) + (((Go.bits .and .u32 a1 1073741823) + 1) % 4294967296)) % 4294967296), .int .u32 (((Go.bits .and .u32 a1 1073741823) + 1) % 4294967296)] rfl (by (try simp only [List.map_toArray, List.map_cons, List.map_nil]); first | done | rfl | (simp only [List.length_drop, List.length_take]; rfl)) ?_; (with_reducible refine (word_Div.calls (((a0 / 4) + (((Go.bits .and .u32 a1 1073741823) + 1) % 4294967296)) % 4294967296) (((Go.bits .and .u32 a1 1073741823) + 1) % 4294967296) t114 t115 t116 _ A8.out).mono ?_); rintro e w' ⟨rfl, ⟨nd, rfl⟩⟩; refine ⟨_, rfl, ?_⟩))
                go_ret
                exact ⟨by first | rfl | (simp; done) | (simp [*]; done), by repeat (first | exact Drawn0.refl _ | apply Drawn0.step)⟩
            · replace c13 := Bool.eq_false_iff.mpr c13
              subst c13
              have H1 : (some false) = some r := by rw [if_neg (show ¬ (false = true) by decide)] at H; exact H
              clear H
              have H := H1
              clear H1
              obtain rfl := Option.some.inj H
              go_enter Try.func4, Try.ntmps4
              go_wp2_with (first | ((with_reducible refine gate_callee (f := 11) rfl ?_); refine goesL_ (some 19) rfl rfl Try.func11 (by kernel_rfl) rfl #[] rfl (by (try simp only [List.map_toArray, List.map_cons, List.map_nil]); first | done | rfl | (simp only [List.length_drop, List.length_take]; rfl)) ?_; (with_reducible refine (rivetlaw01_shown.calls  true _ A3.out).mono ?_); rintro e w' ⟨rfl, ⟨nd, rfl⟩⟩; refine ⟨_, rfl, ?_⟩) | ((with_reducible refine gate_callee (f := 12) rfl ?_); refine goesL_ (some 25) rfl rfl Try.func12 (by kernel_rfl) rfl #[.int .u32 a0, .int .u32 1] rfl (by (try simp only [List.map_toArray, List.map_cons, List.map_nil]); first | done | rfl | (simp only [List.length_drop, List.length_take]; rfl)) ?_; (with_reducible refine (word_Div.calls a0 1 t105 t106 true _ A4.out).mono ?_); rintro e w' ⟨rfl, ⟨nd, rfl⟩⟩; refine ⟨_, rfl, ?_⟩) | ((with_reducible refine gate_callee (f := 12) rfl ?_); refine goesL_ (some 34) rfl rfl Try.func12 (by kernel_rfl) rfl #[.int .u32 (Int.tmod a0 (((Go.bits .and .u32 a1 1073741823) + 1) % 4294967296)), .int .u32 (((Go.bits .and .u32 a1 1073741823) + 1) % 4294967296)] rfl (by (try simp only [List.map_toArray, List.map_cons, List.map_nil]); first | done | rfl | (simp only [List.length_drop, List.length_take]; rfl)) ?_; (with_reducible refine (word_Div.calls (Int.tmod a0 (((Go.bits .and .u32 a1 1073741823) + 1) % 4294967296)) (((Go.bits .and .u32 a1 1073741823) + 1) % 4294967296) t108 t109 false _ A6.out).mono ?_); rintro e w' ⟨rfl, ⟨nd, rfl⟩⟩; refine ⟨_, rfl, ?_⟩) | ((with_reducible refine gate_callee (f := 12) rfl ?_); refine goesL_ (some 42) rfl rfl Try.func12 (by kernel_rfl) rfl #[.int .u32 (a0 / 4), .int .u32 (((Go.bits .and .u32 a1 1073741823) + 1) % 4294967296)] rfl (by (try simp only [List.map_toArray, List.map_cons, List.map_nil]); first | done | rfl | (simp only [List.length_drop, List.length_take]; rfl)) ?_; (with_reducible refine (word_Div.calls (a0 / 4) (((Go.bits .and .u32 a1 1073741823) + 1) % 4294967296) t111 t112 t113 _ A7.out).mono ?_); rintro e w' ⟨rfl, ⟨nd, rfl⟩⟩; refine ⟨_, rfl, ?_⟩) | ((with_reducible refine gate_callee (f := 12) rfl ?_); refine goesL_ (some 52) rfl rfl Try.func12 (by kernel_rfl) rfl #[.int .u32 (((a0 / 4) + (((Go.bits .and .u32 a1 1073741823) + 1) % 4294967296)) % 4294967296), .int .u32 (((Go.bits .and .u32 a1 1073741823) + 1) % 4294967296)] rfl (by (try simp only [List.map_toArray, List.map_cons, List.map_nil]); first | done | rfl | (simp only [List.length_drop, List.length_take]; rfl)) ?_; (with_reducible refine (word_Div.calls (((a0 / 4) + (((Go.bits .and .u32 a1 1073741823) + 1) % 4294967296)) % 4294967296) (((Go.bits .and .u32 a1 1073741823) + 1) % 4294967296) t114 t115 t116 _ A8.out).mono ?_); rintro e w' ⟨rfl, ⟨nd, rfl⟩⟩; refine ⟨_, rfl, ?_⟩))
              go_ret
              exact ⟨by first | rfl | (simp; done) | (simp [*]; done), by repeat (first | exact Drawn0.refl _ | apply Drawn0.step)⟩
          · rw [if_neg c12] at H
            have c12b0 : (t106 == 0) = false := beq_eq_false_iff_ne.mpr c12
            have c12b1 : (t106 != 0) = true := bne_iff_ne.mpr c12
            obtain rfl := Option.some.inj H
            go_enter Try.func4, Try.ntmps4
            go_wp2_with (first | ((with_reducible refine gate_callee (f := 11) rfl ?_); refine goesL_ (some 19) rfl rfl Try.func11 (by kernel_rfl) rfl #[] rfl (by (try simp only [List.map_toArray, List.map_cons, List.map_nil]); first | done | rfl | (simp only [List.length_drop, List.length_take]; rfl)) ?_; (with_reducible refine (rivetlaw01_shown.calls  true _ A3.out).mono ?_); rintro e w' ⟨rfl, ⟨nd, rfl⟩⟩; refine ⟨_, rfl, ?_⟩) | ((with_reducible refine gate_callee (f := 12) rfl ?_); refine goesL_ (some 25) rfl rfl Try.func12 (by kernel_rfl) rfl #[.int .u32 a0, .int .u32 1] rfl (by (try simp only [List.map_toArray, List.map_cons, List.map_nil]); first | done | rfl | (simp only [List.length_drop, List.length_take]; rfl)) ?_; (with_reducible refine (word_Div.calls a0 1 t105 t106 true _ A4.out).mono ?_); rintro e w' ⟨rfl, ⟨nd, rfl⟩⟩; refine ⟨_, rfl, ?_⟩) | ((with_reducible refine gate_callee (f := 12) rfl ?_); refine goesL_ (some 34) rfl rfl Try.func12 (by kernel_rfl) rfl #[.int .u32 (Int.tmod a0 (((Go.bits .and .u32 a1 1073741823) + 1) % 4294967296)), .int .u32 (((Go.bits .and .u32 a1 1073741823) + 1) % 4294967296)] rfl (by (try simp only [List.map_toArray, List.map_cons, List.map_nil]); first | done | rfl | (simp only [List.length_drop, List.length_take]; rfl)) ?_; (with_reducible refine (word_Div.calls (Int.tmod a0 (((Go.bits .and .u32 a1 1073741823) + 1) % 4294967296)) (((Go.bits .and .u32 a1 1073741823) + 1) % 4294967296) t108 t109 t110 _ A6.out).mono ?_); rintro e w' ⟨rfl, ⟨nd, rfl⟩⟩; refine ⟨_, rfl, ?_⟩) | ((with_reducible refine gate_callee (f := 12) rfl ?_); refine goesL_ (some 42) rfl rfl Try.func12 (by kernel_rfl) rfl #[.int .u32 (a0 / 4), .int .u32 (((Go.bits .and .u32 a1 1073741823) + 1) % 4294967296)] rfl (by (try simp only [List.map_toArray, List.map_cons, List.map_nil]); first | done | rfl | (simp only [List.length_drop, List.length_take]; rfl)) ?_; (with_reducible refine (word_Div.calls (a0 / 4) (((Go.bits .and .u32 a1 1073741823) + 1) % 4294967296) t111 t112 t113 _ A7.out).mono ?_); rintro e w' ⟨rfl, ⟨nd, rfl⟩⟩; refine ⟨_, rfl, ?_⟩) | ((with_reducible refine gate_callee (f := 12) rfl ?_); refine goesL_ (some 52) rfl rfl Try.func12 (by kernel_rfl) rfl #[.int .u32 (((a0 / 4) + (((Go.bits .and .u32 a1 1073741823) + 1) % 4294967296)) % 4294967296), .int .u32 (((Go.bits .and .u32 a1 1073741823) + 1) % 4294967296)] rfl (by (try simp only [List.map_toArray, List.map_cons, List.map_nil]); first | done | rfl | (simp only [List.length_drop, List.length_take]; rfl)) ?_; (with_reducible refine (word_Div.calls (((a0 / 4) + (((Go.bits .and .u32 a1 1073741823) + 1) % 4294967296)) % 4294967296) (((Go.bits .and .u32 a1 1073741823) + 1) % 4294967296) t114 t115 t116 _ A8.out).mono ?_); rintro e w' ⟨rfl, ⟨nd, rfl⟩⟩; refine ⟨_, rfl, ?_⟩))
            go_ret
            exact ⟨by first | rfl | (simp; done) | (simp [*]; done), by repeat (first | exact Drawn0.refl _ | apply Drawn0.step)⟩
        · rw [if_neg c11] at H
          have c11b0 : (t105 == a0) = false := beq_eq_false_iff_ne.mpr c11
          have c11b1 : (t105 != a0) = true := bne_iff_ne.mpr c11
          obtain rfl := Option.some.inj H
          go_enter Try.func4, Try.ntmps4
          go_wp2_with (first | ((with_reducible refine gate_callee (f := 11) rfl ?_); refine goesL_ (some 19) rfl rfl Try.func11 (by kernel_rfl) rfl #[] rfl (by (try simp only [List.map_toArray, List.map_cons, List.map_nil]); first | done | rfl | (simp only [List.length_drop, List.length_take]; rfl)) ?_; (with_reducible refine (rivetlaw01_shown.calls  true _ A3.out).mono ?_); rintro e w' ⟨rfl, ⟨nd, rfl⟩⟩; refine ⟨_, rfl, ?_⟩) | ((with_reducible refine gate_callee (f := 12) rfl ?_); refine goesL_ (some 25) rfl rfl Try.func12 (by kernel_rfl) rfl #[.int .u32 a0, .int .u32 1] rfl (by (try simp only [List.map_toArray, List.map_cons, List.map_nil]); first | done | rfl | (simp only [List.length_drop, List.length_take]; rfl)) ?_; (with_reducible refine (word_Div.calls a0 1 t105 t106 true _ A4.out).mono ?_); rintro e w' ⟨rfl, ⟨nd, rfl⟩⟩; refine ⟨_, rfl, ?_⟩) | ((with_reducible refine gate_callee (f := 12) rfl ?_); refine goesL_ (some 34) rfl rfl Try.func12 (by kernel_rfl) rfl #[.int .u32 (Int.tmod a0 (((Go.bits .and .u32 a1 1073741823) + 1) % 4294967296)), .int .u32 (((Go.bits .and .u32 a1 1073741823) + 1) % 4294967296)] rfl (by (try simp only [List.map_toArray, List.map_cons, List.map_nil]); first | done | rfl | (simp only [List.length_drop, List.length_take]; rfl)) ?_; (with_reducible refine (word_Div.calls (Int.tmod a0 (((Go.bits .and .u32 a1 1073741823) + 1) % 4294967296)) (((Go.bits .and .u32 a1 1073741823) + 1) % 4294967296) t108 t109 t110 _ A6.out).mono ?_); rintro e w' ⟨rfl, ⟨nd, rfl⟩⟩; refine ⟨_, rfl, ?_⟩) | ((with_reducible refine gate_callee (f := 12) rfl ?_); refine goesL_ (some 42) rfl rfl Try.func12 (by kernel_rfl) rfl #[.int .u32 (a0 / 4), .int .u32 (((Go.bits .and .u32 a1 1073741823) + 1) % 4294967296)] rfl (by (try simp only [List.map_toArray, List.map_cons, List.map_nil]); first | done | rfl | (simp only [List.length_drop, List.length_take]; rfl)) ?_; (with_reducible refine (word_Div.calls (a0 / 4) (((Go.bits .and .u32 a1 1073741823) + 1) % 4294967296) t111 t112 t113 _ A7.out).mono ?_); rintro e w' ⟨rfl, ⟨nd, rfl⟩⟩; refine ⟨_, rfl, ?_⟩) | ((with_reducible refine gate_callee (f := 12) rfl ?_); refine goesL_ (some 52) rfl rfl Try.func12 (by kernel_rfl) rfl #[.int .u32 (((a0 / 4) + (((Go.bits .and .u32 a1 1073741823) + 1) % 4294967296)) % 4294967296), .int .u32 (((Go.bits .and .u32 a1 1073741823) + 1) % 4294967296)] rfl (by (try simp only [List.map_toArray, List.map_cons, List.map_nil]); first | done | rfl | (simp only [List.length_drop, List.length_take]; rfl)) ?_; (with_reducible refine (word_Div.calls (((a0 / 4) + (((Go.bits .and .u32 a1 1073741823) + 1) % 4294967296)) % 4294967296) (((Go.bits .and .u32 a1 1073741823) + 1) % 4294967296) t114 t115 t116 _ A8.out).mono ?_); rintro e w' ⟨rfl, ⟨nd, rfl⟩⟩; refine ⟨_, rfl, ?_⟩))
          go_ret
          exact ⟨by first | rfl | (simp; done) | (simp [*]; done), by repeat (first | exact Drawn0.refl _ | apply Drawn0.step)⟩
      · replace c10 := Bool.eq_false_iff.mpr c10
        subst c10
        have H1 : (some false) = some r := by rw [if_neg (show ¬ (false = true) by decide)] at H; exact H
        clear H
        have H := H1
        clear H1
        obtain rfl := Option.some.inj H
        go_enter Try.func4, Try.ntmps4
        go_wp2_with (first | ((with_reducible refine gate_callee (f := 11) rfl ?_); refine goesL_ (some 19) rfl rfl Try.func11 (by kernel_rfl) rfl #[] rfl (by (try simp only [List.map_toArray, List.map_cons, List.map_nil]); first | done | rfl | (simp only [List.length_drop, List.length_take]; rfl)) ?_; (with_reducible refine (rivetlaw01_shown.calls  true _ A3.out).mono ?_); rintro e w' ⟨rfl, ⟨nd, rfl⟩⟩; refine ⟨_, rfl, ?_⟩) | ((with_reducible refine gate_callee (f := 12) rfl ?_); refine goesL_ (some 25) rfl rfl Try.func12 (by kernel_rfl) rfl #[.int .u32 a0, .int .u32 1] rfl (by (try simp only [List.map_toArray, List.map_cons, List.map_nil]); first | done | rfl | (simp only [List.length_drop, List.length_take]; rfl)) ?_; (with_reducible refine (word_Div.calls a0 1 t105 t106 false _ A4.out).mono ?_); rintro e w' ⟨rfl, ⟨nd, rfl⟩⟩; refine ⟨_, rfl, ?_⟩) | ((with_reducible refine gate_callee (f := 12) rfl ?_); refine goesL_ (some 34) rfl rfl Try.func12 (by kernel_rfl) rfl #[.int .u32 (Int.tmod a0 (((Go.bits .and .u32 a1 1073741823) + 1) % 4294967296)), .int .u32 (((Go.bits .and .u32 a1 1073741823) + 1) % 4294967296)] rfl (by (try simp only [List.map_toArray, List.map_cons, List.map_nil]); first | done | rfl | (simp only [List.length_drop, List.length_take]; rfl)) ?_; (with_reducible refine (word_Div.calls (Int.tmod a0 (((Go.bits .and .u32 a1 1073741823) + 1) % 4294967296)) (((Go.bits .and .u32 a1 1073741823) + 1) % 4294967296) t108 t109 t110 _ A6.out).mono ?_); rintro e w' ⟨rfl, ⟨nd, rfl⟩⟩; refine ⟨_, rfl, ?_⟩) | ((with_reducible refine gate_callee (f := 12) rfl ?_); refine goesL_ (some 42) rfl rfl Try.func12 (by kernel_rfl) rfl #[.int .u32 (a0 / 4), .int .u32 (((Go.bits .and .u32 a1 1073741823) + 1) % 4294967296)] rfl (by (try simp only [List.map_toArray, List.map_cons, List.map_nil]); first | done | rfl | (simp only [List.length_drop, List.length_take]; rfl)) ?_; (with_reducible refine (word_Div.calls (a0 / 4) (((Go.bits .and .u32 a1 1073741823) + 1) % 4294967296) t111 t112 t113 _ A7.out).mono ?_); rintro e w' ⟨rfl, ⟨nd, rfl⟩⟩; refine ⟨_, rfl, ?_⟩) | ((with_reducible refine gate_callee (f := 12) rfl ?_); refine goesL_ (some 52) rfl rfl Try.func12 (by kernel_rfl) rfl #[.int .u32 (((a0 / 4) + (((Go.bits .and .u32 a1 1073741823) + 1) % 4294967296)) % 4294967296), .int .u32 (((Go.bits .and .u32 a1 1073741823) + 1) % 4294967296)] rfl (by (try simp only [List.map_toArray, List.map_cons, List.map_nil]); first | done | rfl | (simp only [List.length_drop, List.length_take]; rfl)) ?_; (with_reducible refine (word_Div.calls (((a0 / 4) + (((Go.bits .and .u32 a1 1073741823) + 1) % 4294967296)) % 4294967296) (((Go.bits .and .u32 a1 1073741823) + 1) % 4294967296) t114 t115 t116 _ A8.out).mono ?_); rintro e w' ⟨rfl, ⟨nd, rfl⟩⟩; refine ⟨_, rfl, ?_⟩))
        go_ret
        exact ⟨by first | rfl | (simp; done) | (simp [*]; done), by repeat (first | exact Drawn0.refl _ | apply Drawn0.step)⟩
    · replace c9 := Bool.eq_false_iff.mpr c9
      subst c9
      have H1 : (some false) = some r := by rw [if_neg (show ¬ (false = true) by decide)] at H; exact H
      clear H
      have H := H1
      clear H1
      obtain rfl := Option.some.inj H
      go_enter Try.func4, Try.ntmps4
      go_wp2_with (first | ((with_reducible refine gate_callee (f := 11) rfl ?_); refine goesL_ (some 19) rfl rfl Try.func11 (by kernel_rfl) rfl #[] rfl (by (try simp only [List.map_toArray, List.map_cons, List.map_nil]); first | done | rfl | (simp only [List.length_drop, List.length_take]; rfl)) ?_; (with_reducible refine (rivetlaw01_shown.calls  false _ A3.out).mono ?_); rintro e w' ⟨rfl, ⟨nd, rfl⟩⟩; refine ⟨_, rfl, ?_⟩) | ((with_reducible refine gate_callee (f := 12) rfl ?_); refine goesL_ (some 25) rfl rfl Try.func12 (by kernel_rfl) rfl #[.int .u32 a0, .int .u32 1] rfl (by (try simp only [List.map_toArray, List.map_cons, List.map_nil]); first | done | rfl | (simp only [List.length_drop, List.length_take]; rfl)) ?_; (with_reducible refine (word_Div.calls a0 1 t105 t106 t107 _ A4.out).mono ?_); rintro e w' ⟨rfl, ⟨nd, rfl⟩⟩; refine ⟨_, rfl, ?_⟩) | ((with_reducible refine gate_callee (f := 12) rfl ?_); refine goesL_ (some 34) rfl rfl Try.func12 (by kernel_rfl) rfl #[.int .u32 (Int.tmod a0 (((Go.bits .and .u32 a1 1073741823) + 1) % 4294967296)), .int .u32 (((Go.bits .and .u32 a1 1073741823) + 1) % 4294967296)] rfl (by (try simp only [List.map_toArray, List.map_cons, List.map_nil]); first | done | rfl | (simp only [List.length_drop, List.length_take]; rfl)) ?_; (with_reducible refine (word_Div.calls (Int.tmod a0 (((Go.bits .and .u32 a1 1073741823) + 1) % 4294967296)) (((Go.bits .and .u32 a1 1073741823) + 1) % 4294967296) t108 t109 t110 _ A6.out).mono ?_); rintro e w' ⟨rfl, ⟨nd, rfl⟩⟩; refine ⟨_, rfl, ?_⟩) | ((with_reducible refine gate_callee (f := 12) rfl ?_); refine goesL_ (some 42) rfl rfl Try.func12 (by kernel_rfl) rfl #[.int .u32 (a0 / 4), .int .u32 (((Go.bits .and .u32 a1 1073741823) + 1) % 4294967296)] rfl (by (try simp only [List.map_toArray, List.map_cons, List.map_nil]); first | done | rfl | (simp only [List.length_drop, List.length_take]; rfl)) ?_; (with_reducible refine (word_Div.calls (a0 / 4) (((Go.bits .and .u32 a1 1073741823) + 1) % 4294967296) t111 t112 t113 _ A7.out).mono ?_); rintro e w' ⟨rfl, ⟨nd, rfl⟩⟩; refine ⟨_, rfl, ?_⟩) | ((with_reducible refine gate_callee (f := 12) rfl ?_); refine goesL_ (some 52) rfl rfl Try.func12 (by kernel_rfl) rfl #[.int .u32 (((a0 / 4) + (((Go.bits .and .u32 a1 1073741823) + 1) % 4294967296)) % 4294967296), .int .u32 (((Go.bits .and .u32 a1 1073741823) + 1) % 4294967296)] rfl (by (try simp only [List.map_toArray, List.map_cons, List.map_nil]); first | done | rfl | (simp only [List.length_drop, List.length_take]; rfl)) ?_; (with_reducible refine (word_Div.calls (((a0 / 4) + (((Go.bits .and .u32 a1 1073741823) + 1) % 4294967296)) % 4294967296) (((Go.bits .and .u32 a1 1073741823) + 1) % 4294967296) t114 t115 t116 _ A8.out).mono ?_); rintro e w' ⟨rfl, ⟨nd, rfl⟩⟩; refine ⟨_, rfl, ?_⟩))
      go_ret
      exact ⟨by first | rfl | (simp; done) | (simp [*]; done), by repeat (first | exact Drawn0.refl _ | apply Drawn0.step)⟩

/-- THE ONE PURE STATEMENT of rivetlaw01_WordQuotients: yours. -/
def rivetlaw01_WordQuotients.Pure : Prop := ∀ (a0 : Int) (a1 : Int), (Lit.int .u32 a0).wf = true → (Lit.int .u32 a1).wf = true → rivetlaw01_WordQuotients.f a0 a1 = some true
theorem rivetlaw01_WordQuotients.walk (P : rivetlaw01_WordQuotients.Pure) (a0 : Int) (a1 : Int) (w : World) (w0 : (Lit.int .u32 a0).wf = true) (w1 : (Lit.int .u32 a1).wf = true) :
    Calls Try.prog 4 #[.int .u32 a0, .int .u32 a1] w fun e w' => e = .returned (.bool true) ∧ Below w.heap.size w w' := by
  have h := P a0 a1 w0 w1
  refine (rivetlaw01_WordQuotients.calls a0 a1 true w h).mono ?_
  rintro e w' ⟨rfl, hd⟩
  exact ⟨rfl, hd.below⟩

end Go.Proofs.Ythgnniiiekkodaa.PWordQuotients
