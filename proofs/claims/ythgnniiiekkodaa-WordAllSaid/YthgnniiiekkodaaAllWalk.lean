/-
  WordAll's walk: sums, differences, products and shifts of any words are as the reference's.
-/
import Derived.Test.YthgnniiiekkodaaAllMath
namespace Go.Proofs.Ythgnniiiekkodaa.Hand
open Go.RowKit Go.Proofs.Ythgnniiiekkodaa.PWordAll Go.Proofs.YthgnniiiekkodaaW.PrintWords Go.Proofs.YthgnniiiekkodaaW.PrintLast Go.Proofs.YthgnniiiekkodaaW.PrintMore
open Go.Proofs.Ythgnniiiekkodaa.WordM

theorem quiet_d {P : Program} {f : FuncId} {args : Array Value} {w : World} {n : Nat} {v : Value} (h : Calls P f args (w.drewN n) fun e w' => e = .returned v ∧ Drawn0 (w.drewN n) w') :
    Calls P f args (w.drewN n) fun e w'' => e = .returned v ∧ ∃ m, w'' = w.drewN m :=
  Calls.quiet_of (h.mono fun _ _ ⟨he, hd⟩ => ⟨he, hd.out⟩)
theorem drawn_cell {w w' : World} (h : Drawn0 w w') (a : Addr) : w'.cell? a = w.cell? a := by
  obtain ⟨n, rfl⟩ := h; rfl

set_option maxHeartbeats 2000000 in
set_option maxRecDepth 100000 in
theorem all_raw (a b kd r s p q x y : Int) (cy c v d z : Bool) (W : World) (_ha : 0 ≤ a) (_ha2 : a ≤ 4294967295)
   (A : Aside0 (∀ w, Calls Try.prog 16 #[.int .u32 a, .int .u32 b, .bool cy] w fun e w' => e = .returned (.tuple #[.int .u32 r, .bool c, .bool v]) ∧ Drawn0 w w'))
   (RA : Aside0 (∀ w, Calls Try.prog 18 #[.int .u32 a, .int .u32 b, .bool cy] w fun e w' => e = .returned (.tuple #[.int .u32 r, .bool c, .bool v]) ∧ Drawn0 w w'))
   (S : Aside0 (∀ w, Calls Try.prog 17 #[.int .u32 a, .int .u32 b, .bool cy] w fun e w' => e = .returned (.tuple #[.int .u32 s, .bool d, .bool z]) ∧ Drawn0 w w'))
   (RS : Aside0 (∀ w, Calls Try.prog 19 #[.int .u32 a, .int .u32 b, .bool cy] w fun e w' => e = .returned (.tuple #[.int .u32 s, .bool d, .bool z]) ∧ Drawn0 w w'))
   (M : Aside0 (∀ w, Calls Try.prog 14 #[.int .u32 a, .int .u32 b, .bool cy] w fun e w' => e = .returned (.tuple #[.int .u32 p, .int .u32 q]) ∧ Drawn0 w w'))
   (RM : Aside0 (∀ w, Calls Try.prog 20 #[.int .u32 a, .int .u32 b, .bool cy] w fun e w' => e = .returned (.tuple #[.int .u32 p, .int .u32 q]) ∧ Drawn0 w w'))
   (H1 : Aside0 (∀ w, Calls Try.prog 15 #[.int .i64 kd, .int .u32 a, .int .u32 b] w fun e w' => e = .returned (.int .u32 x) ∧ Drawn0 w w'))
   (RH1 : Aside0 (∀ w, Calls Try.prog 21 #[.int .i64 kd, .int .u32 a, .int .u32 b] w fun e w' => e = .returned (.int .u32 x) ∧ Drawn0 w w'))
   (H2 : Aside0 (∀ w, Calls Try.prog 15 #[.int .i64 (1 + a % 3), .int .u32 a, .int .u32 b] w fun e w' => e = .returned (.int .u32 y) ∧ Drawn0 w w'))
   (RH2 : Aside0 (∀ w, Calls Try.prog 21 #[.int .i64 (1 + a % 3), .int .u32 a, .int .u32 b] w fun e w' => e = .returned (.int .u32 y) ∧ Drawn0 w w')) :
    Calls Try.prog 10 #[.int .u32 a, .int .u32 b, .agg #[.bool cy, .int .i64 kd]] W fun e w' => e = .returned (.bool true) ∧ Drawn0 (W.alloc (.cells #[.bool cy, .int .i64 kd] 38)) w' := by
  obtain ⟨W1, hW⟩ : ∃ W1, W1 = W.alloc (.cells #[.bool cy, .int .i64 kd] 38) := ⟨_, rfl⟩
  have q0 : W1.cell? ⟨W.heap.size, 0, none⟩ = some (.bool cy) := by rw [hW, World.cell?_alloc_at _ _ _ _ rfl]; rfl
  have q1 : W1.cell? ⟨W.heap.size, 1, none⟩ = some (.int .i64 kd) := by rw [hW, World.cell?_alloc_at _ _ _ _ rfl]; rfl
  rw [← hW]
  have HW := Aside0.mk hW
  clear hW
  go_enter Try.func10, Try.ntmps10
  go_wp2_with fail
  rw [← HW.out]
  go_wp2_with (first | (go_at_call 11; refine (shown_any _).mono ?_; rintro e w1 ⟨rfl, ⟨nd, rfl⟩⟩) | (go_at_call 16; (with_reducible refine (A.out _).mono ?_); rintro e w1 ⟨rfl, ⟨nd, rfl⟩⟩) | (go_at_call 18; (with_reducible refine (RA.out _).mono ?_); rintro e w1 ⟨rfl, ⟨nd, rfl⟩⟩) | (go_at_call 17; (with_reducible refine (S.out _).mono ?_); rintro e w1 ⟨rfl, ⟨nd, rfl⟩⟩) | (go_at_call 19; (with_reducible refine (RS.out _).mono ?_); rintro e w1 ⟨rfl, ⟨nd, rfl⟩⟩) | (go_at_call 14; (with_reducible refine (M.out _).mono ?_); rintro e w1 ⟨rfl, ⟨nd, rfl⟩⟩) | (go_at_call 20; (with_reducible refine (RM.out _).mono ?_); rintro e w1 ⟨rfl, ⟨nd, rfl⟩⟩) | (go_at_call 15; (first | (with_reducible refine (H1.out _).mono ?_) | (with_reducible refine (H2.out _).mono ?_)); rintro e w1 ⟨rfl, ⟨nd, rfl⟩⟩) | (go_at_call 21; (first | (with_reducible refine (RH1.out _).mono ?_) | (with_reducible refine (RH2.out _).mono ?_)); rintro e w1 ⟨rfl, ⟨nd, rfl⟩⟩))
  generalize hK : World.drewN _ _ = Wc
  have HK : Aside0 (Drawn0 W1 Wc) := ⟨⟨⟨_, hK.symm⟩⟩⟩
  clear hK
  have c1 : Wc.cell? ⟨W.heap.size, 1, none⟩ = some (.int .i64 kd) := (drawn_cell HK.out _).trans q1
  clear q0 q1
  have t3 : Int.tmod a 3 = a % 3 := Int.tmod_eq_emod_of_nonneg (by omega)
  have t4 : IntKind.i64.wrap (1 + a % 3) = 1 + a % 3 := IntWalk.i64_in _ (by omega)
  have t5 : IntKind.i64.wrap (a % 3) = a % 3 := IntWalk.i64_in _ (by omega)
  go_quiet ((first | (go_at_call 15; (with_reducible refine quiet_d (H1.out _))) | (go_at_call 15; (with_reducible refine quiet_d (H2.out _))) | (go_at_call 21; (with_reducible refine quiet_d (RH1.out _))) | (go_at_call 21; (with_reducible refine quiet_d (RH2.out _)))))
  go_wp2
  go_ret
  exact ⟨rfl, HK.out.step _⟩

theorem mulA_is {a b p q : Int} {u : Bool} (h : word_Mul.f a b u = some (p, q)) : Aside0 (∀ w, Calls Try.prog 14 #[.int .u32 a, .int .u32 b, .bool u] w fun e w' => e = .returned (.tuple #[.int .u32 p, .int .u32 q]) ∧ Drawn0 w w') :=
  ⟨fun w => word_Mul.calls a b u p q w h⟩
theorem rmulA_is {a b p q : Int} {u : Bool} (h : rivetref01_Mul.f a b u = some (p, q)) : Aside0 (∀ w, Calls Try.prog 20 #[.int .u32 a, .int .u32 b, .bool u] w fun e w' => e = .returned (.tuple #[.int .u32 p, .int .u32 q]) ∧ Drawn0 w w') :=
  ⟨fun w => rivetref01_Mul.calls a b u p q w h⟩

theorem tm32 (n : Nat) : wrap64 (Int.tmod (n : Int) 32) = ((n % 32 : Nat) : Int) := by
  rw [Int.tmod_eq_emod_of_nonneg (by omega), w64 (by omega) (by omega)]
  omega
theorem shift_left (a n : Nat) : word_Shift.f 1 a n = some ((a * 2 ^ (n % 32) % 4294967296 : Nat) : Int) := by
  unfold word_Shift.f
  rw [if_pos rfl, tm32, if_pos (by omega), shl_is _ _ (by omega)]
theorem shift_sign (a : Int) (n : Nat) : word_Shift.f 2 a n = some (wrap32 a / 2 ^ (n % 32) % 4294967296) := by
  unfold word_Shift.f
  rw [if_neg (by decide), if_pos rfl, tm32, if_pos (by omega), sar_is _ _ (by omega)]
theorem turn (a k : Nat) (ha : a < 4294967296) (hk : k < 32) : bits_RotateLeft32.f a (wrap64 (-(k : Int))) = some ((rotN a k : Nat) : Int) := by
  have hm : bits .and .u64 (IntKind.u64.wrap (wrap64 (-(k : Int)))) 31 = (((32 - k) % 32 : Nat) : Int) := by
    rw [w64 (by omega) (by omega), u64_wrap, mask5 _ (by omega) (by omega)]
    omega
  have h2 : IntKind.u64.wrap (32 - (((32 - k) % 32 : Nat) : Int)) = ((32 - (32 - k) % 32 : Nat) : Int) := by
    rw [u64_wrap]; omega
  unfold bits_RotateLeft32.f
  rw [hm, if_pos (by omega), h2, if_pos (by omega), shl_is _ _ (by omega), shr_is _ _ (by omega)]
  by_cases z : k = 0
  · subst z
    rw [rot_zero]
    have e1 : a * 2 ^ ((32 - 0) % 32) % 4294967296 = a := by simp; omega
    have e2 : a / 2 ^ (32 - (32 - 0) % 32) = 0 := Nat.div_eq_of_lt ha
    rw [e1, e2, u32_or_nat _ _ (by omega) (by omega)]
    simp
  · have e0 : (32 - k) % 32 = 32 - k := by omega
    have e1 : 32 - (32 - k) = k := by omega
    have lt : a / 2 ^ k < 4294967296 := Nat.lt_of_le_of_lt (Nat.div_le_self _ _) ha
    rw [e0, e1, u32_or_nat _ _ (by omega) lt, rot_or ha (by omega)]
theorem shift_turn (a n : Nat) (ha : a < 4294967296) : word_Shift.f 3 a n = some ((rotN a (n % 32) : Nat) : Int) := by
  unfold word_Shift.f
  rw [if_neg (by decide), if_neg (by decide), if_pos rfl, tm32, turn _ _ ha (by omega)]
  rfl
theorem sdiv_range (s : Int) (k : Nat) (h0 : -2147483648 ≤ s) (h1 : s < 2147483648) : -2147483648 ≤ s / 2 ^ k ∧ s / 2 ^ k < 2147483648 :=
  ediv_range (Int.pow_pos (by omega)) h0 h1

/-- What both shifts come to. -/
structure Both (kd : Int) (a b : Nat) (x : Int) : Prop where
  prg : word_Shift.f kd a b = some x
  ref : rivetref01_Shift.f 33 kd a b = some x
theorem both_shift (kd : Int) (a b : Nat) (ha : a < 4294967296) : ∃ x, Both kd a b x := by
  by_cases k1 : kd = 1
  · subst k1
    refine ⟨_, shift_left a b, ?_⟩
    have h := ref_shift 1 b (fun j => ((a * 2 ^ j % 4294967296 : Nat) : Int)) (fun j _ => by omega) (fun j _ => by
      simp only [stepS, if_true]
      rw [Nat.pow_succ, ← Nat.mul_assoc]
      omega)
    simpa [Nat.mod_eq_of_lt ha] using h
  · by_cases k2 : kd = 2
    · subst k2
      refine ⟨_, shift_sign a b, ?_⟩
      have r := w32r (a : Int)
      have h := ref_shift 2 b (fun j => wrap32 (a : Int) / 2 ^ j % 4294967296) (fun j _ => by omega) (fun j _ => by
        have e : wrap32 (a : Int) / 2 ^ (j + 1) = wrap32 (a : Int) / 2 ^ j / 2 := by rw [Int.pow_succ, Int.ediv_ediv_of_nonneg (Int.pow_nonneg (by decide))]
        have s := sdiv_range (wrap32 (a : Int)) j r.1 r.2
        simp only [stepS, show ¬ (2 : Int) = 1 by decide, if_true, if_false]
        rw [e]
        generalize wrap32 (a : Int) / 2 ^ j = z at *
        omega)
      have e0 : wrap32 (a : Int) / 2 ^ 0 % 4294967296 = a := by rw [Int.pow_zero, Int.ediv_one]; unfold wrap32; omega
      simp only [e0] at h
      exact h
    · by_cases k3 : kd = 3
      · subst k3
        refine ⟨_, shift_turn a b ha, ?_⟩
        have h := ref_shift 3 b (fun j => ((rotN a j : Nat) : Int)) (fun j hj => by
          have := rot_lt (k := j) ha (by omega)
          omega) (fun j hj => by
          have e := rot_rot (x := j) (y := 1) ha (by omega)
          simp only [stepS, show ¬ (3 : Int) = 1 by decide, show ¬ (3 : Int) = 2 by decide, if_true, if_false]
          rw [← e]
          generalize rotN a j = z at *
          simp only [rotN, Nat.pow_one]
          omega)
        simp only [rot_zero] at h
        exact h
      · refine ⟨a, ?_, ?_⟩
        · unfold word_Shift.f
          rw [if_neg k1, if_neg k2, if_neg k3]
        · exact ref_shift kd b (fun _ => (a : Int)) (fun j _ => by omega) (fun j _ => by
            simp only [stepS, if_neg k1, if_neg k2, if_neg k3])

theorem all_walk (a b : Int) (cy : Bool) (kd : Int) (W : World) (wa : (Lit.int .u32 a).wf = true) (wb : (Lit.int .u32 b).wf = true) (_wk : (Lit.int .i64 kd).wf = true) :
    Calls Try.prog 10 #[.int .u32 a, .int .u32 b, .agg #[.bool cy, .int .i64 kd]] W fun e w' => e = .returned (.bool true) ∧ Below W.heap.size W w' := by
  have ha := wf32 wa
  have hb := wf32 wb
  obtain ⟨x, hx⟩ : ∃ x, Both kd a.toNat b.toNat x := both_shift kd a.toNat b.toNat (by omega)
  obtain ⟨y, hy⟩ : ∃ y, Both (1 + a % 3) a.toNat b.toNat y := both_shift (1 + a % 3) a.toNat b.toNat (by omega)
  have ea : (a.toNat : Int) = a := by omega
  have eb : (b.toNat : Int) = b := by omega
  obtain ⟨x1, x2⟩ := hx
  obtain ⟨y1, y2⟩ := hy
  rw [ea, eb] at x1 x2 y1 y2
  obtain ⟨p, q, m1, m2⟩ : ∃ p q, word_Mul.f a b cy = some (p, q) ∧ rivetref01_Mul.f a b cy = some (p, q) := by
    cases cy
    · exact ⟨_, _, mul_s a b, ref_mul_s ha hb⟩
    · exact ⟨_, _, mul_u ha hb, ref_mul_u ha hb⟩
  refine (all_raw a b kd _ _ p q x y cy _ _ _ _ W (by omega) (by omega) ⟨fun w => add_any a b cy ha hb w⟩ ⟨fun w => rivetref01_Add.calls a b cy _ _ _ w (ref_add cy ha hb)⟩
    ⟨fun w => sub_any a b cy ha hb w⟩ ⟨fun w => rivetref01_Sub.calls a b cy _ _ _ w (ref_sub cy ha hb)⟩ (mulA_is m1) (rmulA_is m2)
    ⟨fun w => word_Shift.calls kd a b x w x1⟩ ⟨fun w => rivetref01_Shift.calls 33 kd a b x w x2⟩ ⟨fun w => word_Shift.calls _ a b y w y1⟩ ⟨fun w => rivetref01_Shift.calls 33 _ a b y w y2⟩).mono ?_
  rintro e w' ⟨rfl, hd⟩
  have hq := hd.below
  exact ⟨rfl, ((Below.refl _ _).alloc (Nat.le_refl _) _).trans ⟨hq.os, hq.tape, hq.output, hq.size, fun i hi => hq.block i (by simp; omega)⟩⟩
end Go.Proofs.Ythgnniiiekkodaa.Hand
