/-
  IsaFree's walk: each word of two formats is an instruction.
-/
import Derived.Test.YtnilkljibdjjgaaBits
namespace Go.Proofs.Ytnilkljibdjjgaa.Isa
open Go Go.RowKit Go.Proofs.Ytnilkljibdjjgaa.FieldM Go.Proofs.Ytnilkljibdjjgaa.Field

set_option maxHeartbeats 4000000 in
theorem free_raw (w X Y Z V a b im im2 : Int) (u2 : Bool) (W : World) (_w0 : 0 ≤ w) (_w1 : w ≤ 4294967295)
   (_x0 : 0 ≤ X) (_x1 : X ≤ 3) (_z0 : 0 ≤ Z) (_z1 : Z ≤ 15) (_m0 : -524288 ≤ im) (_m1 : im < 524288) (_n0 : -8388608 ≤ im2) (_n1 : im2 < 8388608)
   (_hX : bits .and .u32 (w / 268435456) 3 = X) (_hY : bits .and .u32 w 1048575 = Y) (_hY2 : bits .and .u32 (im % 4294967296) 1048575 = Y) (_hU : (bits .and .u32 (w / 268435456) 1 == 1) = u2)
   (_hZ : bits .and .u32 (w / 16777216) 15 = Z) (_hV : bits .and .u32 w 16777215 = V) (_hV2 : bits .and .u32 (im2 % 4294967296) 16777215 = V)
   (SH : Field.Aside (∀ wx, Calls Try.prog 11 #[] wx fun e w' => e = .returned (.bool true) ∧ Bl wx w'))
   (D1 : Field.Aside (∀ wx, Calls Try.prog 14 #[.int .u32 (bits .or .u32 (bits .and .u32 w 1073741823) 2147483648)] wx fun e w' => e = .returned (.tuple #[.agg #[.int .i64 5, .int .i64 X, .int .i64 a, .int .i64 b, .int .i64 0, .int .i64 im, .bool false], .bool true]) ∧ Bl wx w'))
   (D2 : Field.Aside (∀ wx, Calls Try.prog 14 #[.int .u32 (bits .or .u32 (bits .and .u32 w 536870911) 3758096384)] wx fun e w' => e = .returned (.tuple #[.agg #[.int .i64 7, .int .i64 Z, .int .i64 0, .int .i64 0, .int .i64 0, .int .i64 im2, .bool u2], .bool true]) ∧ Bl wx w')) :
   Calls Try.prog 10 #[.int .u32 w] W fun e w' => e = .returned (.bool true) ∧ Bl W w' := by
  go_enter Try.func10, Try.ntmps10
  go_wp2_with fail
  refine (SH.out _).mono ?_
  rintro e w1 ⟨rfl, k1⟩
  have K1 := Field.Aside.mk k1
  clear k1
  go_wp2_with fail
  refine (D1.out _).mono ?_
  rintro e w2 ⟨rfl, k2⟩
  have K2 := Field.Aside.mk ((K1.out.then k2.out).alloc (.cells #[.int .i64 5, .int .i64 X, .int .i64 a, .int .i64 b, .int .i64 0, .int .i64 im, .bool false] 23))
  have X := Field.Aside.mk (IBox.new w2 5 X a b 0 im false 23)
  clear k2
  go_wp2_with fail
  refine (D2.out _).mono ?_
  rintro e w3 ⟨rfl, k3⟩
  obtain ⟨x0, x1, x2, x3, x4, x5, x6, xf⟩ := X.out.keep k3
  have hlt : w2.heap.size < w3.heap.size := (X.out.keep k3).lt
  have hne : ¬ w2.heap.size = w3.heap.size := by omega
  have hne2 : ¬ w3.heap.size = w2.heap.size := by omega
  have K3 := Field.Aside.mk ((K2.out.then k3.out).alloc (.cells #[.int .i64 7, .int .i64 Z, .int .i64 0, .int .i64 0, .int .i64 0, .int .i64 im2, .bool u2] 23))
  clear k3 xf x2 x3 x4 x6
  go_wp2_with fail
  go_ret
  exact ⟨rfl, K3.out⟩

/-- The two words, as numbers. -/
theorem free1 (w : Nat) : w &&& 1073741823 ||| 2147483648 = w % 1073741824 + 2147483648 := by
  have e : w &&& 1073741823 = w % 1073741824 := Nat.and_two_pow_sub_one_eq_mod w 30
  have h := Nat.two_pow_add_eq_or_of_lt (i := 31) (b := w % 1073741824) (by omega) 1
  rw [e, Nat.or_comm]
  simp at h
  omega
theorem free2 (w : Nat) : w &&& 536870911 ||| 3758096384 = w % 536870912 + 3758096384 := by
  have e : w &&& 536870911 = w % 536870912 := Nat.and_two_pow_sub_one_eq_mod w 29
  have h := Nat.two_pow_add_eq_or_of_lt (i := 29) (b := w % 536870912) (by omega) 7
  rw [e, Nat.or_comm]
  simp at h
  omega
theorem mask_is (x m k d : Nat) (mi : Int) (hi : mi = (m : Int)) (hd : 2 ^ k = d) (hm : m = d - 1) (hx : x < 4294967296) (hk : k ≤ 32) : bits .and .u32 (x : Int) mi = ((x % d : Nat) : Int) := by
  have h2 : 2 ^ k ≤ 2 ^ 32 := Nat.pow_le_pow_right (by decide) hk
  have h3 := Nat.two_pow_pos k
  rw [hi, u32_and_nat _ _ hx (by omega), hm, ← hd, Nat.and_two_pow_sub_one_eq_mod]
theorem mask_imm (im : Int) (m k d : Nat) (mi : Int) (hi : mi = (m : Int)) (hd : 2 ^ k = d) (hm : m = d - 1) (r : Int) (hk : k ≤ 32) (h : im % (d : Int) = r) : bits .and .u32 (im % 4294967296) mi = r := by
  obtain ⟨x, hx⟩ := Int.eq_ofNat_of_zero_le (show 0 ≤ im % 4294967296 by omega)
  have hdv : (d : Int) ∣ 4294967296 := by
    have : (2 : Nat) ^ k ∣ 2 ^ 32 := Nat.pow_dvd_pow 2 hk
    rw [hd] at this
    exact Int.ofNat_dvd.2 this
  rw [hx, mask_is x m k d mi hi hd hm (by omega) hk, Int.natCast_emod, ← hx, Int.emod_emod_of_dvd _ hdv, h]

theorem b4 (w : Nat) : (0 : Int) ≤ ((w / 268435456 % 4 : Nat) : Int) ∧ ((w / 268435456 % 4 : Nat) : Int) ≤ 3 := by omega
theorem b16 (w : Nat) : (0 : Int) ≤ ((w / 16777216 % 16 : Nat) : Int) ∧ ((w / 16777216 % 16 : Nat) : Int) ≤ 15 := by omega
theorem s20_range (x : Nat) : -524288 ≤ signedN x 19 ∧ signedN x 19 < 524288 := by rw [signed20]; split <;> omega
theorem s24_range (x : Nat) : -8388608 ≤ signedN x 23 ∧ signedN x 23 < 8388608 := by rw [signed24]; split <;> omega
theorem s20_mod (x : Nat) : signedN x 19 % ((1048576 : Nat) : Int) = ((x % 1048576 : Nat) : Int) := by rw [signed20]; split <;> omega
theorem s24_mod (x : Nat) : signedN x 23 % ((16777216 : Nat) : Int) = ((x % 16777216 : Nat) : Int) := by rw [signed24]; split <;> omega

theorem free_walk (a : Int) (W : World) (wa : (Lit.int .u32 a).wf = true) : Calls Try.prog 10 #[.int .u32 a] W fun e w' => e = .returned (.bool true) ∧ Below W.heap.size W w' := by
  obtain ⟨a0, a1⟩ := wfu32 wa
  obtain ⟨w, rfl⟩ := Int.eq_ofNat_of_zero_le a0
  have hw : w < 4294967296 := by omega
  have e1 : bits .or .u32 (bits .and .u32 (w : Int) 1073741823) 2147483648 = ((w % 1073741824 + 2147483648 : Nat) : Int) := by
    rw [show (1073741823 : Int) = ((1073741823 : Nat) : Int) from rfl, u32_and_nat _ _ hw (by decide), show (2147483648 : Int) = ((2147483648 : Nat) : Int) from rfl, u32_or_nat _ _ (and_b hw) (by decide), free1]
  have e2 : bits .or .u32 (bits .and .u32 (w : Int) 536870911) 3758096384 = ((w % 536870912 + 3758096384 : Nat) : Int) := by
    rw [show (536870911 : Int) = ((536870911 : Nat) : Int) from rfl, u32_and_nat _ _ hw (by decide), show (3758096384 : Int) = ((3758096384 : Nat) : Int) from rfl, u32_or_nat _ _ (and_b hw) (by decide), free2]
  obtain ⟨x, hx⟩ : ∃ x, x = w % 1073741824 + 2147483648 := ⟨_, rfl⟩
  obtain ⟨y, hy⟩ : ∃ y, y = w % 536870912 + 3758096384 := ⟨_, rfl⟩
  rw [← hx] at e1
  rw [← hy] at e2
  have x30 : x / 1073741824 % 4 = 2 := by omega
  have y30 : y / 1073741824 % 4 = 3 := by omega
  have y29 : y / 536870912 % 2 = 1 := by omega
  have D1 := decode_ok x (by omega) (ok_mem (by omega) x30)
  have D2 := decode_ok y (by omega) (ok_jmp (by omega) y30 y29)
  rw [read_mem x30, ← e1] at D1
  rw [read_jmp y30 y29, ← e2] at D2
  have hxm : ((x % 1048576 : Nat) : Int) = ((w % 1048576 : Nat) : Int) := by omega
  have hym : ((y % 16777216 : Nat) : Int) = ((w % 16777216 : Nat) : Int) := by omega
  have ex : (2 * (x / 536870912 % 2 : Nat) + (x / 268435456 % 2 : Nat) : Int) = ((w / 268435456 % 4 : Nat) : Int) := by omega
  have ez : ((y / 16777216 % 16 : Nat) : Int) = ((w / 16777216 % 16 : Nat) : Int) := by omega
  have eu : y / 268435456 % 2 = w / 268435456 % 2 := by omega
  clear hx hy
  have hX : bits .and .u32 ((w : Int) / 268435456) 3 = ((w / 268435456 % 4 : Nat) : Int) := by
    have := mask_is (w / 268435456) 3 2 4 3 rfl (by decide) rfl (by omega) (by omega)
    rw [Int.natCast_ediv] at this
    exact this
  have hZ : bits .and .u32 ((w : Int) / 16777216) 15 = ((w / 16777216 % 16 : Nat) : Int) := by
    have := mask_is (w / 16777216) 15 4 16 15 rfl (by decide) rfl (by omega) (by omega)
    rw [Int.natCast_ediv] at this
    exact this
  have hU : (bits .and .u32 ((w : Int) / 268435456) 1 == 1) = decide (y / 268435456 % 2 = 1) := by
    have := mask_is (w / 268435456) 1 1 2 1 rfl (by decide) rfl (by omega) (by omega)
    rw [Int.natCast_ediv] at this
    rw [show bits .and .u32 ((w : Int) / 268435456) 1 = ((w / 268435456 % 2 : Nat) : Int) from this, bit_is, eu]
  have hY : bits .and .u32 (w : Int) 1048575 = ((w % 1048576 : Nat) : Int) := mask_is w 1048575 20 1048576 1048575 rfl (by decide) rfl hw (by omega)
  have hV : bits .and .u32 (w : Int) 16777215 = ((w % 16777216 : Nat) : Int) := mask_is w 16777215 24 16777216 16777215 rfl (by decide) rfl hw (by omega)
  have hY2 : bits .and .u32 (signedN x 19 % 4294967296) 1048575 = ((w % 1048576 : Nat) : Int) := mask_imm (signedN x 19) 1048575 20 1048576 1048575 rfl (by decide) rfl _ (by omega) ((s20_mod x).trans hxm)
  have hV2 : bits .and .u32 (signedN y 23 % 4294967296) 16777215 = ((w % 16777216 : Nat) : Int) := mask_imm (signedN y 23) 16777215 24 16777216 16777215 rfl (by decide) rfl _ (by omega) ((s24_mod y).trans hym)
  dsimp only [Ins.v] at D1 D2
  rw [ex] at D1
  rw [ez] at D2
  have bm := s20_range x
  have bn := s24_range y
  have wi0 : (0 : Int) ≤ w := a0
  have wi1 : (w : Int) ≤ 4294967295 := Int.le_of_lt_add_one a1
  have xi : (0 : Int) ≤ ((w / 268435456 % 4 : Nat) : Int) ∧ ((w / 268435456 % 4 : Nat) : Int) ≤ 3 := b4 w
  have zi : (0 : Int) ≤ ((w / 16777216 % 16 : Nat) : Int) ∧ ((w / 16777216 % 16 : Nat) : Int) ≤ 15 := b16 w
  exact (free_raw w _ _ _ _ _ _ _ _ _ W wi0 wi1 xi.1 xi.2 zi.1 zi.2 bm.1 bm.2 bn.1 bn.2 hX hY hY2 hU hZ hV hV2 shown_any D1 D2).mono fun _ _ ⟨e, k⟩ => ⟨e, k.out⟩
end Go.Proofs.Ytnilkljibdjjgaa.Isa
