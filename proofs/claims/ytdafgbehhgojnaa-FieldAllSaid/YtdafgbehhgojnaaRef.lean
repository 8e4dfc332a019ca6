/-
  The reference's Get and Set: what each returns, for any numbers.
-/
import Derived.Test.YtdafgbehhgojnaaLaws
namespace Go.Proofs.Ytdafgbehhgojnaa.Laws
open Go.RowKit Go.Proofs.Ytdafgbehhgojnaa.FieldM Go.Proofs.Ytdafgbehhgojnaa.Field

theorem in_raw (i a n d : Int) (w : World) (hd : wrap64 (i - a) = d) (c1 : 1 ≤ n) (c2 : a ≤ i) (c3 : d < n) (c4 : 0 ≤ d) :
    Calls Try.prog 21 #[.int .i64 i, .int .i64 a, .int .i64 n] w fun e w' => e = .returned (.bool true) ∧ w' = w := by
  go_enter Try.func21, Try.ntmps21
  go_wp2
  go_ret
  exact ⟨rfl, rfl⟩
theorem in_raw1 (i a n : Int) (w : World) (c1 : n < 1) :
    Calls Try.prog 21 #[.int .i64 i, .int .i64 a, .int .i64 n] w fun e w' => e = .returned (.bool false) ∧ w' = w := by
  go_enter Try.func21, Try.ntmps21
  go_wp2
  go_ret
  exact ⟨rfl, rfl⟩
theorem in_raw2 (i a n : Int) (w : World) (c1 : 1 ≤ n) (c2 : i < a) :
    Calls Try.prog 21 #[.int .i64 i, .int .i64 a, .int .i64 n] w fun e w' => e = .returned (.bool false) ∧ w' = w := by
  go_enter Try.func21, Try.ntmps21
  go_wp2
  go_ret
  exact ⟨rfl, rfl⟩
theorem in_raw3 (i a n d : Int) (w : World) (hd : wrap64 (i - a) = d) (c1 : 1 ≤ n) (c2 : a ≤ i) (c3 : n ≤ d) :
    Calls Try.prog 21 #[.int .i64 i, .int .i64 a, .int .i64 n] w fun e w' => e = .returned (.bool false) ∧ w' = w := by
  go_enter Try.func21, Try.ntmps21
  go_wp2
  go_ret
  exact ⟨rfl, rfl⟩
theorem in_raw4 (i a n d : Int) (w : World) (hd : wrap64 (i - a) = d) (c1 : 1 ≤ n) (c2 : a ≤ i) (c3 : d < n) (c4 : d < 0) :
    Calls Try.prog 21 #[.int .i64 i, .int .i64 a, .int .i64 n] w fun e w' => e = .returned (.bool false) ∧ w' = w := by
  go_enter Try.func21, Try.ntmps21
  go_wp2
  go_ret
  exact ⟨congrArg (fun z => Ending.returned (.bool z)) (decide_eq_false (by omega)), rfl⟩

/-- Is a bit in the field: as it is, whatever goes round. -/
theorem in_any (i a n : Int) (b : Bool) (hb : inF i a n = b) (h0 : 0 ≤ i) (h1 : i < 32) (ha : -9223372036854775808 ≤ a ∧ a ≤ 9223372036854775807) (hn : n ≤ 9223372036854775807) (w : World) :
    Calls Try.prog 21 #[.int .i64 i, .int .i64 a, .int .i64 n] w fun e w' => e = .returned (.bool b) ∧ w' = w := by
  unfold inF at hb
  by_cases c1 : 1 ≤ n
  · by_cases c2 : a ≤ i
    · by_cases c3 : i - a ≤ 9223372036854775807
      · have hd : wrap64 (i - a) = i - a := by unfold wrap64; omega
        by_cases c4 : i - a < n
        · rw [decide_eq_true ⟨c1, c2, c4⟩] at hb
          rw [← hb]
          exact in_raw i a n _ w hd c1 c2 c4 (by omega)
        · rw [decide_eq_false (by omega)] at hb
          rw [← hb]
          exact in_raw3 i a n _ w hd c1 c2 (by omega)
      · have hd : wrap64 (i - a) = i - a - 18446744073709551616 := by unfold wrap64; omega
        rw [decide_eq_false (by omega)] at hb
        rw [← hb]
        exact in_raw4 i a n _ w hd c1 c2 (by omega) (by omega)
    · rw [decide_eq_false (by omega)] at hb
      rw [← hb]
      exact in_raw2 i a n w c1 (by omega)
  · rw [decide_eq_false (by omega)] at hb
    rw [← hb]
    exact in_raw1 i a n w (by omega)

/-- What the loop of the reference's Get keeps. -/
def GP (x : Nat) (a n : Int) (k o : Nat) : Prop :=
  o < 4294967296 ∧ ∀ p, p < 32 → o.testBit p = (decide ((p : Int) + a < k) && (inF (p + a) a n && bitZ x (p + a)))
theorem GP.start (x : Nat) (a n : Int) : GP x a n 0 0 := by
  refine ⟨by omega, fun p hp => ?_⟩
  rw [Nat.zero_testBit]
  symm
  unfold bitZ
  by_cases h : (p : Int) + a < 0
  · rw [decide_eq_false (p := 0 ≤ (p : Int) + a ∧ (p : Int) + a < 32) (by omega)]; simp
  · rw [decide_eq_false (p := (p : Int) + a < (0 : Nat)) (by omega)]; rfl
theorem GP.skip {x : Nat} {a n : Int} {k o : Nat} (h : GP x a n k o) (hk : k < 32) (hs : (inF k a n && (decide ((k : Int) - a < 32) && x.testBit k)) = false) : GP x a n (k + 1) o := by
  refine ⟨h.1, fun p hp => ?_⟩
  rw [h.2 p hp]
  by_cases e : (p : Int) + a = k
  · rw [decide_eq_false (p := (p : Int) + a < k) (by omega), decide_eq_true (p := (p : Int) + a < (k + 1 : Nat)) (by omega), e]
    have hb : bitZ x (k : Int) = x.testBit k := by
      unfold bitZ
      rw [decide_eq_true (by omega), Int.toNat_natCast]; rfl
    rw [decide_eq_true (p := (k : Int) - a < 32) (by omega)] at hs
    rw [hb, Bool.false_and]
    simpa using hs.symm
  · congr 1
    apply decide_eq_decide.2
    omega
theorem GP.step {x : Nat} {a n : Int} {k o q : Nat} (h : GP x a n k o) (hk : k < 32) (hq : (k : Int) - a = q) (hq2 : q < 32) (hi : inF k a n = true) (hx : x.testBit k = true) : GP x a n (k + 1) (o ||| 2 ^ q) := by
  refine ⟨Nat.or_lt_two_pow (n := 32) h.1 (Nat.pow_lt_pow_right (by decide) hq2), fun p hp => ?_⟩
  rw [Nat.testBit_or, h.2 p hp, Nat.testBit_two_pow]
  by_cases e : p = q
  · have e1 : (p : Int) + a = k := by omega
    rw [decide_eq_true (p := q = p) e.symm, decide_eq_true (p := (p : Int) + a < (k + 1 : Nat)) (by omega), e1, hi]
    have hb : bitZ x (k : Int) = x.testBit k := by
      unfold bitZ
      rw [decide_eq_true (by omega), Int.toNat_natCast]; rfl
    rw [hb, hx]; simp
  · have e2 : ¬ q = p := fun h => e h.symm
    rw [decide_eq_false e2, Bool.or_false]
    congr 1
    apply decide_eq_decide.2
    omega
theorem GP.done {x : Nat} {a n : Int} {o : Nat} (h : GP x a n 32 o) : o = getN x a n := by
  apply eq_natOf h.1
  intro p hp
  rw [h.2 p hp]
  unfold bitZ
  by_cases c : 0 ≤ (p : Int) + a ∧ (p : Int) + a < 32
  · rw [decide_eq_true (p := (p : Int) + a < (32 : Nat)) (by omega)]; rfl
  · rw [decide_eq_false c]; simp

theorem bit_test (x k : Nat) (hx : x < 4294967296) : (bits .and .u32 ((x : Int) / 2 ^ k) 1 == 1) = x.testBit k := by
  have hd : x / 2 ^ k ≤ x := Nat.div_le_self _ _
  rw [div_pow_cast, and_one _ (by omega), Nat.testBit_eq_decide_div_mod_eq]
  by_cases h : x / 2 ^ k % 2 = 1
  · rw [h]; rfl
  · have h0 : x / 2 ^ k % 2 = 0 := by omega
    rw [h0]; rfl
theorem or_pow (o q : Nat) (ho : o < 4294967296) (hq : q < 32) : bits .or .u32 (o : Int) (2 ^ q % 4294967296) = ((o ||| 2 ^ q : Nat) : Int) := by
  have h : 2 ^ q < 4294967296 := Nat.pow_lt_pow_right (n := 32) (by decide) hq
  have e : (2 : Int) ^ q % 4294967296 = ((2 ^ q : Nat) : Int) := by
    have e1 : (2 : Int) ^ q = ((2 ^ q : Nat) : Int) := by simp
    rw [e1]
    generalize 2 ^ q = z at *
    omega
  rw [e, u32_or_nat _ _ ho h]

theorem GP.at32 {x : Nat} {a n : Int} {k o : Nat} (h : GP x a n k o) (hk : k ≤ 32) (c : ¬ k < 32) : o = getN x a n := by
  obtain rfl : k = 32 := by omega
  exact h.done
set_option maxHeartbeats 3200000 in
theorem rget_any (x : Nat) (a n : Int) (w : World) (hx : x < 4294967296) (ha : -9223372036854775808 ≤ a ∧ a ≤ 9223372036854775807) (hn : n ≤ 9223372036854775807) :
    Calls Try.prog 13 #[.int .u32 x, .int .i64 a, .int .i64 n] w fun e w' => e = .returned (.int .u32 (getN x a n)) ∧ Below w.heap.size w w' := by
  obtain ⟨ha1, ha2⟩ := ha
  go_enter Try.func13, Try.ntmps13
  go_wp2_with fail
  go_loopw [7, 8] (fun o i wr => ∃ k t : Nat, i = .int .i64 k ∧ o = .int .u32 t ∧ k ≤ 32 ∧ Field.Aside (GP x a n k t) ∧ Field.Aside (Below w.heap.size w wr)) (fun _ i _ => 32 - (intOf i).toNat)
  case atStart => exact ⟨0, 0, rfl, rfl, by omega, ⟨GP.start x a n⟩, ⟨Below.refl _ _⟩⟩
  case round =>
    obtain ⟨k, t, rfl, rfl, hk, HG, HB⟩ := hrel
    by_cases c0 : k < 32
    · have ht := HG.out.1
      have HB2 : Field.Aside (Below w.heap.size w wr.drew) := ⟨HB.out.drew⟩
      by_cases c1 : inF k a n = true
      · have HI := Field.Aside.mk (in_any k a n true c1 (by omega) (by omega) ⟨ha1, ha2⟩ hn)
        have c1' : 1 ≤ n ∧ a ≤ k ∧ (k : Int) - a < n := of_decide_eq_true c1
        obtain ⟨d1, d2, d3⟩ := c1'
        have C1 := Field.Aside.mk c1
        clear c1
        by_cases c2 : (k : Int) - a < 32
        · by_cases c3 : x.testBit k = true
          · have b3 : (bits .and .u32 ((x : Int) / 2 ^ k) 1 == 1) = true := by rw [bit_test x k hx, c3]
            obtain ⟨q, hq⟩ := Int.eq_ofNat_of_zero_le (show 0 ≤ (k : Int) - a by omega)
            have HQ := Field.Aside.mk hq
            have hor := Field.Aside.mk (or_pow t q ht (by omega))
            have hw : IntKind.i64.wrap ((k : Int) - a) = (k : Int) - a := by simp [IntKind.wrap, IntKind.bits, IntKind.signed]; omega
            have C3 := Field.Aside.mk c3
            clear c3 hq
            go_wp2_with (go_at_call 21; refine (HI.out _).mono ?_; rintro e w1 ⟨rfl, rfl⟩)
            go_roundw
            case rel => exact ⟨k + 1, t ||| 2 ^ q, by simp, by rw [HQ.out, Int.toNat_natCast, hor.out], by omega, ⟨HG.out.step c0 HQ.out (by have := HQ.out; omega) C1.out C3.out⟩, HB⟩
            case measure => simp [intOf]; omega
          · have b3 : (bits .and .u32 ((x : Int) / 2 ^ k) 1 == 1) = false := by rw [bit_test x k hx]; simpa using c3
            have HS := Field.Aside.mk (HG.out.skip c0 (by simp [c3]))
            have hw : IntKind.i64.wrap ((k : Int) - a) = (k : Int) - a := by simp [IntKind.wrap, IntKind.bits, IntKind.signed]; omega
            clear c3
            go_wp2_with (go_at_call 21; refine (HI.out _).mono ?_; rintro e w1 ⟨rfl, rfl⟩)
            go_roundw
            case rel => exact ⟨k + 1, t, by simp, rfl, by omega, HS, HB⟩
            case measure => simp [intOf]; omega
        · have HS := Field.Aside.mk (HG.out.skip c0 (by rw [decide_eq_false c2]; simp))
          go_wp2_with (go_at_call 21; refine (HI.out _).mono ?_; rintro e w1 ⟨rfl, rfl⟩)
          go_roundw
          case rel => exact ⟨k + 1, t, by simp, rfl, by omega, HS, HB⟩
          case measure => simp [intOf]; omega
      · have c1' : inF k a n = false := by simpa using c1
        have HS := Field.Aside.mk (HG.out.skip c0 (by rw [c1']; rfl))
        have HI := Field.Aside.mk (in_any k a n false c1' (by omega) (by omega) ⟨ha1, ha2⟩ hn)
        clear c1 c1'
        go_wp2_with (go_at_call 21; refine (HI.out _).mono ?_; rintro e w1 ⟨rfl, rfl⟩)
        go_roundw
        case rel => exact ⟨k + 1, t, by simp, rfl, by omega, HS, HB⟩
        case measure => simp [intOf]; omega
    · have HD := Field.Aside.mk (HG.out.at32 hk c0)
      go_wp2
      go_ret
      exact ⟨by rw [← HD.out]; rfl, HB.out⟩

/-- What the loop of the reference's Set keeps. -/
def SP (x : Nat) (a n : Int) (w k o : Nat) : Prop :=
  o < 4294967296 ∧ ∀ p, p < 32 → o.testBit p = if p < k ∧ inF p a n = true then bitZ x ((p : Int) - a) else w.testBit p
theorem SP.start {x w : Nat} {a n : Int} (hw : w < 4294967296) : SP x a n w 0 w := ⟨hw, fun p _ => by rw [if_neg (by omega)]⟩
theorem SP.skip {x w : Nat} {a n : Int} {k o : Nat} (h : SP x a n w k o) (hi : inF k a n = false) : SP x a n w (k + 1) o := by
  refine ⟨h.1, fun p hp => ?_⟩
  rw [h.2 p hp]
  by_cases e : p = k
  · subst e
    rw [hi, if_neg (by simp), if_neg (by simp)]
  · by_cases c : inF p a n = true
    · by_cases d : p < k
      · rw [if_pos ⟨d, c⟩, if_pos ⟨by omega, c⟩]
      · rw [if_neg (by omega), if_neg (by omega)]
    · rw [if_neg (fun h => c h.2), if_neg (fun h => c h.2)]
theorem clear_lt {o k : Nat} (ho : o < 4294967296) : o &&& (4294967295 - 2 ^ k) < 4294967296 := Nat.lt_of_le_of_lt Nat.and_le_left ho
theorem SP.clear {x w : Nat} {a n : Int} {k o : Nat} (h : SP x a n w k o) (hk : k < 32) (hi : inF k a n = true) (hb : bitZ x ((k : Int) - a) = false) : SP x a n w (k + 1) (o &&& (4294967295 - 2 ^ k)) := by
  refine ⟨clear_lt h.1, fun p hp => ?_⟩
  rw [clear_bit o k p hk hp, h.2 p hp]
  by_cases e : p = k
  · subst e
    rw [if_neg (by omega), if_pos ⟨by omega, hi⟩, hb]; simp
  · rw [decide_eq_false e]
    by_cases c : inF p a n = true
    · by_cases d : p < k
      · rw [if_pos ⟨d, c⟩, if_pos ⟨by omega, c⟩]; simp
      · rw [if_neg (by omega), if_neg (by omega)]; simp
    · rw [if_neg (fun h => c h.2), if_neg (fun h => c h.2)]; simp
theorem SP.put {x w : Nat} {a n : Int} {k o : Nat} (h : SP x a n w k o) (hk : k < 32) (hi : inF k a n = true) (hb : bitZ x ((k : Int) - a) = true) : SP x a n w (k + 1) ((o &&& (4294967295 - 2 ^ k)) ||| 2 ^ k) := by
  refine ⟨Nat.or_lt_two_pow (n := 32) (clear_lt h.1) (Nat.pow_lt_pow_right (by decide) hk), fun p hp => ?_⟩
  rw [Nat.testBit_or, clear_bit o k p hk hp, h.2 p hp, Nat.testBit_two_pow]
  by_cases e : p = k
  · subst e
    rw [if_neg (by omega), if_pos ⟨by omega, hi⟩, hb]; simp
  · have e2 : ¬ k = p := fun h => e h.symm
    rw [decide_eq_false e, decide_eq_false e2]
    by_cases c : inF p a n = true
    · by_cases d : p < k
      · rw [if_pos ⟨d, c⟩, if_pos ⟨by omega, c⟩]; simp
      · rw [if_neg (by omega), if_neg (by omega)]; simp
    · rw [if_neg (fun h => c h.2), if_neg (fun h => c h.2)]; simp
theorem SP.done {x w : Nat} {a n : Int} {o : Nat} (h : SP x a n w 32 o) : o = setN w a n x := by
  apply eq_natOf h.1
  intro p hp
  rw [h.2 p hp]
  by_cases c : inF p a n = true
  · rw [if_pos ⟨hp, c⟩, c]; rfl
  · rw [if_neg (fun h => c h.2), if_neg c]

theorem andNot_pow (o k : Nat) (ho : o < 4294967296) (hk : k < 32) : bits .andNot .u32 (o : Int) (2 ^ k % 4294967296) = ((o &&& (4294967295 - 2 ^ k) : Nat) : Int) := by
  have h : 2 ^ k < 4294967296 := Nat.pow_lt_pow_right (n := 32) (by decide) hk
  have e : (2 : Int) ^ k % 4294967296 = ((2 ^ k : Nat) : Int) := by
    have e1 : (2 : Int) ^ k = ((2 ^ k : Nat) : Int) := by simp
    rw [e1]
    generalize 2 ^ k = z at *
    omega
  rw [e, u32_andNot_nat _ _ ho h]

theorem SP.at32 {x w : Nat} {a n : Int} {k o : Nat} (h : SP x a n w k o) (hk : k ≤ 32) (c : ¬ k < 32) : o = setN w a n x := by
  obtain rfl : k = 32 := by omega
  exact h.done
set_option maxHeartbeats 3200000 in
theorem rset_any (w0 : Nat) (a n : Int) (x : Nat) (w : World) (hw0 : w0 < 4294967296) (hx : x < 4294967296) (ha : -9223372036854775808 ≤ a ∧ a ≤ 9223372036854775807) (hn : n ≤ 9223372036854775807) :
    Calls Try.prog 14 #[.int .u32 w0, .int .i64 a, .int .i64 n, .int .u32 x] w fun e w' => e = .returned (.int .u32 (setN w0 a n x)) ∧ Below w.heap.size w w' := by
  obtain ⟨ha1, ha2⟩ := ha
  go_enter Try.func14, Try.ntmps14
  go_wp2_with fail
  go_loopw [0, 9] (fun o i wr => ∃ k t : Nat, i = .int .i64 k ∧ o = .int .u32 t ∧ k ≤ 32 ∧ Field.Aside (SP x a n w0 k t) ∧ Field.Aside (Below w.heap.size w wr)) (fun _ i _ => 32 - (intOf i).toNat)
  case atStart => exact ⟨0, w0, rfl, rfl, by omega, ⟨SP.start hw0⟩, ⟨Below.refl _ _⟩⟩
  case round =>
    obtain ⟨k, t, rfl, rfl, hk, HG, HB⟩ := hrel
    by_cases c0 : k < 32
    · have ht := HG.out.1
      by_cases c1 : inF k a n = true
      · have HI := Field.Aside.mk (in_any k a n true c1 (by omega) (by omega) ⟨ha1, ha2⟩ hn)
        have c1' : 1 ≤ n ∧ a ≤ k ∧ (k : Int) - a < n := of_decide_eq_true c1
        obtain ⟨d1, d2, d3⟩ := c1'
        have C1 := Field.Aside.mk c1
        clear c1
        obtain ⟨q, hq⟩ := Int.eq_ofNat_of_zero_le (show 0 ≤ (k : Int) - a by omega)
        have HQ := Field.Aside.mk hq
        have hcl := Field.Aside.mk (andNot_pow t k ht c0)
        have hlt := clear_lt (k := k) ht
        have hw : IntKind.i64.wrap ((k : Int) - a) = (k : Int) - a := by simp [IntKind.wrap, IntKind.bits, IntKind.signed]; omega
        clear hq
        by_cases c2 : (k : Int) - a < 32
        · have hz : bitZ x ((k : Int) - a) = x.testBit q := by
            have hq2 : (q : Int) < 32 := by have := HQ.out; omega
            rw [HQ.out]; unfold bitZ; rw [decide_eq_true ⟨by omega, hq2⟩, Int.toNat_natCast]; rfl
          by_cases c3 : x.testBit q = true
          · have b3 : (bits .and .u32 ((x : Int) / 2 ^ ((k : Int) - a).toNat) 1 == 1) = true := by rw [HQ.out, Int.toNat_natCast, bit_test x q hx, c3]
            have HS := Field.Aside.mk (HG.out.put c0 C1.out (hz.trans c3))
            have hor := Field.Aside.mk (or_pow (t &&& (4294967295 - 2 ^ k)) k hlt c0)
            clear c3 hz hlt
            go_wp2_with (go_at_call 21; refine (HI.out _).mono ?_; rintro e w1 ⟨rfl, rfl⟩)
            go_roundw
            case rel => exact ⟨k + 1, (t &&& (4294967295 - 2 ^ k)) ||| 2 ^ k, by simp, by rw [hcl.out, hor.out], by omega, HS, HB⟩
            case measure => simp [intOf]; omega
          · have c3' : x.testBit q = false := by simpa using c3
            have b3 : (bits .and .u32 ((x : Int) / 2 ^ ((k : Int) - a).toNat) 1 == 1) = false := by rw [HQ.out, Int.toNat_natCast, bit_test x q hx, c3']
            have HS := Field.Aside.mk (HG.out.clear c0 C1.out (hz.trans c3'))
            clear c3 c3' hz hlt
            go_wp2_with (go_at_call 21; refine (HI.out _).mono ?_; rintro e w1 ⟨rfl, rfl⟩)
            go_roundw
            case rel => exact ⟨k + 1, t &&& (4294967295 - 2 ^ k), by simp, by rw [hcl.out], by omega, HS, HB⟩
            case measure => simp [intOf]; omega
        · have hz : bitZ x ((k : Int) - a) = false := by unfold bitZ; rw [decide_eq_false (by omega)]; rfl
          have HS := Field.Aside.mk (HG.out.clear c0 C1.out hz)
          clear hz hlt
          go_wp2_with (go_at_call 21; refine (HI.out _).mono ?_; rintro e w1 ⟨rfl, rfl⟩)
          go_roundw
          case rel => exact ⟨k + 1, t &&& (4294967295 - 2 ^ k), by simp, by rw [hcl.out], by omega, HS, HB⟩
          case measure => simp [intOf]; omega
      · have c1' : inF k a n = false := by simpa using c1
        have HS := Field.Aside.mk (HG.out.skip c1')
        have HI := Field.Aside.mk (in_any k a n false c1' (by omega) (by omega) ⟨ha1, ha2⟩ hn)
        clear c1 c1'
        go_wp2_with (go_at_call 21; refine (HI.out _).mono ?_; rintro e w1 ⟨rfl, rfl⟩)
        go_roundw
        case rel => exact ⟨k + 1, t, by simp, rfl, by omega, HS, HB⟩
        case measure => simp [intOf]; omega
    · have HD := Field.Aside.mk (HG.out.at32 hk c0)
      go_wp2
      go_ret
      exact ⟨by rw [← HD.out]; rfl, HB.out⟩
end Go.Proofs.Ytdafgbehhgojnaa.Laws
