/-
  Package isa: bits, a row of fields laid into a word. What each function returns; nothing that was there is changed.
-/
import Derived.Test.YtjmiaemabhlnjaaGreatDoorWalks2
namespace Go.Proofs.YtjmiaemabhlnjaaGreatDoor.Isa
open Go.RowKit Go.Proofs.YtjmiaemabhlnjaaGreatDoor.FieldM Go.Proofs.YtjmiaemabhlnjaaGreatDoor.Field

/-- All that was there at W is as it was. -/
structure Bl (W w : World) : Prop where mk :: (out : Below W.heap.size W w)
theorem Bl.then {W w w' : World} (h : Bl W w) (k : Below w.heap.size w w') : Bl W w' :=
  ⟨h.out.trans ⟨k.os, k.tape, k.output, k.size, fun i hi => k.block i (Nat.lt_of_lt_of_le hi h.out.size)⟩⟩
theorem Bl.drew {W w : World} (h : Bl W w) : Bl W w.drew := ⟨h.out.drew⟩
theorem Bl.alloc {W w : World} (h : Bl W w) (o : Obj) : Bl W (w.alloc o) := ⟨h.out.alloc h.out.size o⟩
theorem Bl.refl (W : World) : Bl W W := ⟨Below.refl _ _⟩
theorem Bl.cell {W w : World} (h : Bl W w) {a : Addr} {v : Value} (hc : W.cell? a = some v) : w.cell? a = some v :=
  (h.out.cell (World.block_lt_of_cell? W a hc)).trans hc

theorem bit_any (u : Bool) (w : World) : Calls Tryz.prog 149 #[.bool u] w fun e w' => e = .returned (.int .u32 (if u then 1 else 0)) ∧ w = w' := by
  cases u
  · go_enter Tryz.func149, Tryz.ntmps149
    go_wp2
    go_ret
    exact ⟨rfl, rfl⟩
  · go_enter Tryz.func149, Tryz.ntmps149
    go_wp2
    go_ret
    exact ⟨rfl, rfl⟩

/-- What a row of fields makes of a word. -/
def layN : List (Int × Int × Int) → Nat → Nat
  | [], o => o
  | f :: r, o => layN r (setN o f.1 f.2.1 (f.2.2 % 4294967296).toNat)
theorem layN_lt : ∀ (L : List (Int × Int × Int)) (o : Nat), o < 4294967296 → layN L o < 4294967296
  | [], _, h => h
  | _ :: r, _, _ => layN_lt r _ (setN_lt _ _ _ _)

/-- The cells of a row of fields. -/
def RowAt (w : World) (B : Nat) (L : List (Int × Int × Int)) : Prop :=
  ∀ k f, L[k]? = some f → w.cell? ⟨B, k * 3, none⟩ = some (.int .i64 f.1) ∧ w.cell? ⟨B, k * 3 + 1, none⟩ = some (.int .i64 f.2.1) ∧ w.cell? ⟨B, k * 3 + 2, none⟩ = some (.int .i64 f.2.2)

theorem toNat_mod (x : Int) : x % 4294967296 = ((x % 4294967296).toNat : Int) ∧ (x % 4294967296).toNat < 4294967296 := by omega

set_option maxHeartbeats 1600000 in
theorem lay_raw (L : List (Int × Int × Int)) (B n c R : Nat) (w : World) (hn : n < 100) (hL : Field.Aside (L.length = n)) (hR : Field.Aside (layN L 0 = R)) (hbig : Field.Aside (∀ f, f ∈ L → f.2.1 ≤ 9223372036854775807))
    (hrow : Field.Aside (RowAt w B L)) :
    Calls Tryz.prog 116 #[.slice (some ⟨B, 0, none⟩) n c] w fun e w' => e = .returned (.int .u32 R) ∧ Bl w w' := by
  go_enter Tryz.func116, Tryz.ntmps116
  go_wp2_with fail
  go_loopw [3, 8] (fun o i wr => ∃ k t : Nat, i = .int .i64 k ∧ o = .int .u32 t ∧ k ≤ n ∧ Field.Aside (t < 4294967296) ∧ Field.Aside (layN (L.drop k) t = R) ∧ Field.Aside (Bl w wr)) (fun _ i _ => n - (intOf i).toNat)
  case atStart => exact ⟨0, 0, rfl, rfl, by omega, ⟨by omega⟩, hR, ⟨Bl.refl _⟩⟩
  case round =>
    obtain ⟨k, t, rfl, rfl, hk, HT, HR, HB⟩ := hrel
    by_cases c0 : k < n
    · obtain ⟨⟨x0, x1, x2⟩, hf⟩ : ∃ f, L[k]? = some f := ⟨_, List.getElem?_eq_getElem (by have := hL.out; omega)⟩
      have hd : L.drop k = (x0, x1, x2) :: L.drop (k + 1) := by
        obtain ⟨hlt, he⟩ := List.getElem?_eq_some_iff.1 hf
        rw [List.drop_eq_getElem_cons hlt, he]
      have hx1 : x1 ≤ 9223372036854775807 := hbig.out _ (List.mem_of_getElem? hf)
      obtain ⟨d0, d1, d2⟩ := hrow.out k _ hf
      have e0 : wr.cell? ⟨B, k * 3, none⟩ = some (.int .i64 x0) := HB.out.cell d0
      have e1 : wr.cell? ⟨B, k * 3 + 1, none⟩ = some (.int .i64 x1) := HB.out.cell d1
      have e2 : wr.cell? ⟨B, k * 3 + 2, none⟩ = some (.int .i64 x2) := HB.out.cell d2
      have HN : Field.Aside (layN (L.drop (k + 1)) (setN t x0 x1 (x2 % 4294967296).toNat) = R) := ⟨by have := HR.out; rw [hd] at this; exact this⟩
      have hlt : setN t x0 x1 (x2 % 4294967296).toNat < 4294967296 := setN_lt _ _ _ _
      have HS := Field.Aside.mk fun (wx : World) => set_any t x0 x1 (x2 % 4294967296).toNat wx HT.out (toNat_mod x2).2 hx1
      rw [← (toNat_mod x2).1] at HS
      generalize setN t x0 x1 (x2 % 4294967296).toNat = t2 at HN hlt HS
      have HL2 := Field.Aside.mk hlt
      clear hd d0 d1 d2 hf hlt
      go_wp2_with (go_at_call 148; (with_reducible refine (HS.out _).mono ?_); rintro e w1 ⟨rfl, hb⟩)
      go_roundw
      case rel => exact ⟨k + 1, t2, by simp, rfl, by omega, HL2, HN, ⟨(HB.out.alloc _).then hb⟩⟩
      case measure => simp [intOf]; omega
    · have he : t = R := by
        have := HR.out
        rw [List.drop_eq_nil_of_le (by have := hL.out; omega)] at this
        exact this
      have HE := Field.Aside.mk he
      go_wp2
      go_ret
      exact ⟨by rw [← HE.out]; rfl, HB.out⟩

theorem lay_any (L : List (Int × Int × Int)) (B n c : Nat) (w : World) (hn : n < 100) (hL : L.length = n) (hbig : ∀ f, f ∈ L → f.2.1 ≤ 9223372036854775807) (hrow : RowAt w B L) :
    Calls Tryz.prog 116 #[.slice (some ⟨B, 0, none⟩) n c] w fun e w' => e = .returned (.int .u32 (layN L 0)) ∧ Bl w w' :=
  lay_raw L B n c _ w hn ⟨hL⟩ ⟨rfl⟩ ⟨hbig⟩ ⟨hrow⟩

/-! ### The highest bits -/
def b2i (u : Bool) : Int := if u then 1 else 0
theorem or_head (f : Int) (hf : f = 0 ∨ f = 1 ∨ f = 2 ∨ f = 3) (u v : Bool) : bits .or .i64 (bits .or .i64 (f * 4) (b2i u * 2)) (b2i v) = f * 4 + b2i u * 2 + b2i v := by
  rcases hf with rfl | rfl | rfl | rfl <;> cases u <;> cases v <;> decide +kernel

set_option maxHeartbeats 1600000 in
theorem head_any (f : Int) (u v : Bool) (w : World) (hf : f = 0 ∨ f = 1 ∨ f = 2 ∨ f = 3) :
    Calls Tryz.prog 117 #[.int .i64 f, .bool u, .bool v] w fun e w' => e = .returned (.agg #[.int .i64 28, .int .i64 4, .int .i64 (f * 4 + b2i u * 2 + b2i v)]) ∧ Bl w w' := by
  have ho := or_head f hf u v
  have HU : Field.Aside (∀ wx : World, Calls Tryz.prog 149 #[.bool u] wx fun e w' => e = .returned (.int .u32 (b2i u)) ∧ wx = w') := ⟨fun wx => bit_any u wx⟩
  have HV : Field.Aside (∀ wx : World, Calls Tryz.prog 149 #[.bool v] wx fun e w' => e = .returned (.int .u32 (b2i v)) ∧ wx = w') := ⟨fun wx => bit_any v wx⟩
  have hu : 0 ≤ b2i u ∧ b2i u ≤ 1 := by unfold b2i; cases u <;> simp
  have hv : 0 ≤ b2i v ∧ b2i v ≤ 1 := by unfold b2i; cases v <;> simp
  generalize b2i u = p at *
  generalize b2i v = q at *
  obtain ⟨hu0, hu1⟩ := hu
  obtain ⟨hv0, hv1⟩ := hv
  have f0 : 0 ≤ f ∧ f ≤ 3 := by omega
  obtain ⟨hf0, hf1⟩ := f0
  have HO := Field.Aside.mk ho
  clear hf ho
  go_enter Tryz.func117, Tryz.ntmps117
  go_wp2_with (go_at_call 149; (first | (with_reducible refine (HU.out _).mono ?_) | (with_reducible refine (HV.out _).mono ?_)); rintro e w1 ⟨rfl, rfl⟩)
  exact bodyPost_ret (v := .agg #[.int .i64 28, .int .i64 4, .int .i64 (bits .or .i64 (bits .or .i64 (f * 4) (p * 2)) q)]) (by simp [results, Tryz.results117, go_sem]) rfl ⟨by rw [HO.out], (Bl.refl _).alloc _⟩
end Go.Proofs.YtjmiaemabhlnjaaGreatDoor.Isa
