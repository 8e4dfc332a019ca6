/-
  pool.Add: what is kept, and where.
-/
import Derived.Test.YtdmofkmkleekbaaBase
namespace Go.Proofs.Ytdmofkmkleekbaa.Pool
open Go Go.RowKit
attribute [local go_sem high] eqVal

theorem clip_some (ad : Addr) (n c : Nat) (w : World) (hn : n ≤ c) : Calls Try.prog 15 #[.slice (some ad) n c] w fun e w' => e = .returned (.slice (some ad) n n) ∧ w' = w := by
  go_enter Try.func15, Try.ntmps15
  go_wp2
  go_ret
  exact ⟨rfl, rfl⟩
theorem clip_none (w : World) : Calls Try.prog 15 #[.slice none 0 0] w fun e w' => e = .returned (.slice none 0 0) ∧ w' = w := by
  go_enter Try.func15, Try.ntmps15
  go_wp2
  go_ret
  exact ⟨rfl, rfl⟩

/-- What Add leaves: a row that reads as what is kept, and the place. -/
def AddPost (w : World) (A0 : Option Addr) (l : List (Int × Int)) (x : Int × Int) (e : Ending) (w' : World) : Prop :=
  ∃ A c, e = .returned (.tuple #[.slice A (addL l x).length c, .int .i64 (l.idxOf x)]) ∧ Rd w' A c (addL l x) ∧ Bl w w' ∧ (A = A0 ∨ ∀ ad, A = some ad → w.heap.size ≤ ad.block)

theorem hit_idx {l : List (Int × Int)} {x : Int × Int} {k : Nat} (h : l[k]? = some x) (hn : x ∉ l.take k) : l.idxOf x = k ∧ addL l x = l := by
  have hk : k < l.length := (List.getElem?_eq_some_iff.1 h).1
  have e : l.take k ++ l.drop k = l := List.take_append_drop k l
  have hd : l.drop k = x :: l.drop (k + 1) := by
    obtain ⟨h1, h2⟩ := List.getElem?_eq_some_iff.1 h
    rw [List.drop_eq_getElem_cons h1, h2]
  refine ⟨?_, ?_⟩
  · rw [← e, List.idxOf_append, if_neg hn, hd]
    simp
    omega
  · unfold addL
    rw [if_pos (List.mem_of_getElem? h)]
theorem new_idx {l : List (Int × Int)} {x : Int × Int} (hn : x ∉ l) : l.idxOf x = l.length ∧ addL l x = l ++ [x] := by
  refine ⟨List.idxOf_eq_length hn, ?_⟩
  unfold addL
  rw [if_neg hn]
theorem not_take_succ {l : List (Int × Int)} {x y : Int × Int} {k : Nat} (h : l[k]? = some y) (hn : x ∉ l.take k) (hne : ¬ (y.1 = x.1 ∧ y.2 = x.2)) : x ∉ l.take (k + 1) := by
  have hk : k < l.length := (List.getElem?_eq_some_iff.1 h).1
  rw [List.take_succ_eq_append_getElem hk, List.mem_append]
  rintro (h1 | h1)
  · exact hn h1
  · simp at h1
    have : l[k] = y := (List.getElem?_eq_some_iff.1 h).2
    rw [this] at h1
    subst h1
    exact hne ⟨rfl, rfl⟩

theorem guardA {P : Program} {ops : Array Oper} {o : Oper} {a : Act} {w : World} {K : Act → World → Prop} {Q : Exit → Act → World → Prop} {E : Prop} {s x : Operand} {t : TypeId}
    (_h : o.op = Op.call { callee := Callee.builtin Builtin.append, args := #[s, x], argTypes := #[t, t] }) (h : if Region.wanted o (yielded ops a.tmps) = true then Oper.wp P o a w K Q else E) :
    if Region.wanted o (yielded ops a.tmps) = true then Oper.wp P o a w K Q else E := h
theorem le_maxLen {k : Nat} (h : k ≤ 1000) : k + 1 ≤ maxLen := by unfold maxLen; omega
theorem le_reach {k : Nat} (h : k ≤ 1000) : (k + 1) * 16 ≤ 140737488355328 := by omega
theorem news2 (W : World) (x y : Int) (T : TypeId) : ∀ j u, [Value.int .u32 x, .int .i64 y][j]? = some u → (W.alloc (.cells #[.int .u32 x, .int .i64 y] T)).drew.cell? ((⟨W.heap.size, 0, none⟩ : Addr).add j) = some u := by
  intro j u h
  rw [World.cell?_drew]
  match j, h with
  | 0, h => simp at h; subst h; show (W.alloc _).cell? ⟨W.heap.size, 0, none⟩ = _; rw [World.cell?_alloc_at _ _ _ _ rfl]; rfl
  | 1, h => simp at h; subst h; show (W.alloc _).cell? ⟨W.heap.size, 1, none⟩ = _; rw [World.cell?_alloc_at _ _ _ _ rfl]; rfl
  | j + 2, h => simp at h
theorem news1 (x y : Int) : ∀ u ∈ [Value.int .u32 x, .int .i64 y], u.oneCell' = true := by
  intro u hu
  simp at hu
  rcases hu with rfl | rfl <;> rfl
theorem keepB {W w : World} {A0 A1 : Addr} {v0 v1 : Value} (q0 : W.cell? A0 = some v0) (q1 : W.cell? A1 = some v1) (h : Bl W w) : Bl W w ∧ w.cell? A0 = some v0 ∧ w.cell? A1 = some v1 := ⟨h, h.cell q0, h.cell q1⟩
set_option maxHeartbeats 4000000 in
theorem add_some (ad : Addr) (n c : Nat) (l : List (Int × Int)) (x y : Int) (w : World) (hn : n ≤ 1000) (hl : Aside (l.length = n)) (hr : Aside (Rd w (some ad) c l)) (hc : n ≤ c) (hm : c ≤ maxLen) :
    Calls Try.prog 8 #[.slice (some ad) n c, .agg #[.int .u32 x, .int .i64 y]] w (AddPost w (some ad) l (x, y)) := by
  unfold maxLen at hm
  obtain ⟨W1, hW1⟩ : ∃ W1, W1 = w.alloc (.cells #[.int .u32 x, .int .i64 y] 25) := ⟨_, rfl⟩
  have HWB : Aside (Bl w W1) := ⟨by rw [hW1]; exact (Bl.refl _).alloc _⟩
  have q0 : W1.cell? ⟨w.heap.size, 0, none⟩ = some (.int .u32 x) := by rw [hW1, World.cell?_alloc_at _ _ _ _ rfl]; rfl
  have q1 : W1.cell? ⟨w.heap.size, 1, none⟩ = some (.int .i64 y) := by rw [hW1, World.cell?_alloc_at _ _ _ _ rfl]; rfl
  have Q0 := Aside.mk q0
  have Q1 := Aside.mk q1
  have HW := Aside.mk hW1
  clear hW1 q0 q1
  go_enter Try.func8, Try.ntmps8
  go_wp2_with fail
  rw [← HW.out]
  go_loopw [10] (fun i wr => ∃ k : Nat, i = .int .i64 k ∧ k ≤ n ∧ Aside ((x, y) ∉ l.take k) ∧ Aside (Bl W1 wr)) (fun i _ => n - (intOf i).toNat)
  case atStart => exact ⟨0, rfl, by omega, ⟨by simp⟩, ⟨Bl.refl _⟩⟩
  case round =>
    obtain ⟨k, rfl, hk, HN, HB⟩ := hrel
    have b0 := HB.out.cell Q0.out
    have b1 := HB.out.cell Q1.out
    have hws : w.heap.size < wr.heap.size := World.block_lt_of_cell? wr _ b0
    have hne : ¬ w.heap.size = wr.heap.size := by omega
    have hne2 : ¬ wr.heap.size = w.heap.size := by omega
    by_cases hlt : k < n
    · obtain ⟨⟨p, q⟩, hf⟩ : ∃ f, l[k]? = some f := ⟨_, List.getElem?_eq_getElem (by have := hl.out; omega)⟩
      obtain ⟨e0, e1⟩ := ((hr.out.keep HWB.out).keep HB.out).at hf
      have HF := Aside.mk hf
      clear hf
      dsimp only at e0 e1
      by_cases heq : p = x ∧ q = y
      · obtain ⟨rfl, rfl⟩ := heq
        have hh := hit_idx HF.out HN.out
        have HH := Aside.mk hh
        clear hh
        go_wp2
        go_ret2
        refine ⟨some ad, c, ?_, by rw [HH.out.2]; exact ((hr.out.keep HWB.out).keep HB.out).keep ((Bl.refl _).alloc _), (HWB.out.trans HB.out).alloc _, Or.inl rfl⟩
        rw [HH.out.1, HH.out.2, hl.out]
        rfl
      · have qf : (p == x && (q == y)) = false := by
          rw [Bool.eq_false_iff]
          intro h
          simp at h
          exact heq h
        have HE := Aside.mk heq
        clear heq
        go_wp2
        go_roundw
        case rel => exact ⟨k + 1, by go_num, by omega, ⟨not_take_succ HF.out HN.out HE.out⟩, ⟨HB.out.alloc _⟩⟩
        case measure => simp [intOf]; omega
    · have hkn : k = n := by omega
      subst hkn
      have hno : (x, y) ∉ l := by
        have := HN.out
        rwa [List.take_of_length_le (by have := hl.out; omega)] at this
      have HI := Aside.mk (new_idx hno)
      clear hno
      go_wp2_with fail
      have olds : Aside ((flat l).length = k * 2) := ⟨by rw [flat_len, hl.out]⟩
      have RL : Aside (Rd wr (some ad) c l) := ⟨(hr.out.keep HWB.out).keep HB.out⟩
      obtain ⟨i0, hi, hz0, hz1, hz2⟩ := info_parts infoV
      have HI0 := Aside.mk hi
      have HZ0 := Aside.mk hz0
      have HZ1 := Aside.mk hz1
      have HZ2 := Aside.mk hz2
      clear hi hz0 hz1 hz2
      have BR : Bl wr wr := Bl.refl _
      go_region_held3 (fun w' => Bl wr w' ∧ w'.cell? ⟨w.heap.size, 0, none⟩ = some (.int .u32 x) ∧ w'.cell? ⟨w.heap.size, 1, none⟩ = some (.int .i64 y)) (first | ((refine keepB b0 b1 ?_); with_reducible assumption) | ((refine keepB b0 b1 (Bl.drew ?_)); with_reducible assumption) | (refine keepB b0 b1 (Bl.drew (Bl.alloc BR _))) | ((refine keepB b0 b1 ?_); exact And.left (by with_reducible assumption)) | ((refine keepB b0 b1 (Bl.grown (Bl.drew (Bl.alloc BR (.cells #[.int .u32 x, .int .i64 y] 25))) ?_)); with_reducible assumption)) (first | (go_at_call 15; (with_reducible refine (clip_some _ _ _ _ hc).mono ?_); rintro e wn ⟨rfl, rfl⟩) | (refine guardA (s := .tmp 22) (x := .tmp 24) (t := 22) ?_ ?_; rfl; refine step_append_grows (by rfl) (.tmp 22) (.tmp 24) 22 (by rfl) 25 i0 (.agg #[.int .u32 0, .int .i64 0]) 2 16 Try.underlying22 HI0.out HZ0.out HZ1.out HZ2.out rfl (by decide) (some ad) k k (flat l) (by rfl) (fun h => absurd h (by simp)) olds.out (fun b hb => (RL.out.keep ((BR.alloc (.cells #[.int .u32 x, .int .i64 y] 25)).drew)).cells b hb) ⟨wr.heap.size, 0, none⟩ 1 1 [.int .u32 x, .int .i64 y] (by rfl) rfl (news2 wr x y 25) (news1 x y) (Nat.lt_succ_self k) (le_maxLen hn) (le_reach hn) ?_; intro v' w' hown hgrow))
      all_goals
        have hL : (l ++ [(x, y)]).length = k + 1 := by simp [hl.out]
        have hF : flat (l ++ [(x, y)]) = flat l ++ [.int .u32 x, .int .i64 y] := flat_append _ _
        rw [← hF, ← hL] at hown
        obtain ⟨A, c2, rfl, hrd, hfr⟩ := Rd.own hown
        have HFR := Aside.mk hfr
        clear hfr
        have HR2 := Aside.mk hrd
        have HG := Aside.mk hgrow
        clear hown hgrow hrd hF hL
        go_wp2
        go_ret2
        refine ⟨A, c2, ?_, by rw [HI.out.2]; exact HR2.out, (HWB.out.trans HB.out).trans (Bl.grown (Bl.drew (Bl.alloc BR _)) HG.out), Or.inr fun ad h => (by have := HFR.out ad h; simp at this; omega)⟩
        rw [HI.out.1, HI.out.2, hl.out]
        rfl

set_option maxHeartbeats 4000000 in
theorem add_none (x y : Int) (w : World) :
    Calls Try.prog 8 #[.slice none 0 0, .agg #[.int .u32 x, .int .i64 y]] w (AddPost w none [] (x, y)) := by
  obtain ⟨W1, hW1⟩ : ∃ W1, W1 = w.alloc (.cells #[.int .u32 x, .int .i64 y] 25) := ⟨_, rfl⟩
  have HWB : Aside (Bl w W1) := ⟨by rw [hW1]; exact (Bl.refl _).alloc _⟩
  have b0 : W1.cell? ⟨w.heap.size, 0, none⟩ = some (.int .u32 x) := by rw [hW1, World.cell?_alloc_at _ _ _ _ rfl]; rfl
  have b1 : W1.cell? ⟨w.heap.size, 1, none⟩ = some (.int .i64 y) := by rw [hW1, World.cell?_alloc_at _ _ _ _ rfl]; rfl
  have HW := Aside.mk hW1
  clear hW1
  go_enter Try.func8, Try.ntmps8
  go_wp2_with fail
  rw [← HW.out]
  refine wp_loop_rounds 1 ?_
  rw [rounds_succ]
  go_wp2_with fail
  obtain ⟨i0, hi, hz0, hz1, hz2⟩ := info_parts infoV
  have HI0 := Aside.mk hi
  have HZ0 := Aside.mk hz0
  have HZ1 := Aside.mk hz1
  have HZ2 := Aside.mk hz2
  clear hi hz0 hz1 hz2
  have BR : Bl W1 W1 := Bl.refl _
  go_region_held3 (fun w' => Bl W1 w' ∧ w'.cell? ⟨w.heap.size, 0, none⟩ = some (.int .u32 x) ∧ w'.cell? ⟨w.heap.size, 1, none⟩ = some (.int .i64 y)) (first | ((refine keepB b0 b1 ?_); with_reducible assumption) | ((refine keepB b0 b1 (Bl.drew ?_)); with_reducible assumption) | (refine keepB b0 b1 (Bl.drew (Bl.alloc BR _))) | ((refine keepB b0 b1 ?_); exact And.left (by with_reducible assumption)) | ((refine keepB b0 b1 (Bl.grown (Bl.drew (Bl.alloc BR (.cells #[.int .u32 x, .int .i64 y] 25))) ?_)); with_reducible assumption)) (first | (go_at_call 15; (with_reducible refine (clip_none _).mono ?_); rintro e wn ⟨rfl, rfl⟩) | (refine guardA (s := .tmp 22) (x := .tmp 24) (t := 22) ?_ ?_; rfl; refine step_append_grows (by rfl) (.tmp 22) (.tmp 24) 22 (by rfl) 25 i0 (.agg #[.int .u32 0, .int .i64 0]) 2 16 Try.underlying22 HI0.out HZ0.out HZ1.out HZ2.out rfl (by decide) none 0 0 [] (by rfl) (fun _ => ⟨rfl, rfl⟩) rfl (fun b hb => absurd hb (by simp)) ⟨W1.heap.size, 0, none⟩ 1 1 [.int .u32 x, .int .i64 y] (by rfl) rfl (news2 W1 x y 25) (news1 x y) (Nat.lt_succ_self 0) (le_maxLen (Nat.zero_le _)) (le_reach (Nat.zero_le _)) ?_; intro v' w' hown hgrow))
  all_goals
    obtain ⟨A, c2, rfl, hrd, hfr⟩ := Rd.own (l := [(x, y)]) hown
    have HFR := Aside.mk hfr
    clear hfr
    have HR2 := Aside.mk hrd
    have HG := Aside.mk hgrow
    clear hown hgrow hrd
    go_wp2
    go_ret2
    exact ⟨A, c2, rfl, HR2.out, HWB.out.trans (Bl.grown (Bl.drew (Bl.alloc BR _)) HG.out), Or.inr fun ad h => (by have := HFR.out ad h; have := World.block_lt_of_cell? W1 _ b0; simp at *; omega)⟩

/-- pool.Add, for any row of values. -/
theorem add_any {w : World} {A : Option Addr} {c : Nat} {l : List (Int × Int)} (h : Rd w A c l) (hn : l.length ≤ 1000) (x y : Int) :
    Calls Try.prog 8 #[.slice A l.length c, .agg #[.int .u32 x, .int .i64 y]] w (AddPost w A l (x, y)) := by
  cases A with
  | none =>
    obtain ⟨rfl, rfl⟩ := h.nil rfl
    exact add_none x y w
  | some ad => exact add_some ad l.length c l x y w hn ⟨rfl⟩ ⟨h⟩ h.le h.mx
end Go.Proofs.Ytdmofkmkleekbaa.Pool
