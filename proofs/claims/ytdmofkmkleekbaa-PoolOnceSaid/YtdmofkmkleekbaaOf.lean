/-
  pool.Of: what is kept of a row of values, and where.
-/
import Derived.Test.YtdmofkmkleekbaaAdd
import Derived.Maps.AppendAt
namespace Go.Proofs.Ytdmofkmkleekbaa.Pool
open Go Go.RowKit

/-- From k on. -/
theorem ofL_step (l : List (Int × Int)) {k : Nat} {x : Int × Int} (h : l[k]? = some x) : ofL (l.take (k + 1)) = (addL (ofL (l.take k)).1 x, (ofL (l.take k)).2 ++ [((ofL (l.take k)).1.idxOf x : Int)]) := by
  have hk : k < l.length := (List.getElem?_eq_some_iff.1 h).1
  have e : l[k] = x := (List.getElem?_eq_some_iff.1 h).2
  rw [List.take_succ_eq_append_getElem hk, e]
  unfold ofL
  rw [List.foldl_append]
  rfl
theorem addL_len (l : List (Int × Int)) (x : Int × Int) : (addL l x).length ≤ l.length + 1 := by
  unfold addL
  split
  · omega
  · simp
theorem ofL_len (l : List (Int × Int)) : ∀ k, k ≤ l.length → (ofL (l.take k)).1.length ≤ k ∧ (ofL (l.take k)).2.length = k := by
  intro k
  induction k with
  | zero => intro _; simp [ofL]
  | succ k ih =>
    intro hk
    obtain ⟨x, hx⟩ : ∃ x, l[k]? = some x := ⟨_, List.getElem?_eq_getElem (by omega)⟩
    rw [ofL_step l hx]
    have := ih (by omega)
    have := addL_len (ofL (l.take k)).1 x
    simp
    omega
def OfPost (w : World) (l : List (Int × Int)) (e : Ending) (w' : World) : Prop :=
  ∃ A c B d, e = .returned (.tuple #[.slice A (ofL l).1.length c, .slice B (ofL l).2.length d]) ∧ Rd w' A c (ofL l).1 ∧ RdI w' B d (ofL l).2 ∧ Bl w w'

theorem own_bl {w w' : World} {base : Nat} {e : TypeId} {size n : Nat} {v : Value} {xs : List Value} (h : w.ownsRow base e size v n xs) (k : Bl w w') : w'.ownsRow base e size v n xs := by
  obtain ⟨h1, h2⟩ := h
  refine ⟨h1, ?_⟩
  rcases h2 with h2 | ⟨g, cap, cur, hv, hg, hh, r⟩
  · exact .inl h2
  · refine .inr ⟨g, cap, cur, hv, hg, ?_, r⟩
    have hlt : g < w.heap.size := by
      rcases Nat.lt_or_ge g w.heap.size with h | h
      · exact h
      · rw [Array.getElem?_eq_none h] at hh; cases hh
    rw [k.out.block g hlt]; exact hh
theorem addL_pos (l : List (Int × Int)) (x : Int × Int) : 0 < (addL l x).length := by
  unfold addL
  split
  · rename_i h; exact List.length_pos_of_mem h
  · simp
theorem Rd.lt {w : World} {ad : Addr} {c : Nat} {l : List (Int × Int)} (h : Rd w (some ad) c l) (hp : 0 < l.length) : ad.block < w.heap.size := by
  have hc := h.cells ad rfl 0 ((flat l)[0]'(by rw [flat_len]; omega)) (List.getElem?_eq_getElem _)
  exact World.block_lt_of_cell? w _ hc
theorem add_block (ad : Addr) (j : Nat) : (ad.add j).block = ad.block := by unfold Addr.add; split <;> rfl
/-- What holds after k rounds of Of. -/
structure OfInv (w0 wr : World) (l : List (Int × Int)) (k : Nat) (A : Option Addr) (c : Nat) (v : Value) : Prop where
  rd : Rd wr A c (ofL (l.take k)).1
  own : wr.ownsRow w0.heap.size 3 1 v k ((ofL (l.take k)).2.map (Value.int .i64))
  ne : ∀ ad, A = some ad → some ad.block ≠ v.ownBlock
  lt : ∀ ad, A = some ad → ad.block < wr.heap.size
  bl : Bl w0 wr
theorem OfInv.start (w : World) (l : List (Int × Int)) : OfInv w w l 0 none 0 (.slice none 0 0) :=
  ⟨⟨by simp [ofL], by decide, fun _ => ⟨by simp [ofL], rfl⟩, fun _ h => (by cases h)⟩, World.ownsRow_nil _ _ _ _, fun _ h => (by cases h), fun _ h => (by cases h), Bl.refl _⟩
theorem OfInv.step {w0 wr wb w1 w2 : World} {l : List (Int × Int)} {k : Nat} {A A2 : Option Addr} {c c2 : Nat} {v v' : Value} {x : Int × Int} (h : OfInv w0 wr l k A c v) (hx : l[k]? = some x) (hb : Bl wr wb)
    (hr : Rd w1 A2 c2 (addL (ofL (l.take k)).1 x)) (h1 : Bl wb w1) (hf : A2 = A ∨ ∀ ad, A2 = some ad → wb.heap.size ≤ ad.block) {o : Obj}
    (hown : w2.ownsRow w0.heap.size 3 1 v' (k + 1) ((ofL (l.take k)).2.map (Value.int .i64) ++ [Value.int .i64 ((ofL (l.take k)).1.idxOf x)])) (hg : (w1.alloc o).grownBy w2 v.ownBlock)
    (hloc : v'.ownBlock = v.ownBlock ∨ v'.ownBlock = some (w1.alloc o).heap.size) : OfInv w0 w2 l (k + 1) A2 c2 v' := by
  have e := ofL_step l hx
  have lt2 : ∀ ad, A2 = some ad → ad.block < w1.heap.size := by
    rintro ad rfl
    exact hr.lt (addL_pos _ _)
  have hsz : wr.heap.size ≤ wb.heap.size := hb.out.size
  have hsz1 : wb.heap.size ≤ w1.heap.size := h1.out.size
  have hsz0 : w0.heap.size ≤ wr.heap.size := h.bl.out.size
  have vlt : ∀ g, v.ownBlock = some g → w0.heap.size ≤ g ∧ g < wr.heap.size := h.own.lt
  have ne2 : ∀ ad, A2 = some ad → some ad.block ≠ v.ownBlock := by
    intro ad ha
    rcases hf with rfl | hf
    · exact h.ne ad ha
    · intro e
      have := (vlt _ e.symm).2
      have := hf ad ha
      omega
  have hsz2 : (w1.alloc o).heap.size ≤ w2.heap.size := hg.size
  have ha : (w1.alloc o).heap.size = w1.heap.size + 1 := by simp
  refine ⟨?_, ?_, ?_, ?_, ?_⟩
  · rw [e]
    refine ⟨hr.le, hr.mx, hr.nil, fun ad hA j u hj => ?_⟩
    refine hg.cell ?_ (by rw [add_block]; exact ne2 ad hA)
    exact ((Bl.refl w1).alloc o).cell (hr.cells ad hA j u hj)
  · rw [e]
    simpa using hown
  · intro ad hA
    rcases hloc with h2 | h2
    · rw [h2]; exact ne2 ad hA
    · rw [h2]
      intro e
      have := lt2 ad hA
      have := Option.some.inj e
      omega
  · intro ad hA
    have := lt2 ad hA
    omega
  · exact ⟨(((h.bl.trans hb).trans h1).alloc o).out.grown hg (by omega) (fun g hgk => (vlt g hgk).1)⟩
theorem OfInv.move {w0 wr wb : World} {l : List (Int × Int)} {k : Nat} {A : Option Addr} {c : Nat} {v : Value} (h : OfInv w0 wr l k A c v) (hb : Bl wr wb) : OfInv w0 wb l k A c v :=
  ⟨h.rd.keep hb, own_bl h.own hb, h.ne, fun ad ha => Nat.lt_of_lt_of_le (h.lt ad ha) hb.out.size, h.bl.trans hb⟩

theorem newsI (W : World) (x : Int) (T : TypeId) : ∀ j u, [Value.int .i64 x][j]? = some u → (W.alloc (.cells #[.int .i64 x] T)).cell? ((⟨W.heap.size, 0, none⟩ : Addr).add j) = some u := by
  intro j u h
  match j, h with
  | 0, h => simp at h; subst h; show (W.alloc _).cell? ⟨W.heap.size, 0, none⟩ = _; rw [World.cell?_alloc_at _ _ _ _ rfl]; rfl
  | j + 1, h => simp at h
theorem newsI1 (x : Int) : ∀ u ∈ [Value.int .i64 x], u.oneCell' = true := by
  intro u hu
  simp at hu
  subst hu; rfl

set_option maxHeartbeats 4000000 in
theorem of_some (ad : Addr) (n c : Nat) (l : List (Int × Int)) (w : World) (hn : n ≤ 900) (hl : Aside (l.length = n)) (hr : Aside (Rd w (some ad) c l)) (hc : n ≤ c) (hm : c ≤ maxLen) :
    Calls Try.prog 11 #[.slice (some ad) n c] w (OfPost w l) := by
  unfold maxLen at hm
  obtain ⟨i0, hi, hz0, hz1, hz2⟩ := info_parts infoI
  have HI0 := Aside.mk hi
  have HZ0 := Aside.mk hz0
  have HZ1 := Aside.mk hz1
  have HZ2 := Aside.mk hz2
  clear hi hz0 hz1 hz2
  go_enter Try.func11, Try.ntmps11
  go_wp2_with fail
  go_loopw [2, 3, 9] (fun al at_ i wr => ∃ (k m : Nat) (A : Option Addr) (c1 : Nat) (v : Value), i = .int .i64 k ∧ k ≤ n ∧ al = .slice A m c1 ∧ at_ = v ∧ Aside ((ofL (l.take k)).1.length = m) ∧ Aside (OfInv w wr l k A c1 v)) (fun _ _ i _ => n - (intOf i).toNat)
  case atStart => exact ⟨0, 0, none, 0, _, rfl, by omega, rfl, rfl, ⟨by simp [ofL]⟩, ⟨OfInv.start w l⟩⟩
  case round =>
    obtain ⟨k, m, A, c1, v, rfl, hk, rfl, rfl, HM, HI⟩ := hrel
    by_cases hlt : k < n
    · obtain ⟨⟨p, q⟩, hf⟩ : ∃ f, l[k]? = some f := ⟨_, List.getElem?_eq_getElem (by have := hl.out; omega)⟩
      obtain ⟨e0, e1⟩ := (hr.out.keep HI.out.bl).at hf
      have HF := Aside.mk hf
      clear hf
      dsimp only at e0 e1
      have hcap : (ofL (l.take k)).1.length ≤ 1000 := by
        have := ofL_len l k (by have := hl.out; omega)
        omega
      have HC := Aside.mk hcap
      clear hcap
      go_wp2_with fail
      have HAdd := Aside.mk (add_any (HI.out.rd.keep ((Bl.refl wr).alloc (.cells #[.int .u32 p, .int .i64 q] 25))) HC.out p q)
      rw [HM.out] at HAdd
      refine HAdd.out.mono ?_
      rintro e w1 ⟨A2, c2, rfl, hr2, hb2, hf2⟩
      have HR2 := Aside.mk hr2
      have HB2 := Aside.mk hb2
      have HF2 := Aside.mk hf2
      clear hr2 hb2 hf2
      obtain ⟨m2, hm2⟩ : ∃ m2, (addL (ofL (l.take k)).1 (p, q)).length = m2 := ⟨_, rfl⟩
      obtain ⟨ix, hix⟩ : ∃ ix : Int, ((ofL (l.take k)).1.idxOf (p, q) : Int) = ix := ⟨_, rfl⟩
      rw [hm2, hix]
      have HM2 := Aside.mk hm2
      have HIX := Aside.mk hix
      clear hm2 hix
      have HO1 := Aside.mk (own_bl HI.out.own (((Bl.refl wr).alloc (.cells #[.int .u32 p, .int .i64 q] 25)).trans HB2.out))
      have hsz : w.heap.size ≤ w1.heap.size := (HI.out.bl.trans (((Bl.refl wr).alloc (.cells #[.int .u32 p, .int .i64 q] 25)).trans HB2.out)).out.size
      go_wp2_with (at_builtin; refine wpList_append_own_at _ rfl (.tmp 19) (.tmp 21) 30 rfl w.heap.size 3 i0 (.int .i64 0) 1 8 Try.underlying30 HI0.out HZ0.out HZ1.out HZ2.out rfl (by decide) u3 k _ rfl (HO1.out.alloc _) ⟨w1.heap.size, 0, none⟩ 1 1 [.int .i64 ix] rfl rfl (newsI w1 ix 3) (newsI1 ix) (by unfold maxLen; omega) (by omega) (by simp; omega) ?_; intro v' w2 hown hgrow _ hloc)
      have HS := Aside.mk (OfInv.step HI.out HF.out ((Bl.refl wr).alloc (.cells #[.int .u32 p, .int .i64 q] 25)) HR2.out HB2.out HF2.out (by rw [HIX.out]; exact hown) hgrow hloc)
      clear hown hgrow hloc
      go_wp2_with fail
      go_roundw
      case rel => exact ⟨k + 1, m2, A2, c2, v', by go_num, by omega, rfl, rfl, ⟨by rw [ofL_step l HF.out]; exact HM2.out⟩, HS⟩
      case measure => simp [intOf]; omega
    · have hkn : k = n := by omega
      subst hkn
      have hof : l.take k = l := List.take_of_length_le (by have := hl.out; omega)
      have HO := Aside.mk HI.out.own
      have HR := Aside.mk HI.out.rd
      have hB := HI.out.bl
      have HM2 := Aside.mk HM.out
      rw [hof] at HO HR HM2
      have hlen : (ofL l).2.length = k := by
        have := (ofL_len l k (by have := hl.out; omega)).2
        rwa [hof] at this
      have ho := HO.out
      rw [← hlen] at ho
      obtain ⟨B, d, hv, hrdi⟩ := RdI.own ho
      rw [hlen] at hv
      subst hv
      have HB := Aside.mk hB
      have HRD := Aside.mk hrdi
      have HL := Aside.mk hlen
      clear hB hrdi hlen ho hof
      go_wp2
      go_ret2
      refine ⟨A, c1, B, d, ?_, HR.out, HRD.out, HB.out⟩
      rw [HM2.out, HL.out]
      rfl

set_option maxHeartbeats 4000000 in
theorem of_none (w : World) :
    Calls Try.prog 11 #[.slice none 0 0] w (OfPost w []) := by
  go_enter Try.func11, Try.ntmps11
  go_wp2_with fail
  refine wp_loop_rounds 1 ?_
  rw [rounds_succ]
  go_wp2
  go_ret2
  exact ⟨none, 0, none, 0, rfl, ⟨by simp [ofL], by decide, fun _ => ⟨by simp [ofL], rfl⟩, fun _ h => (by cases h)⟩, ⟨by simp [ofL], fun _ h => (by cases h), fun _ => by simp [ofL]⟩, Bl.refl _⟩

/-- pool.Of, for any row of values. -/
theorem of_any {w : World} {A : Option Addr} {c : Nat} {l : List (Int × Int)} (h : Rd w A c l) (hn : l.length ≤ 900) :
    Calls Try.prog 11 #[.slice A l.length c] w (OfPost w l) := by
  cases A with
  | none =>
    obtain ⟨rfl, rfl⟩ := h.nil rfl
    exact of_none w
  | some ad => exact of_some ad l.length c l w hn ⟨rfl⟩ ⟨h⟩ h.le h.mx
end Go.Proofs.Ytdmofkmkleekbaa.Pool
