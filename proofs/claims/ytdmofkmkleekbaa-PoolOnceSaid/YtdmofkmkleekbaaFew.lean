/-
  few and shown.
-/
import Derived.Test.YtdmofkmkleekbaaSame
namespace Go.Proofs.Ytdmofkmkleekbaa.Pool
open Go Go.RowKit

theorem Rd.take {w : World} {A : Option Addr} {c : Nat} {l : List (Int × Int)} (h : Rd w A c l) (k : Nat) : Rd w A c (l.take k) := by
  refine ⟨Nat.le_trans (by simp; omega) h.le, h.mx, fun e => ?_, fun ad ha j u hj => ?_⟩
  · obtain ⟨rfl, hc⟩ := h.nil e
    exact ⟨by simp, hc⟩
  · refine h.cells ad ha j u ?_
    have e : flat l = flat (l.take k) ++ flat (l.drop k) := by rw [← flat_append, List.take_append_drop]
    rw [e, List.getElem?_append_left (by exact (List.getElem?_eq_some_iff.1 hj).1)]
    exact hj

set_option maxHeartbeats 4000000 in
theorem few_some (ad : Addr) (c : Nat) (w : World) (n : Nat) (hc : n ≤ c) :
    Calls Try.prog 9 #[.slice (some ad) n c] w fun e w' => e = .returned (.slice (some ad) (min 30 n) c) ∧ w' = w := by
  go_enter Try.func9, Try.ntmps9
  go_wp2
  · go_ret
    exact ⟨by rw [Nat.min_eq_left (by omega)]; rfl, rfl⟩
  · go_ret
    exact ⟨by rw [Nat.min_eq_right (by omega)]; rfl, rfl⟩
theorem few_none (w : World) :
    Calls Try.prog 9 #[.slice none 0 0] w fun e w' => e = .returned (.slice none 0 0) ∧ w' = w := by
  go_enter Try.func9, Try.ntmps9
  go_wp2
  go_ret
  exact ⟨rfl, rfl⟩
theorem few_any {w : World} {A : Option Addr} {c : Nat} {l : List (Int × Int)} (h : Rd w A c l) :
    Calls Try.prog 9 #[.slice A l.length c] w fun e w' => e = .returned (.slice A (l.take 30).length c) ∧ w' = w := by
  cases A with
  | none =>
    obtain ⟨rfl, rfl⟩ := h.nil rfl
    exact few_none w
  | some ad =>
    rw [List.length_take]
    exact few_some ad c w _ h.le
theorem new_cells (w : World) (l : List Value) (T : TypeId) (W : World) (hW : W = w.alloc (.cells l.toArray T)) : ∀ j u, l[j]? = some u → W.cell? ((⟨w.heap.size, 0, none⟩ : Addr).add j) = some u := by
  intro j u hj
  subst hW
  have e : (⟨w.heap.size, 0, none⟩ : Addr).add j = ⟨w.heap.size, j, none⟩ := by unfold Addr.add; split <;> simp_all
  rw [e, World.cell?_alloc_at _ _ _ _ rfl]
  simpa using hj
theorem rd_new (w : World) (l : List (Int × Int)) (T : TypeId) (hl : l.length ≤ 1000) (W : World) (hW : W = w.alloc (.cells (flat l).toArray T)) : Rd W (some ⟨w.heap.size, 0, none⟩) l.length l :=
  ⟨Nat.le_refl _, by unfold maxLen; omega, fun h => (by cases h), fun ad ha j u hj => by obtain rfl := Option.some.inj ha; exact new_cells w _ T W hW j u hj⟩
theorem rdI_new (w : World) (l : List Int) (T : TypeId) (W : World) (hW : W = w.alloc (.cells (l.map (Value.int .i64)).toArray T)) : RdI W (some ⟨w.heap.size, 0, none⟩) l.length l :=
  ⟨Nat.le_refl _, fun ad ha j u hj => by
    obtain rfl := Option.some.inj ha
    exact new_cells w _ T W hW j _ (by rw [List.getElem?_map, hj]; rfl), fun h => (by cases h)⟩

set_option maxHeartbeats 4000000 in
theorem shown_any (w : World) :
    Calls Try.prog 7 #[] w fun e w' => e = .returned (.bool true) ∧ Bl w w' := by
  go_enter Try.func7, Try.ntmps7
  go_wp2_with fail
  have ho := of_any (rd_new w [(5, 0), (7, 0), (5, 0)] 25 (by decide) _ rfl) (by decide)
  refine ho.mono ?_
  rintro e w1 ⟨A, c, B, d, rfl, hr, hi, hb⟩
  have HR := Aside.mk hr
  have HI := Aside.mk hi
  have HB := Aside.mk (((Bl.refl w).alloc _).trans hb)
  clear ho hr hi hb
  go_wp2_with fail
  have hs := same_any (l := [(5, 0), (7, 0)]) (m := [(5, 0), (7, 0)]) ⟨HR.out.keep ((Bl.refl _).alloc _)⟩ ⟨rd_new w1 [(5, 0), (7, 0)] 25 (by decide) _ rfl⟩ 2 2 ⟨rfl⟩ ⟨rfl⟩ (by decide)
  refine hs.mono ?_
  rintro e w2 ⟨rfl, hb⟩
  have HB2 := Aside.mk (((Bl.refl w1).alloc _).trans hb)
  clear hs hb
  rw [show (([(5, 0), (7, 0)] : List (Int × Int)) == [(5, 0), (7, 0)]) = true by decide]
  go_wp2_with fail
  have hs := sameI_any (l := [0, 1, 0]) (m := [0, 1, 0]) ⟨(HI.out.keep HB2.out).keep ((Bl.refl _).alloc _)⟩ ⟨rdI_new w2 [0, 1, 0] 3 _ rfl⟩ 3 3 ⟨rfl⟩ ⟨rfl⟩ (by decide)
  refine hs.mono ?_
  rintro e w3 ⟨rfl, hb⟩
  have HB3 := Aside.mk (((Bl.refl w2).alloc _).trans hb)
  clear hs hb
  rw [show (([0, 1, 0] : List Int) == [0, 1, 0]) = true by decide]
  go_wp2
  go_ret
  exact ⟨rfl, (HB.out.trans HB2.out).trans HB3.out⟩
end Go.Proofs.Ytdmofkmkleekbaa.Pool
