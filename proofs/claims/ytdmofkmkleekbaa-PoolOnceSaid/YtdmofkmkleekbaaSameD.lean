/-
  Same only draws.
-/
import Derived.Test.YtdmofkmkleekbaaSame
namespace Go.Proofs.Ytdmofkmkleekbaa.Pool
open Go Go.RowKit
attribute [local go_sem high] eqVal

structure Dn (W w : World) : Prop where mk :: (out : ∃ n, w = W.drewN n)
theorem Dn.refl (w : World) : Dn w w := ⟨0, rfl⟩
theorem Dn.dN {W w : World} (h : Dn W w) (n : Nat) : Dn W (w.drewN n) := by
  obtain ⟨m, rfl⟩ := h.out
  exact ⟨m + n, World.drewN_drewN ..⟩
theorem Dn.bl {W w : World} (h : Dn W w) : Bl W w := by
  obtain ⟨m, rfl⟩ := h.out
  exact (Bl.refl W).dN m

set_option maxHeartbeats 4000000 in
theorem same_d {w : World} {A B : Option Addr} {c d : Nat} {l m : List (Int × Int)} (h : Aside (Rd w A c l)) (k : Aside (Rd w B d m)) (n nm : Nat) (hn : Aside (l.length = n)) (hm : Aside (m.length = nm)) (hb : n ≤ 100000) :
    Calls Try.prog 13 #[.slice A n c, .slice B nm d] w fun e w' => e = .returned (.bool (l == m)) ∧ ∃ n, w' = w.drewN n := by
  go_enter Try.func13, Try.ntmps13
  by_cases hl : n = nm
  · subst hl
    go_wp2_with fail
    go_loopw [5] (fun i wr => Aside (Dn w wr) ∧ ∃ k : Nat, i = .int .i64 k ∧ k ≤ n ∧ Aside (l.take k = m.take k)) (fun i _ => n - (intOf i).toNat)
    case atStart => exact ⟨⟨Dn.refl _⟩, 0, rfl, by omega, ⟨by simp⟩⟩
    case round =>
      obtain ⟨HB, j, rfl, hj, HT⟩ := hrel
      by_cases hlt : j < n
      · obtain ⟨ad, rfl⟩ : ∃ ad, A = some ad := by
          cases A with
          | some ad => exact ⟨ad, rfl⟩
          | none =>
            have := (h.out.nil rfl).1
            have h2 := hn.out
            rw [this] at h2
            simp at h2
            omega
        obtain ⟨bd, rfl⟩ : ∃ ad, B = some ad := by
          cases B with
          | some ad => exact ⟨ad, rfl⟩
          | none =>
            have := (k.out.nil rfl).1
            have h2 := hm.out
            rw [this] at h2
            simp at h2
            omega
        have hc : n ≤ c := by have := h.out.le; have := hn.out; omega
        have hd : n ≤ d := by have := k.out.le; have := hm.out; omega
        obtain ⟨⟨p, q⟩, hf⟩ : ∃ f, l[j]? = some f := ⟨_, List.getElem?_eq_getElem (by have := hn.out; omega)⟩
        obtain ⟨⟨p2, q2⟩, hg⟩ : ∃ f, m[j]? = some f := ⟨_, List.getElem?_eq_getElem (by have := hm.out; omega)⟩
        obtain ⟨e0, e1⟩ := (h.out.keep HB.out.bl).at hf
        obtain ⟨e2, e3⟩ := (k.out.keep HB.out.bl).at hg
        dsimp only at e0 e1 e2 e3
        have HF := Aside.mk hf
        have HG := Aside.mk hg
        clear hf hg
        by_cases heq : p = p2 ∧ q = q2
        · obtain ⟨rfl, rfl⟩ := heq
          have HS := Aside.mk (take_step HT.out HF.out HG.out)
          go_wp2_with fail
          go_quiet (fail)
          generalize hK : World.drewN _ _ = Wc
          have HC : Aside (Dn w Wc) := ⟨by rw [← hK]; exact HB.out.dN _⟩
          clear hK
          go_wp2
          go_roundw
          case rel => exact ⟨HC, j + 1, by go_num, by omega, HS⟩
          case measure => simp [intOf]; omega
        · have qf : (p == p2 && (q == q2)) = false := by
            rw [Bool.eq_false_iff]
            intro h
            simp at h
            exact heq h
          have HQ : Aside ((l == m) = false) := ⟨by
            rw [beq_eq_false_iff_ne]
            rintro rfl
            have := HF.out.symm.trans HG.out
            simp at this
            exact heq this⟩
          clear heq
          go_wp2_with fail
          go_quiet (fail)
          go_wp2
          go_ret
          exact ⟨by rw [HQ.out]; rfl, (HB.out.dN _).out⟩
      · have hkn : j = n := by omega
        subst hkn
        have HQ : Aside ((l == m) = true) := ⟨by
          have := HT.out
          rw [List.take_of_length_le (by have := hn.out; omega), List.take_of_length_le (by have := hm.out; omega)] at this
          simpa using this⟩
        go_wp2
        go_ret
        exact ⟨by rw [HQ.out]; rfl, HB.out.out⟩
  · have HQ : Aside ((l == m) = false) := ⟨by
      rw [beq_eq_false_iff_ne]
      rintro rfl
      exact hl (hn.out.symm.trans hm.out)⟩
    have hl2 : ¬ (n : Int) = nm := by omega
    go_wp2
    go_ret
    exact ⟨by rw [HQ.out]; rfl, 0, rfl⟩
end Go.Proofs.Ytdmofkmkleekbaa.Pool
