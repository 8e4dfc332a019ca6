import Derived.Test.YtjmiaemabhlnjaaGreatDoorChFit
set_option linter.all false
set_option maxRecDepth 20000
/-! TopChains, of any parts, where shown() says true. -/
namespace Go.Proofs.YtjmiaemabhlnjaaGreatDoor.Chains
open Go Go.RowKit
theorem RdI.ownB {w : World} {base n : Nat} {v : Value} {l : List Nat} (hn : l.length = n) (h : w.ownsRow base 3 1 v n (ints l)) : ∃ A c, v = .slice A n c ∧ RdI w A c l := by
  subst hn
  exact RdI.own h
set_option maxHeartbeats 8000000 in
theorem chains_any {W : World} {A B N : Option Addr} {c lb cb cn : Nat} {l : List Int} {b : List Nat} {nm : List ByteArray} (n nn : Nat)
    (hshown : Aside (∀ wx, Bl W wx → Calls Tryz.prog 7 #[] wx fun e w' => e = .returned (.bool true) ∧ Bl wx w'))
    (hA : Aside (Rd W A c l)) (hn : Aside (l.length = n)) (hlow : Aside (∀ x ∈ l, 0 ≤ x ∧ x < 4294967296)) (h63 : n ≤ 9223372036854775807)
    (hl : Aside (b.length = lb)) (hlc : lb ≤ cb) (h63b : lb ≤ 9223372036854775807) (hb : Aside (∀ ad, B = some ad → ∀ (i x : Nat), b[i]? = some x → W.cell? (ad.add i) = some (.int .u8 (x : Int)))) (hnil : Aside (B = none → lb = 0)) (h256 : Aside (∀ x ∈ b, x < 256))
    (hN : Aside (RdN W N cn nm)) (hnn : Aside (nm.length = nn)) (hns : Aside (∀ x ∈ nm, x.size ≤ maxLen)) :
    Calls Tryz.prog 6 #[.agg #[.slice A n c, .slice B lb cb, .slice N nn cn]] W fun e w' => e = .returned (.bool true) ∧ Bl W w' := by
  have H9 : Aside (∀ wx, Bl W wx → Calls Tryz.prog 9 #[.slice A n c, .slice B lb cb, .slice N nn cn] wx fun e w' => FitPost wx e w') :=
    ⟨fun wx h => fit_any n nn ⟨hA.out.keep h⟩ hn hlow h63 hl.out hlc h63b (fun ad ha i x hx => h.cell (hb.out ad ha i x hx)) hnil.out h256.out ⟨hN.out.keep h⟩ hnn hns⟩
  have BX := Aside.mk (Box.new W (.slice A n c) (.slice B lb cb) (.slice N nn cn) 26)
  have HB0 := Aside.mk ((Bl.refl W).alloc (.cells #[.slice A n c, .slice B lb cb, .slice N nn cn] 26))
  clear hA hl hlc h63b hb hnil h256 hN
  go_enter Tryz.func6, Tryz.ntmps6
  go_wp2_with (first
    | (with_reducible refine (hshown.out _ HB0.out).mono ?_; rintro e w1 ⟨rfl, hb1⟩
       obtain ⟨c0, c1, c2⟩ := BX.out.keep hb1
       have HB1 := Aside.mk (HB0.out.trans hb1)
       clear hb1)
    | ((with_reducible refine (H9.out _ HB1.out).mono ?_); rintro e w2 ⟨g, m, cap, D, d, ms, S, E, f, k, Y, lw, rfl, hrd, hlen, hm40, hri, hms, hrise, hsm, hrs, hky, hk8, hbl⟩
       have HB2 := Aside.mk (HB1.out.trans hbl)
       have HRD := Aside.mk hrd
       have HLEN := Aside.mk hlen
       have HRI := Aside.mk hri
       have HMS := Aside.mk hms
       have HRISE := Aside.mk hrise
       have HSM := Aside.mk hsm
       have HRS := Aside.mk hrs
       have HKY := Aside.mk hky
       have HB3 := Aside.mk ((Bl.refl w2).alloc (.cells #[.slice (some ⟨g, 0, none⟩) m cap, .slice D ms d, .slice E k f] 34))
       have BY := Aside.mk (Box.new w2 (.slice (some ⟨g, 0, none⟩) m cap) (.slice D ms d) (.slice E k f) 34)
       have hms40 : ms ≤ 40 := by have := rise_len hrise; omega
       have HPK := Aside.mk (pack_any m ms HLEN HMS ⟨HRD.out.keep HB3.out⟩ ⟨HRI.out.keep HB3.out⟩ HRISE hm40 HSM)
       obtain ⟨q, hq⟩ : ∃ q, (packL lw S).2 = q := ⟨_, rfl⟩
       have HQ := Aside.mk hq
       rw [hq] at HPK
       clear hrd hlen hri hms hrise hsm hrs hky hbl hq c0 c1 c2)
    | (with_reducible refine HPK.out.mono ?_; rintro e w4 ⟨g1, cap1, rfl, how1, hb4⟩
       have HO1 := Aside.mk how1
       have HB4 := Aside.mk (HB3.out.trans hb4)
       have BY4 := Aside.mk (BY.out.keep hb4)
       have HUN := Aside.mk (unpack_any m ms HLEN HMS ⟨HO1.out.rd⟩ HRISE hm40 HSM)
       rw [HQ.out] at HUN
       clear how1 hb4)
    | (with_reducible refine HUN.out.mono ?_; rintro e w5 ⟨g2, cap2, v, rfl, how2, hrow, hb5⟩
       obtain ⟨D2, d2, rfl, hri2⟩ := RdI.ownB HMS.out hrow
       have HO2 := Aside.mk how2
       have HRI2 := Aside.mk hri2
       have HB5 := Aside.mk (HB4.out.trans hb5)
       obtain ⟨y0, y1, y2⟩ := BY4.out.keep hb5
       have HSA := Aside.mk (same_any m ms k ⟨HO2.out.rd⟩ ⟨HRD.out.keep HB5.out⟩ HLEN HRI2 ⟨HRI.out.keep HB5.out⟩ HMS ⟨HRS.out.keep HB5.out⟩ ⟨HRS.out.keep HB5.out⟩ HKY (by omega) (by omega) (by omega))
       clear how2 hrow hri2 hb5)
    | (with_reducible refine HSA.out.mono ?_; rintro e w6 ⟨rfl, hb6⟩
       have HB6 := Aside.mk ((HB2.out.trans HB5.out).trans hb6)
       clear hb6)
    | fail)
  go_ret
  exact ⟨rfl, HB6.out⟩
#print axioms chains_any
end Go.Proofs.YtjmiaemabhlnjaaGreatDoor.Chains
