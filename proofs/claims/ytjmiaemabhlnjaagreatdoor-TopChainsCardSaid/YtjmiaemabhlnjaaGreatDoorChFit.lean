import Derived.Test.YtjmiaemabhlnjaaGreatDoorChFitA
import Derived.Test.YtjmiaemabhlnjaaGreatDoorNameFit
import Derived.Deep.RegionHeld3
set_option linter.all false
set_option maxRecDepth 20000
/-! rivetref09.Fit: an object, of which only this is told: its words are its own, its sites rise, a site's word is small, its names can be read. -/
namespace Go.Proofs.YtjmiaemabhlnjaaGreatDoor.Chains
open Go Go.RowKit
set_option maxHeartbeats 8000000 in
theorem fit_any {w : World} {A B N : Option Addr} {c lb cb cn : Nat} {l : List Int} {b : List Nat} {nm : List ByteArray} (n nn : Nat)
    (hA : Aside (Rd w A c l)) (hn : Aside (l.length = n)) (hlow : Aside (∀ x ∈ l, 0 ≤ x ∧ x < 4294967296)) (h63 : n ≤ 9223372036854775807)
    (hl : b.length = lb) (hlc : lb ≤ cb) (h63b : lb ≤ 9223372036854775807) (hb : ∀ ad, B = some ad → ∀ (i x : Nat), b[i]? = some x → w.cell? (ad.add i) = some (.int .u8 (x : Int))) (hnil : B = none → lb = 0) (h256 : ∀ x ∈ b, x < 256)
    (hN : Aside (RdN w N cn nm)) (hnn : Aside (nm.length = nn)) (hns : Aside (∀ x ∈ nm, x.size ≤ maxLen)) :
    Calls Tryz.prog 9 #[.slice A n c, .slice B lb cb, .slice N nn cn] w fun e w' => FitPost w e w' := by
  obtain ⟨i0, hi, hz0, hz1, hz2⟩ := info_parts infoU
  have HB := Aside.mk hb
  have HL := Aside.mk hl
  have H256 := Aside.mk h256
  have HBn := Aside.mk hnil
  have hc := hA.out.le
  rw [hn.out] at hc
  have hcm := hA.out.mx
  unfold maxLen at hcm
  clear hb hl h256 hnil
  obtain ⟨m, hmin, hm40, hmn⟩ : ∃ m : Nat, min (n : Int) 40 = m ∧ m ≤ 40 ∧ m ≤ n := ⟨min n 40, by omega, by omega, by omega⟩
  have hsl : ∀ wx, (Instr.slice 22 (.slice A n c) none (some (.int .i64 (m : Int))) none).run Tryz.prog wx = .ok (.slice A m c) wx := slice_u32 hmn hc (fun e => by obtain ⟨h1, h2⟩ := hA.out.nil e; have := hn.out; rw [h1] at this; exact ⟨by simpa using this.symm, h2⟩)
  have RA : Aside (∀ wx, Bl w wx → Rd wx A c (l.take m)) := ⟨fun wx hb => (hA.out.take m).keep hb⟩
  have LA : Aside ((l.take m).length = m) := ⟨by rw [List.length_take]; have := hn.out; omega⟩
  have OE : Aside (((w.alloc (.cells #[.slice none 0 0, .slice none 0 0, .slice none 0 0] 34)).alloc (.cells #[] 56)).ownsRow (w.heap.size + 1) 56 1 (.slice (some ⟨w.heap.size + 1, 0, none⟩) 0 0) 0 []) := ⟨⟨rfl, .inr ⟨w.heap.size + 1, 0, #[], rfl, by omega, by simpa using heap_alloc_new (w.alloc (.cells #[.slice none 0 0, .slice none 0 0, .slice none 0 0] 34)) (.cells #[] 56), Nat.le_refl _, by decide, rfl, rfl⟩⟩⟩
  obtain ⟨W0, hW0⟩ : ∃ W0, W0 = w.alloc (.cells #[.slice none 0 0, .slice none 0 0, .slice none 0 0] 34) := ⟨_, rfl⟩
  have hs0 : W0.heap.size = w.heap.size + 1 := by rw [hW0]; simp
  have HW0 := Aside.mk hW0
  have BX0 : Aside (Bx W0 w.heap.size (.slice none 0 0) (.slice none 0 0) (.slice none 0 0)) := ⟨by rw [hW0]; exact Bx.new w _ _ _⟩
  have BW0 : Aside (Bl w W0) := ⟨by rw [hW0]; exact (Bl.refl w).alloc _⟩
  have BE : Aside (Bl W0 (W0.alloc (.cells #[] 56))) := ⟨(Bl.refl _).alloc _⟩
  have BE0 : Aside (Bl w ((w.alloc (.cells #[.slice none 0 0, .slice none 0 0, .slice none 0 0] 34)).alloc (.cells #[] 56))) := ⟨((Bl.refl w).alloc _).alloc _⟩
  obtain ⟨S, hSdef⟩ : ∃ S, sitesTo b (min m lb) = S := ⟨_, rfl⟩
  obtain ⟨ms, hms⟩ : ∃ ms, S.length = ms := ⟨_, rfl⟩
  have HR := Aside.mk (sites_rise b (min m lb) m (by omega))
  rw [hSdef] at HR
  have HS28 : Aside (∀ wx, Bl W0 wx → Calls Tryz.prog 28 #[.slice B lb cb, .int .i64 m] wx fun e w' => ∃ D d, e = .returned (.slice D ms d) ∧ RdI w' D d S ∧ (∀ ad, D = some ad → wx.heap.size ≤ ad.block ∧ ad.block < w'.heap.size) ∧ Bl wx w') :=
    ⟨fun wx hb => sites_rd wx B lb cb m b hm40 HL.out hlc h63b (fun ad ha i x hx => (BW0.out.trans hb).cell (HB.out ad ha i x hx)) HBn.out H256.out S ms hSdef hms⟩
  have HMS := Aside.mk hms
  have hms40 : ms ≤ 40 := by have := rise_len HR.out; omega
  clear hSdef hms hW0
  go_enter Tryz.func9, Tryz.ntmps9
  go_wp2_with (first
    | (at_builtin; refine append_u32 rfl (.tmp 14) (.tmp 19) rfl (w.heap.size + 1) (w.heap.size + 1) rfl OE.out A m c (l.take m) rfl LA.out (RA.out _ BE0.out) (by omega) (by simp) ?_; rw [← HW0.out, ← hs0]; intro g cap w1 how hgr
       have HO := Aside.mk how
       have HB1 := Aside.mk (BE.out.grow hgr (fun g' hg' => by have := Option.some.inj hg'; omega))
       clear how hgr)
    | (with_reducible refine (HS28.out _ (HB1.out.alloc _)).mono ?_; rintro e w2 ⟨D, d, rfl, hrd, hlt, hb2⟩
       have BX2 := (Bx.new w1 (.slice (some ⟨g, 0, none⟩) m cap) (.slice none 0 0) (.slice none 0 0)).keep hb2
       obtain ⟨bc0, bc1, bc2⟩ := BX2.cell
       have bf1 := BX2.frz 1
       have HBX2 := Aside.mk BX2
       have HRD2 := Aside.mk hrd
       have HLT2 := Aside.mk hlt
       have HB2 := Aside.mk ((HB1.out.alloc _).trans hb2)
       have HO2 := Aside.mk ((HO.out.keep ((Bl.refl w1).alloc (.cells #[.slice (some ⟨g, 0, none⟩) m cap, .slice none 0 0, .slice none 0 0] 34))).keep hb2)
       clear BX2 hrd hlt hb2)
    | fail)
  have hbx3 := HBX2.out.set1 (.slice D ms d)
  have hgn : ∀ h : 0 < m, g < w1.heap.size := fun h => HO.out.lt h
  have hne : ∀ h : 0 < m, g ≠ w1.heap.size := fun h => by have := hgn h; omega
  have hsb : ∀ ad, D = some ad → (0 < m → ad.block ≠ g) ∧ ad.block ≠ w1.heap.size ∧ W0.heap.size ≤ ad.block := fun ad ha => by
    have hz := HB1.out.out.size
    have h1 := (HLT2.out ad ha).1
    simp at h1
    exact ⟨fun h e => by have := hgn h; omega, by omega, by omega⟩
  have hrd3 := HRD2.out.off (g' := w1.heap.size) (fun ad ha => (hsb ad ha).2.1) 1 (.slice D ms d)
  have hB3 := HB2.out.puts (p := ⟨w1.heap.size, 1, none⟩) HB1.out.out.size (.slice D ms d)
  have hO3 := HO2.out.off (g' := w1.heap.size) hne 1 (.slice D ms d)
  have HI : Aside (Inv1 W0 (w2.setCell ⟨w1.heap.size, 1, none⟩ (.slice D ms d)) w1.heap.size g m cap D d ms S 0) :=
    ⟨⟨⟨l.take m, hO3, fun x hx => hlow.out x (List.mem_of_mem_take hx), fun s hs => (by simp at hs)⟩, hbx3, hrd3, hB3, hne, hsb⟩⟩
  clear hbx3 hgn hne hsb hrd3 hB3 hO3 bc0 bc1 bc2 bf1
  generalize hW3 : w2.setCell ⟨w1.heap.size, 1, none⟩ (.slice D ms d) = W3 at HI ⊢
  have HGB : Aside (W0.heap.size ≤ w1.heap.size) := ⟨HB1.out.out.size⟩
  generalize w1.heap.size = gb at HI HGB ⊢
  clear hW3
  go_loopw [9] (fun i wr => ∃ j : Nat, i = .int .i64 j ∧ j ≤ ms ∧ Aside (Inv1 W0 wr gb g m cap D d ms S j)) (fun i _ => ms - (intOf i).toNat)
  case atStart => exact ⟨0, rfl, by omega, HI⟩
  case round =>
    obtain ⟨j, rfl, hj, HI1⟩ := hrel
    have BXj := Aside.mk HI1.out.bx
    obtain ⟨bc0, bc1, bc2⟩ := BXj.out.cell
    by_cases hlt : j < ms
    · obtain ⟨s, hf⟩ : ∃ s, S[j]? = some s := ⟨_, List.getElem?_eq_getElem (by have := HMS.out; omega)⟩
      obtain ⟨ad, rfl⟩ : ∃ ad, D = some ad := by
        cases D with
        | some ad => exact ⟨ad, rfl⟩
        | none =>
          have := (HI1.out.rd.nil rfl).1
          rw [this] at hf
          simp at hf
      have hmsd : ms ≤ d := by have := HI1.out.rd.le; have := HMS.out; omega
      have hcs := HI1.out.rd.cells ad rfl j s hf
      have hsn := HR.out.lt s (List.mem_of_getElem? hf)
      obtain ⟨lj, hOw, hall, hsm⟩ := HI1.out.ex
      obtain ⟨x, hlx⟩ : ∃ x, lj[s]? = some x := ⟨_, List.getElem?_eq_getElem (by have := hOw.len; omega)⟩
      obtain ⟨hx0, hx1⟩ := hall x (List.mem_of_getElem? hlx)
      obtain ⟨hcx, hcf, hgb⟩ := hOw.at hlx
      have hmc := hOw.le
      have HOw := Aside.mk hOw
      have HAll := Aside.mk hall
      have HLT := Aside.mk hlt
      have HSm := Aside.mk hsm
      have HF := Aside.mk hf
      have HLX := Aside.mk hlx
      clear hOw hall hsm hf hlx
      have hw1 : wrap64 (4 * (m : Int)) = 4 * (m : Int) := by simp [wrap64, IntKind.wrap, IntKind.bits, IntKind.signed]; omega
      have hw2 : wrap64 (4 * (m : Int) + 1) = 4 * (m : Int) + 1 := by simp [wrap64, IntKind.wrap, IntKind.bits, IntKind.signed]; omega
      have hw3 : IntKind.u32.wrap (4 * (m : Int) + 1) = 4 * (m : Int) + 1 := by simp [IntKind.wrap, IntKind.bits, IntKind.signed]; omega
      go_wp2_with fail
      go_region
      have HN1 := Aside.mk (HI1.out.step hm40 HR.out HF.out HOw.out HAll.out HSm.out HLX.out)
      generalize (wr.setCell ⟨g, s, none⟩ (.int .u32 (x % (4 * (m : Int) + 1)))).drew = wn at HN1 ⊢
      go_wp2
      go_roundw
      case rel => exact ⟨j + 1, by go_num, HLT.out, HN1⟩
      case measure => have := HLT.out; simp [intOf]; omega
    · obtain rfl : ms = j := by omega
      have HI2 := Aside.mk (Inv2.start HI1.out HMS.out HGB.out)
      go_wp2_with fail
      clear HI1 BXj bc0 bc1 bc2
      obtain ⟨wo, hwo⟩ : ∃ x, x = wr := ⟨_, rfl⟩
      subst hwo
      go_loopw [10] (fun i wr => ∃ (j : Nat) (E : Option Addr) (f k : Nat) (Y : List (ByteArray × Int)), i = .int .i64 j ∧ j ≤ nn ∧ j ≤ 8 ∧ k ≤ j ∧ Aside (Inv2 W0 wr gb g m cap D d ms S E f k Y)) (fun i _ => 8 - (intOf i).toNat)
      case atStart => exact ⟨0, _, _, 0, _, rfl, by omega, by omega, by omega, HI2⟩
      case round =>
        obtain ⟨j, E, f, k, Y, rfl, hj, hj8, hkj, HI3⟩ := hrel
        obtain ⟨bc0, bc1, bc2⟩ := HI3.out.bx.cell
        have HBT := Aside.mk (BX0.out.keep HI3.out.bl)
        obtain ⟨tc0, tc1, tc2⟩ := HBT.out.cell
        have tf0 := HBT.out.frz 0
        have tf1 := HBT.out.frz 1
        have tf2 := HBT.out.frz 2
        by_cases h1 : j < nn
        · by_cases h2 : j < 8
          · obtain ⟨x, hf⟩ : ∃ x, nm[j]? = some x := ⟨_, List.getElem?_eq_getElem (by have := hnn.out; omega)⟩
            obtain ⟨ad, rfl⟩ : ∃ ad, N = some ad := by
              cases N with
              | some ad => exact ⟨ad, rfl⟩
              | none =>
                have := (hN.out.nil rfl).1
                rw [this] at hf
                simp at hf
            have hnc : nn ≤ cn := by have := hN.out.le; have := hnn.out; omega
            have hcx := (BW0.out.trans HI3.out.bl).cell (hN.out.cells ad rfl j x hf)
            have hxs := hns.out x (List.mem_of_getElem? hf)
            have HCX := Aside.mk hcx
            have HH1 := Aside.mk h1
            clear hf
            go_wp2_with (first
              | (with_reducible refine (name_any _ _ hxs).mono ?_; rintro e w3 ⟨t, rfl, ht7, hb3⟩
                 have HT7 := Aside.mk ht7
                 have HB3 := Aside.mk hb3
                 have HI4 := Aside.mk (HI3.out.move ⟨hb3⟩)
                 clear ht7 hb3)
              | fail)
            clear bc0 bc1 bc2 tc0 tc1 tc2 tf0 tf1 tf2 hcx HBT
            have BW3 := Aside.mk (Bl.mk HB3.out)
            obtain ⟨bd0, bd1, bd2⟩ := HI4.out.bx.cell
            have hc3 := BW3.out.cell HCX.out
            have hk8 : k ≤ 8 := by omega
            have hkf : k ≤ f := by have := HI4.out.rs.le; have := HI4.out.ky; omega
            obtain ⟨wo, hwo⟩ : ∃ y, y = wr := ⟨_, rfl⟩
            subst hwo
            go_loopw [12] (fun at_ wr => ∃ q : Nat, at_ = .int .i64 q ∧ q ≤ k ∧ Aside (wr = w3)) (fun at_ _ => k - (intOf at_).toNat)
            case atStart => exact ⟨0, rfl, by omega, ⟨rfl⟩⟩
            case round =>
              obtain ⟨q, rfl, hq, HWQ⟩ := hrel
              obtain rfl := HWQ.out
              by_cases hqk : q < k
              · obtain ⟨⟨p, z⟩, hfy⟩ : ∃ u, Y[q]? = some u := ⟨_, List.getElem?_eq_getElem (by have := HI4.out.ky; omega)⟩
                obtain ⟨ae, rfl⟩ : ∃ ae, E = some ae := by
                  cases E with
                  | some ae => exact ⟨ae, rfl⟩
                  | none =>
                    have := (HI4.out.rs.nil rfl).1
                    rw [this] at hfy
                    simp at hfy
                obtain ⟨e0, e1⟩ := HI4.out.rs.at hfy
                dsimp only at e0 e1
                clear hfy
                have HQK := Aside.mk hqk
                obtain ⟨E, hE⟩ : ∃ E, E = some ae := ⟨_, rfl⟩
                go_wp2_with fail
                · exact ⟨⟨q + 1, by simp, by have := HQK.out; omega, ⟨trivial⟩⟩, by have := HQK.out; simp [intOf]; omega⟩
                · exact ⟨⟨j + 1, some ae, f, k, Y, by simp, by have := HH1.out; omega, by omega, by omega, HI4⟩, by simp [intOf]; omega⟩
                · rw [← hE] at HI4 bd2
                  clear hE
                  have hzero : ¬ ((m : Int) + 1 = 0) := by omega
                  have hw5 : IntKind.i64.wrap ((m : Int) + 1) = (m : Int) + 1 := by simp [IntKind.wrap, IntKind.bits, IntKind.signed]; omega
                  obtain ⟨y1, hy1⟩ : ∃ y, IntKind.i64.wrap ((x.size : Int) + (j : Int)) = y := ⟨_, rfl⟩
                  obtain ⟨y2, hy2⟩ : ∃ y, y1.tmod ((m : Int) + 1) = y := ⟨_, rfl⟩
                  obtain ⟨y3, hy3⟩ : ∃ y, IntKind.i64.wrap (4 * y2) = y := ⟨_, rfl⟩
                  obtain ⟨E2, f2, k2, hk2, hsl2, hrd2, hl2⟩ := slice_from (Y := Y) (E := E) (f := f) HI4.out.ky hq hkf (fun e => by obtain ⟨h1, h2⟩ := HI4.out.rs.nil e; have := HI4.out.ky; rw [h1] at this; exact ⟨by simpa using this.symm, h2⟩)
                  have hk2b : 1 + k2 ≤ 1001 := by omega
                  have HRD2 := Aside.mk hrd2
                  have HL2 := Aside.mk hl2
                  have BR : Bl wr wr := Bl.refl _
                  have OE1 : Aside ((wr.alloc (.cells #[.string t, .int .i64 y3] 82)).ownsRow wr.heap.size 82 2 (.slice (some ⟨wr.heap.size, 0, none⟩) 1 1) 1 (flat [(t, y3)])) := ⟨World.ownsRow_lit wr #[.string t, .int .i64 y3] 1 (Nat.le_refl _) (by decide) rfl⟩
                  have BE1 : Aside (Bl wr (wr.alloc (.cells #[.string t, .int .i64 y3] 82))) := ⟨BR.alloc _⟩
                  clear hrd2 hl2 e0 e1
                  go_region_held3 (fun w' => Bl wr w' ∧ w'.cell? ⟨gb, 2, none⟩ = some (.slice E k f) ∧ w'.cell? (ad.add j) = some (.string x)) (((refine keepS bd2 hc3 ?_); (repeat (first | (with_reducible assumption) | refine Bl.drew ?_ | refine Bl.alloc ?_ _)); done)) (first | (refine step_syms (.tmp 118) (.tmp 122) wr.heap.size (.slice (some ⟨wr.heap.size, 0, none⟩) 1 1) 1 [(t, y3)] OE1.out.drew E2 k2 f2 (Y.drop q) HL2.out (HRD2.out _ (HI4.out.rs.keep (Bl.drew BE1.out))) hk2b (Bl.drew BE1.out).out.size ?_ ?_ ?_ ?_ ?_; rfl; rfl; rfl; rfl; intro v2 w2 hown2 hgrow2; have hG2 : Bl wr w2 := (Bl.drew BE1.out).grow hgrow2 (fun g e => (by obtain rfl : wr.heap.size = g := Option.some.inj e; omega))) | (fail "none"))
                  obtain ⟨n2, hn2⟩ : ∃ n2, 1 + k2 = n2 := ⟨_, rfl⟩
                  rw [hn2] at hown2
                  obtain ⟨A2, c2, rfl, hr2, hlen2, hb2⟩ := RdS.own hown2
                  have hgz := HI4.out.bx.lt
                  have hgs := hG2.out.size
                  have hg2z : gb < w2.heap.size := by omega
                  have b2 := hG2.cell bd2
                  have HBX2b := Aside.mk (HI4.out.bx.keep hG2)
                  have HG2 := Aside.mk hG2
                  have HR2 := Aside.mk hr2
                  have HL2b := Aside.mk hlen2
                  have hsl3 := slice_to (E := E) (f := f) hq hkf (fun e => by obtain ⟨h1, h2⟩ := HI4.out.rs.nil e; have := HI4.out.ky; rw [h1] at this; exact ⟨by simpa using this.symm, h2⟩)
                  have HE2 := Aside.mk ((HI4.out.rs.keep hG2).take q)
                  have HLq : Aside ((Y.take q).length = q) := ⟨by rw [List.length_take]; have := HI4.out.ky; omega⟩
                  have OE2 := Aside.mk (own_made w2 82 2 w2.heap.size (Nat.le_refl _))
                  have BE2 : Aside (Bl w2 (w2.alloc (.cells #[] 82))) := ⟨(Bl.refl w2).alloc _⟩
                  have hq1 : 0 + q ≤ 1001 := by omega
                  have hq2 : 0 + q + n2 ≤ 1001 := by omega
                  obtain ⟨n5, hn5⟩ : ∃ n5, 0 + q + n2 = n5 := ⟨_, rfl⟩
                  have HN5 := Aside.mk hn5
                  have HN2 := Aside.mk hn2
                  clear hown2 hgrow2 hG2 hr2 hlen2 hn2 hn5 bd0 bd1 bd2
                  go_wp2_with (first
                    | (at_builtin; refine append_syms rfl (.tmp 124) (.tmp 128) rfl w2.heap.size (.slice (some ⟨w2.heap.size, 0, none⟩) 0 0) 0 [] rfl OE2.out E q f (Y.take q) rfl HLq.out (HE2.out.keep BE2.out) hq1 BE2.out.out.size ?_; intro v4 w4 hown4 hgrow4
                       have HG4 := Aside.mk (BE2.out.grow hgrow4 (fun g' hg' => by have e : w2.heap.size = g' := Option.some.inj hg'; omega))
                       have HO4 := Aside.mk hown4
                       have HR4 := Aside.mk (HR2.out.keep HG4.out)
                       have b4 := HG4.out.cell b2
                       clear hown4 hgrow4)
                    | (at_builtin; refine append_syms rfl (.tmp 129) (.tmp 130) rfl w2.heap.size v4 (0 + q) ([] ++ Y.take q) rfl HO4.out A2 n2 c2 ([(t, y3)] ++ Y.drop q) rfl HL2b.out HR4.out hq2 HG4.out.out.size ?_; intro v5 w5 hown5 hgrow5
                       have HG5 := Aside.mk (HG4.out.grow hgrow5 (fun g' hg' => (HO4.out.lt g' hg').1))
                       rw [HN5.out] at hown5
                       obtain ⟨A5, c5, rfl, hr5, hlen5, hb5⟩ := RdS.own hown5
                       have b5 := HG5.out.cell b2
                       have bf5 := (HBX2b.out.keep HG5.out).frz 2
                       have HR5 := Aside.mk hr5
                       have HL5 := Aside.mk hlen5
                       have HB5 := Aside.mk hb5
                       clear hown5 hgrow5 hr5 hlen5 hb5)
                    | fail)
                  have HI5 := Aside.mk (((HI4.out.move HG2.out).move HG5.out).store HR5.out HL5.out (fun ad ha => by have := HB5.out ad ha; have := HI4.out.gw; have := hgz; exact ⟨by omega, by omega⟩))
                  refine ⟨⟨j + 1, A5, c5, n5, _, by simp, by have := HH1.out; omega, by omega, by have := HN5.out; have := HN2.out; omega, HI5⟩, by simp [intOf]; omega⟩
              · have HQK := Aside.mk hqk
                go_wp2_with fail
                have hzero : ¬ ((m : Int) + 1 = 0) := by omega
                have hw5 : IntKind.i64.wrap ((m : Int) + 1) = (m : Int) + 1 := by simp [IntKind.wrap, IntKind.bits, IntKind.signed]; omega
                obtain ⟨y1, hy1⟩ : ∃ y, IntKind.i64.wrap ((x.size : Int) + (j : Int)) = y := ⟨_, rfl⟩
                obtain ⟨y2, hy2⟩ : ∃ y, y1.tmod ((m : Int) + 1) = y := ⟨_, rfl⟩
                obtain ⟨y3, hy3⟩ : ∃ y, IntKind.i64.wrap (4 * y2) = y := ⟨_, rfl⟩
                obtain ⟨E2, f2, k2, hk2, hsl2, hrd2, hl2⟩ := slice_from (Y := Y) (E := E) (f := f) HI4.out.ky hq hkf (fun e => by obtain ⟨h1, h2⟩ := HI4.out.rs.nil e; have := HI4.out.ky; rw [h1] at this; exact ⟨by simpa using this.symm, h2⟩)
                have hk2b : 1 + k2 ≤ 1001 := by omega
                have HRD2 := Aside.mk hrd2
                have HL2 := Aside.mk hl2
                have BR : Bl wr wr := Bl.refl _
                have OE1 : Aside ((wr.alloc (.cells #[.string t, .int .i64 y3] 82)).ownsRow wr.heap.size 82 2 (.slice (some ⟨wr.heap.size, 0, none⟩) 1 1) 1 (flat [(t, y3)])) := ⟨World.ownsRow_lit wr #[.string t, .int .i64 y3] 1 (Nat.le_refl _) (by decide) rfl⟩
                have BE1 : Aside (Bl wr (wr.alloc (.cells #[.string t, .int .i64 y3] 82))) := ⟨BR.alloc _⟩
                clear hrd2 hl2
                go_region_held3 (fun w' => Bl wr w' ∧ w'.cell? ⟨gb, 2, none⟩ = some (.slice E k f) ∧ w'.cell? (ad.add j) = some (.string x)) (((refine keepS bd2 hc3 ?_); (repeat (first | (with_reducible assumption) | refine Bl.drew ?_ | refine Bl.alloc ?_ _)); done)) (first | (refine step_syms (.tmp 118) (.tmp 122) wr.heap.size (.slice (some ⟨wr.heap.size, 0, none⟩) 1 1) 1 [(t, y3)] OE1.out.drew E2 k2 f2 (Y.drop q) HL2.out (HRD2.out _ (HI4.out.rs.keep (Bl.drew BE1.out))) hk2b (Bl.drew BE1.out).out.size ?_ ?_ ?_ ?_ ?_; rfl; rfl; rfl; rfl; intro v2 w2 hown2 hgrow2; have hG2 : Bl wr w2 := (Bl.drew BE1.out).grow hgrow2 (fun g e => (by obtain rfl : wr.heap.size = g := Option.some.inj e; omega))) | (fail "none"))
                obtain ⟨n2, hn2⟩ : ∃ n2, 1 + k2 = n2 := ⟨_, rfl⟩
                rw [hn2] at hown2
                obtain ⟨A2, c2, rfl, hr2, hlen2, hb2⟩ := RdS.own hown2
                have hgz := HI4.out.bx.lt
                have hgs := hG2.out.size
                have hg2z : gb < w2.heap.size := by omega
                have b2 := hG2.cell bd2
                have HBX2b := Aside.mk (HI4.out.bx.keep hG2)
                have HG2 := Aside.mk hG2
                have HR2 := Aside.mk hr2
                have HL2b := Aside.mk hlen2
                have hsl3 := slice_to (E := E) (f := f) hq hkf (fun e => by obtain ⟨h1, h2⟩ := HI4.out.rs.nil e; have := HI4.out.ky; rw [h1] at this; exact ⟨by simpa using this.symm, h2⟩)
                have HE2 := Aside.mk ((HI4.out.rs.keep hG2).take q)
                have HLq : Aside ((Y.take q).length = q) := ⟨by rw [List.length_take]; have := HI4.out.ky; omega⟩
                have OE2 := Aside.mk (own_made w2 82 2 w2.heap.size (Nat.le_refl _))
                have BE2 : Aside (Bl w2 (w2.alloc (.cells #[] 82))) := ⟨(Bl.refl w2).alloc _⟩
                have hq1 : 0 + q ≤ 1001 := by omega
                have hq2 : 0 + q + n2 ≤ 1001 := by omega
                obtain ⟨n5, hn5⟩ : ∃ n5, 0 + q + n2 = n5 := ⟨_, rfl⟩
                have HN5 := Aside.mk hn5
                have HN2 := Aside.mk hn2
                clear hown2 hgrow2 hG2 hr2 hlen2 hn2 hn5 bd0 bd1 bd2
                go_wp2_with (first
                  | (at_builtin; refine append_syms rfl (.tmp 124) (.tmp 128) rfl w2.heap.size (.slice (some ⟨w2.heap.size, 0, none⟩) 0 0) 0 [] rfl OE2.out E q f (Y.take q) rfl HLq.out (HE2.out.keep BE2.out) hq1 BE2.out.out.size ?_; intro v4 w4 hown4 hgrow4
                     have HG4 := Aside.mk (BE2.out.grow hgrow4 (fun g' hg' => by have e : w2.heap.size = g' := Option.some.inj hg'; omega))
                     have HO4 := Aside.mk hown4
                     have HR4 := Aside.mk (HR2.out.keep HG4.out)
                     have b4 := HG4.out.cell b2
                     clear hown4 hgrow4)
                  | (at_builtin; refine append_syms rfl (.tmp 129) (.tmp 130) rfl w2.heap.size v4 (0 + q) ([] ++ Y.take q) rfl HO4.out A2 n2 c2 ([(t, y3)] ++ Y.drop q) rfl HL2b.out HR4.out hq2 HG4.out.out.size ?_; intro v5 w5 hown5 hgrow5
                     have HG5 := Aside.mk (HG4.out.grow hgrow5 (fun g' hg' => (HO4.out.lt g' hg').1))
                     rw [HN5.out] at hown5
                     obtain ⟨A5, c5, rfl, hr5, hlen5, hb5⟩ := RdS.own hown5
                     have b5 := HG5.out.cell b2
                     have bf5 := (HBX2b.out.keep HG5.out).frz 2
                     have HR5 := Aside.mk hr5
                     have HL5 := Aside.mk hlen5
                     have HB5 := Aside.mk hb5
                     clear hown5 hgrow5 hr5 hlen5 hb5)
                  | fail)
                have HI5 := Aside.mk (((HI4.out.move HG2.out).move HG5.out).store HR5.out HL5.out (fun ad ha => by have := HB5.out ad ha; have := HI4.out.gw; have := hgz; exact ⟨by omega, by omega⟩))
                refine ⟨⟨j + 1, A5, c5, n5, _, by simp, by have := HH1.out; omega, by omega, by have := HN5.out; have := HN2.out; omega, HI5⟩, by simp [intOf]; omega⟩
          · go_wp2_with fail
            exact bodyPost_ret (results_cell_row rfl _ _ w.heap.size 34 _ (0, 0) _ rfl (((HBT.out.set0 _).set1 _).set2 _).h Tryz.underlying34 rfl (by kernel_rfl)) rfl (HI3.out.fin BW0.out (Nat.le_refl _) (by omega) hm40 HR.out HMS.out (by omega) _ _ _)
        · go_wp2_with fail
          exact bodyPost_ret (results_cell_row rfl _ _ w.heap.size 34 _ (0, 0) _ rfl (((HBT.out.set0 _).set1 _).set2 _).h Tryz.underlying34 rfl (by kernel_rfl)) rfl (HI3.out.fin BW0.out (Nat.le_refl _) (by omega) hm40 HR.out HMS.out (by omega) _ _ _)
#print axioms fit_any
end Go.Proofs.YtjmiaemabhlnjaaGreatDoor.Chains
