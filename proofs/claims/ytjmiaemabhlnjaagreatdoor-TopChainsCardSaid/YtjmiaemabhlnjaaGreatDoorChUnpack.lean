import Derived.Test.YtjmiaemabhlnjaaGreatDoorChPack
set_option linter.all false
set_option maxRecDepth 20000
/-! chain.Unpack, of the chain of sites that rise: the words and the sites. -/
namespace Go.Proofs.YtjmiaemabhlnjaaGreatDoor.Chains
open Go Go.RowKit
theorem below_drop {w w' : World} {b b' : Nat} (h : Below b w w') (hb : b' ≤ b) : Below b' w w' :=
  ⟨h.os, h.tape, h.output, h.size, fun i hi => h.block i (by omega)⟩
/-- A row of one's own and a row grown apart. -/
structure Apart (w : World) (n g : Nat) (v : Value) : Prop where
  ne : v.ownBlock ≠ some g
  lt : 0 < n → g < w.heap.size
theorem grown_set (w : World) (g i : Nat) (x : Value) : w.grownBy (w.setCell ⟨g, i, none⟩ x) (some g) :=
  ⟨rfl, rfl, rfl, by simp, fun k _ hk => heap_setCell_other w ⟨g, i, none⟩ k x (fun e => hk (by simp [e]))⟩
theorem own_set {w : World} {base : Nat} {e : TypeId} {size n : Nat} {v : Value} {xs : List Value} (h : w.ownsRow base e size v n xs) {g : Nat} (hne : v.ownBlock ≠ some g) (i : Nat) (x : Value) : (w.setCell ⟨g, i, none⟩ x).ownsRow base e size v n xs :=
  h.kept (grown_set w g i x) (.inr hne)
theorem Ow.lt {w : World} {base g n cap : Nat} {l : List Int} (h : Ow w base g n cap l) (hn : 0 < n) : g < w.heap.size := ((h.own hn).2.lt g rfl).2
theorem Ow.grown {w w' : World} {base g n cap : Nat} {l : List Int} {row : Option Nat} (h : Ow w base g n cap l) (hg : w.grownBy w' row) (hne : row ≠ some g) : Ow w' base g n cap l :=
  ⟨h.len, h.le, h.mx, fun hn => ⟨(h.own hn).1, (h.own hn).2.kept hg (.inr fun e => hne e.symm)⟩⟩
set_option maxHeartbeats 8000000 in
theorem unpack_any {w : World} {g0 c : Nat} {l : List Int} {S : List Nat} (n m : Nat) (hn : Aside (l.length = n)) (hm : Aside (S.length = m)) (h : Aside (Rd w (some ⟨g0, 0, none⟩) c (packL l S).1)) (hS : Aside (Rise S n)) (h40 : n ≤ 40)
    (hx : Aside (∀ s ∈ S, ∀ x, l[s]? = some x → 0 ≤ x ∧ x ≤ 160)) :
    Calls Tryz.prog 15 #[.slice (some ⟨g0, 0, none⟩) n c, .int .i64 (packL l S).2] w fun e w' => ∃ g cap v, e = .returned (.tuple #[.slice (some ⟨g, 0, none⟩) n cap, v, .int .i64 0]) ∧ Ow w' w.heap.size g n cap l ∧ w'.ownsRow w.heap.size 3 1 v m (ints S) ∧ Bl w w' := by
  have hmn : m ≤ 40 := by have := rise_len hS.out; have := hm.out; omega
  have hlen : Aside ((packL l S).1.length = n) := ⟨by rw [packL_len]; exact hn.out⟩
  obtain ⟨i0, hi, hz0, hz1, hz2⟩ := info_parts infoI
  have hHead : (packL l S).2 ≤ n := packL_head l S n hS.out.lt
  have HCl := Aside.mk (clone_any n hlen h (by omega : n ≤ 1000))
  obtain ⟨q, hq⟩ : ∃ q, (packL l S).2 = q := ⟨_, rfl⟩
  rw [hq] at hHead ⊢
  have HQ := Aside.mk hq
  have hq0 : ¬ ((q : Int) < 0) := by omega
  have hqn : ¬ (n < q) := by omega
  clear hq
  go_enter Tryz.func15, Tryz.ntmps15
  go_wp2_with fail
  go_step3
  go_wp2_with (first
    | (with_reducible refine HCl.out.mono ?_; rintro e w1 ⟨g, cap, rfl, how, hbl⟩
       have HB1 := Aside.mk hbl
       have HO := Aside.mk how
       have hnc := how.le
       clear how hbl)
    | fail)
  go_step3
  go_wp2_with fail
  have HA0 : Aside (Apart w1 n g (.slice none 0 0)) := ⟨⟨fun e => (by cases e), fun hp => HO.out.lt hp⟩⟩
  have HI0 : Aside (w1.ownsRow w.heap.size 3 1 (.slice none 0 0) 0 []) := ⟨World.ownsRow_nil _ _ _ _⟩
  go_loopw [1, 8] (fun hd sv wr => ∃ j : Nat, j ≤ m ∧ hd = .int .i64 (packL l (S.take j)).2 ∧ Aside (Ow wr w.heap.size g n cap (packL l (S.take j)).1) ∧ Aside (wr.ownsRow w.heap.size 3 1 sv (m - j) (ints (S.drop j).reverse)) ∧ Aside (Apart wr n g sv) ∧ Aside (Bl w wr)) (fun hd _ _ => (intOf hd).toNat)
  case atStart =>
    have e1 : S.take m = S := List.take_of_length_le (by have := hm.out; omega)
    have e2 : S.drop m = [] := List.drop_of_length_le (by have := hm.out; omega)
    refine ⟨m, by omega, ?_, ?_, ?_, HA0, HB1⟩
    · rw [e1, HQ.out]
    · rw [e1]; exact HO
    · rw [e2, Nat.sub_self]; exact HI0
  case round =>
    obtain ⟨j, hj, rfl, HO2, HI2, HA2, HB2⟩ := hrel
    cases j with
    | zero =>
      have hz : (packL l (S.take 0)).2 = 0 := by simp [packL]
      have ho := HO2.out
      have hi2 := HI2.out
      have ez : (packL l (S.take 0)).1 = l := by simp [packL]
      rw [ez] at ho
      rw [hz]
      rw [List.drop_zero, Nat.sub_zero] at hi2
      have HO3 := Aside.mk ho
      have HR := Aside.mk (rev_any m (by simpa using hm.out) hi2 (by omega))
      clear ho hi2
      go_wp2_with (first
        | (with_reducible refine HR.out.mono ?_; rintro e w2 ⟨rfl, hr2, hb2, hg2⟩
           rw [List.reverse_reverse] at hr2
           have HG2 := Aside.mk hg2
           have HR2 := Aside.mk hr2
           have HB3 := Aside.mk hb2
           clear hr2 hb2 hg2)
        | fail)
      rw [Exit.noGoto_ret]
      go_ret3
      exact ⟨g, cap, _, rfl, HO3.out.grown HG2.out HA2.out.ne, HR2.out, ⟨HB2.out.out.trans HB3.out⟩⟩
    | succ i =>
      obtain ⟨s, hf⟩ : ∃ s, S[i]? = some s := ⟨_, List.getElem?_eq_getElem (by have := hm.out; omega)⟩
      have hsn := hS.out.lt s (List.mem_of_getElem? hf)
      obtain ⟨x, hlx⟩ : ∃ x, l[s]? = some x := ⟨_, List.getElem?_eq_getElem (by have := hn.out; omega)⟩
      obtain ⟨hx0, hx1⟩ := hx.out s (List.mem_of_getElem? hf) x hlx
      obtain ⟨hp1, hp2, hp3, hp4⟩ := unpack_step l hS.out i s hf x hlx
      obtain ⟨hcc, hcf, hgb⟩ := HO2.out.at hp1
      have hdr := Aside.mk (drop_rev S i s hf)
      rw [hp2]
      obtain ⟨q2, hq2⟩ : ∃ q2, (packL l (S.take i)).2 = q2 := ⟨_, rfl⟩
      rw [hq2] at hp4 hcc
      have HQ2 := Aside.mk hq2
      have HP3 := Aside.mk hp3
      have hand := and16_at hx0 hx1 (show q2 ≤ 40 by omega)
      have hdiv : (x * 65536 + (q2 : Int)) / 65536 = x := by omega
      have HPut := Aside.mk (HO2.out.put s x)
      have HI3 := Aside.mk (own_set HI2.out HA2.out.ne s (.int .u32 x))
      have HBp := Aside.mk (HB2.out.puts (p := ⟨g, s, none⟩) hgb (.int .u32 x))
      have hle : ¬ ((s : Int) < (q2 : Int)) := by omega
      have hle2 : ¬ (s < q2) := by omega
      have hws := HB2.out.out.size
      clear hf hlx hp1 hp2 hp3 hq2
      go_wp2_with (first
        | (at_builtin; refine wpList_append_own_at _ rfl _ _ 31 rfl w.heap.size 3 i0 (.int .i64 0) 1 8 Tryz.underlying31 hi hz0 hz1 hz2 rfl (by decide) _ _ _ rfl (HI3.out.alloc _) ⟨wr.heap.size, 0, none⟩ 1 1 [.int .i64 (s : Int)] rfl rfl (by simpa using cell_one_new (wr.setCell ⟨g, s, none⟩ (.int .u32 x)) (.int .i64 (s : Int)) 3) (ints_oneCell .i64 [(s : Int)]) (by unfold maxLen; omega) (by omega) (by simp; omega) ?_; intro v' w2 hown' hgrow hnil hloc)
        | fail)
      have hn0 : 0 < n := by omega
      have hgr : ((wr.setCell ⟨g, s, none⟩ (.int .u32 x)).alloc (Obj.cells #[.int .i64 (s : Int)] 3)).grownBy w2 u8.ownBlock := hgrow
      have hlc : v'.ownBlock = u8.ownBlock ∨ v'.ownBlock = some ((wr.setCell ⟨g, s, none⟩ (.int .u32 x)).alloc (Obj.cells #[.int .i64 (s : Int)] 3)).heap.size := hloc
      rw [show ((wr.setCell ⟨g, s, none⟩ (.int .u32 x)).alloc (Obj.cells #[.int .i64 (s : Int)] 3)).heap.size = wr.heap.size + 1 by simp] at hlc
      have hsz := hgr.size
      refine ⟨⟨i, by omega, by rw [HQ2.out], ⟨?_⟩, ⟨?_⟩, ⟨?_⟩, ⟨?_⟩⟩, by simp [intOf]; omega⟩
      · rw [← HP3.out]
        exact ((HPut.out.keep ((Bl.refl _).alloc _))).grown hgr HA2.out.ne
      · rw [hdr.out, show m - i = m - (i + 1) + 1 by omega]
        simpa [ints] using hown'
      · have hg0 := HA2.out.lt hn0
        refine ⟨?_, fun _ => ?_⟩
        · rcases hlc with h1 | h1
          · rw [h1]; exact HA2.out.ne
          · rw [h1]
            intro e
            have := Option.some.inj e
            omega
        · simp at hsz
          omega
      · exact (HBp.out.alloc _).grow hgr (fun g' hg' => (HI2.out.lt g' hg').1)
end Go.Proofs.YtjmiaemabhlnjaaGreatDoor.Chains
