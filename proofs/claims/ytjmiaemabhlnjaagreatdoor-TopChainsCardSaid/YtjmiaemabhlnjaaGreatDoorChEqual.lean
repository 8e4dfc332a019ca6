import Derived.Test.YtjmiaemabhlnjaaGreatDoorChBase
import Derived.Deep.QuietTactic
import Derived.BigQuiet
import Derived.Laws.StructEq
set_option linter.all false
set_option maxRecDepth 20000
/-! slices.Equal of a row with a row that reads the same: true. -/
namespace Go.Proofs.YtjmiaemabhlnjaaGreatDoor.Chains
open Go Go.RowKit
theorem Bl.dN {W w : World} (h : Bl W w) {n : Nat} : Bl W (w.drewN n) := ⟨⟨h.out.os, h.out.tape, h.out.output, h.out.size, h.out.block⟩⟩
/-- Names with their places, as cells. -/
def flat (l : List (ByteArray × Int)) : List Value := l.flatMap fun x => [.string x.1, .int .i64 x.2]
theorem flat_len : ∀ l : List (ByteArray × Int), (flat l).length = l.length * 2
  | [] => rfl
  | x :: l => by
    have := flat_len l
    simp only [flat, List.flatMap_cons, List.length_append, List.length_cons, List.length_nil] at *
    omega
theorem flat_append (a b : List (ByteArray × Int)) : flat (a ++ b) = flat a ++ flat b := by simp [flat]
theorem flat_at : ∀ (l : List (ByteArray × Int)) (i : Nat) (x : ByteArray × Int), l[i]? = some x → (flat l)[i * 2]? = some (.string x.1) ∧ (flat l)[i * 2 + 1]? = some (.int .i64 x.2)
  | [], i, x, h => by simp at h
  | y :: l, 0, x, h => by
    simp at h
    subst h
    exact ⟨rfl, rfl⟩
  | y :: l, i + 1, x, h => by
    have ih := flat_at l i x (by simpa using h)
    have e : flat (y :: l) = .string y.1 :: .int .i64 y.2 :: flat l := rfl
    rw [e, show (i + 1) * 2 = i * 2 + 1 + 1 by omega]
    exact ih
theorem flat_one (l : List (ByteArray × Int)) : ∀ u ∈ flat l, u.oneCell' = true := by
  intro u hu
  obtain ⟨x, _, hx⟩ := List.mem_flatMap.1 hu
  simp at hx
  rcases hx with rfl | rfl <;> rfl
theorem add_one (ad : Addr) (m : Nat) : ad.add (m + 1) = ⟨(ad.add m).block, (ad.add m).off + 1, none⟩ := by
  unfold Addr.add
  by_cases h : m = 0
  · subst h; simp
  · rw [if_neg (by omega), if_neg h]
    simp [Nat.add_assoc]
/-- A slice of names with places that reads as l. -/
structure RdS (w : World) (A : Option Addr) (c : Nat) (l : List (ByteArray × Int)) : Prop where
  le : l.length ≤ c
  nil : A = none → l = [] ∧ c = 0
  cells : ∀ ad, A = some ad → ∀ j u, (flat l)[j]? = some u → w.cell? (ad.add j) = some u
theorem RdS.keep {w w' : World} {A : Option Addr} {c : Nat} {l : List (ByteArray × Int)} (h : RdS w A c l) (k : Bl w w') : RdS w' A c l :=
  ⟨h.le, h.nil, fun ad ha j u hj => k.cell (h.cells ad ha j u hj)⟩
theorem RdS.at {w : World} {ad : Addr} {c : Nat} {l : List (ByteArray × Int)} (h : RdS w (some ad) c l) {i : Nat} {x : ByteArray × Int} (hi : l[i]? = some x) :
    w.cell? (ad.add (i * 2)) = some (.string x.1) ∧ w.cell? ⟨(ad.add (i * 2)).block, (ad.add (i * 2)).off + 1, none⟩ = some (.int .i64 x.2) := by
  obtain ⟨h1, h2⟩ := flat_at l i x hi
  exact ⟨h.cells ad rfl _ _ h1, by rw [← add_one]; exact h.cells ad rfl _ _ h2⟩
theorem under82 : ∃ f0 f1, Tryz.prog.underlying 82 = some (.struct #[f0, f1]) ∧ f0.offset = 0 ∧ f1.offset = 1 := ⟨_, _, rfl, rfl, rfl⟩

set_option maxHeartbeats 4000000 in
theorem eq32_any {w : World} {A B : Option Addr} {c d : Nat} {l : List Int} (h : Aside (Rd w A c l)) (k : Aside (Rd w B d l)) (n : Nat) (hn : Aside (l.length = n)) (hb : n ≤ 100000) :
    Calls Tryz.prog 36 #[.slice A n c, .slice B n d] w fun e w' => e = .returned (.bool true) ∧ Bl w w' := by
  go_enter Tryz.func36, Tryz.ntmps36
  go_wp2_with fail
  go_loopw [13] (fun i wr => Aside (Bl w wr) ∧ ∃ k : Nat, i = .int .i64 k ∧ k ≤ n) (fun i _ => n - (intOf i).toNat)
  case atStart => exact ⟨⟨Bl.refl _⟩, 0, rfl, by omega⟩
  case round =>
    obtain ⟨HB, j, rfl, hj⟩ := hrel
    by_cases hlt : j < n
    · obtain ⟨ad, rfl⟩ : ∃ ad, A = some ad := by
        cases A with
        | some ad => exact ⟨ad, rfl⟩
        | none =>
          have := (h.out.nil rfl).1
          have h2 := hn.out
          rw [this] at h2
          simp at h2
          omega
      obtain ⟨bd, rfl⟩ : ∃ ad, B = some ad := by
        cases B with
        | some ad => exact ⟨ad, rfl⟩
        | none =>
          have := (k.out.nil rfl).1
          have h2 := hn.out
          rw [this] at h2
          simp at h2
          omega
      have hc : n ≤ c := by have := h.out.le; have := hn.out; omega
      have hd : n ≤ d := by have := k.out.le; have := hn.out; omega
      obtain ⟨x, hf⟩ : ∃ f, l[j]? = some f := ⟨_, List.getElem?_eq_getElem (by have := hn.out; omega)⟩
      have c1 := HB.out.cell (h.out.cells ad rfl j _ hf)
      have c2 := HB.out.cell (k.out.cells bd rfl j _ hf)
      clear hf
      go_wp2_with fail
      go_quiet (fail)
      generalize hK : World.drewN _ _ = Wc
      have HC : Aside (Bl w Wc) := ⟨by rw [← hK]; exact HB.out.dN⟩
      clear hK
      go_wp2
      go_roundw
      case rel => exact ⟨HC, j + 1, by go_num, by omega⟩
      case measure => simp [intOf]; omega
    · go_wp2
      go_ret
      exact ⟨rfl, HB.out⟩

set_option maxHeartbeats 4000000 in
theorem eqI_any {w : World} {A B : Option Addr} {c d : Nat} {l : List Nat} (h : Aside (RdI w A c l)) (k : Aside (RdI w B d l)) (n : Nat) (hn : Aside (l.length = n)) (hb : n ≤ 100000) :
    Calls Tryz.prog 37 #[.slice A n c, .slice B n d] w fun e w' => e = .returned (.bool true) ∧ Bl w w' := by
  go_enter Tryz.func37, Tryz.ntmps37
  go_wp2_with fail
  go_loopw [13] (fun i wr => Aside (Bl w wr) ∧ ∃ k : Nat, i = .int .i64 k ∧ k ≤ n) (fun i _ => n - (intOf i).toNat)
  case atStart => exact ⟨⟨Bl.refl _⟩, 0, rfl, by omega⟩
  case round =>
    obtain ⟨HB, j, rfl, hj⟩ := hrel
    by_cases hlt : j < n
    · obtain ⟨ad, rfl⟩ : ∃ ad, A = some ad := by
        cases A with
        | some ad => exact ⟨ad, rfl⟩
        | none =>
          have := (h.out.nil rfl).1
          have h2 := hn.out
          rw [this] at h2
          simp at h2
          omega
      obtain ⟨bd, rfl⟩ : ∃ ad, B = some ad := by
        cases B with
        | some ad => exact ⟨ad, rfl⟩
        | none =>
          have := (k.out.nil rfl).1
          have h2 := hn.out
          rw [this] at h2
          simp at h2
          omega
      have hc : n ≤ c := by have := h.out.le; have := hn.out; omega
      have hd : n ≤ d := by have := k.out.le; have := hn.out; omega
      obtain ⟨x, hf⟩ : ∃ f, l[j]? = some f := ⟨_, List.getElem?_eq_getElem (by have := hn.out; omega)⟩
      have c1 := HB.out.cell (h.out.cells ad rfl j _ hf)
      have c2 := HB.out.cell (k.out.cells bd rfl j _ hf)
      clear hf
      go_wp2_with fail
      go_quiet (fail)
      generalize hK : World.drewN _ _ = Wc
      have HC : Aside (Bl w Wc) := ⟨by rw [← hK]; exact HB.out.dN⟩
      clear hK
      go_wp2
      go_roundw
      case rel => exact ⟨HC, j + 1, by go_num, by omega⟩
      case measure => simp [intOf]; omega
    · go_wp2
      go_ret
      exact ⟨rfl, HB.out⟩

theorem eqSym (d : Nat) (w : World) (s : ByteArray) (x : Int) :
    (Op.equalIn (d + 2) 82 (.agg #[.string s, .int .i64 x]) (.agg #[.string s, .int .i64 x])).run Tryz.prog w = .ok true w := by
  have hf : Tryz.prog.underlying 82 = some (.struct (Tryz.prog.fieldsOf 82)) := rfl
  rw [show d + 2 = (d + 1) + 1 from rfl, run_equalIn_struct (P := Tryz.prog) w (d + 1) 82 _ _ hf (by kernel_rfl)]
  obtain ⟨f0, f1, h0, h1, h2, h3, h4, n0, n1⟩ : ∃ f0 f1, (Tryz.prog.fieldsOf 82).toList = [f0, f1] ∧ f0.offset = 0 ∧ f1.offset = 1 ∧ f0.type = 9 ∧ f1.type = 3 ∧ f0.name ≠ "_" ∧ f1.name ≠ "_" := ⟨_, _, rfl, rfl, rfl, rfl, rfl, by decide, by decide⟩
  rw [h0]
  have e9 : ∀ w, (Op.equalIn (d + 1) 9 (.string s) (.string s)).run Tryz.prog w = .ok true w := fun w => by go_simp
  have e3 : ∀ w, (Op.equalIn (d + 1) 3 (.int .i64 x) (.int .i64 x)).run Tryz.prog w = .ok true w := fun w => by go_simp
  have p0 : ∀ w, (part 9 #[.string s, .int .i64 x] 0).run Tryz.prog w = .ok (.string s) w := fun w => by go_simp
  have p1 : ∀ w, (part 3 #[.string s, .int .i64 x] 1).run Tryz.prog w = .ok (.int .i64 x) w := fun w => by go_simp
  simp [Op.eqFields, n0, n1, h1, h2, h3, h4, e9, e3, p0, p1]
attribute [local go_sem high] eqSym in
set_option maxHeartbeats 4000000 in
theorem eqS_any {w : World} {A B : Option Addr} {c d : Nat} {l : List (ByteArray × Int)} (h : Aside (RdS w A c l)) (k : Aside (RdS w B d l)) (n : Nat) (hn : Aside (l.length = n)) (hb : n ≤ 100000) :
    Calls Tryz.prog 38 #[.slice A n c, .slice B n d] w fun e w' => e = .returned (.bool true) ∧ Bl w w' := by
  go_enter Tryz.func38, Tryz.ntmps38
  go_wp2_with fail
  go_loopw [13] (fun i wr => Aside (Bl w wr) ∧ ∃ k : Nat, i = .int .i64 k ∧ k ≤ n) (fun i _ => n - (intOf i).toNat)
  case atStart => exact ⟨⟨Bl.refl _⟩, 0, rfl, by omega⟩
  case round =>
    obtain ⟨HB, j, rfl, hj⟩ := hrel
    by_cases hlt : j < n
    · obtain ⟨ad, rfl⟩ : ∃ ad, A = some ad := by
        cases A with
        | some ad => exact ⟨ad, rfl⟩
        | none =>
          have := (h.out.nil rfl).1
          have h2 := hn.out
          rw [this] at h2
          simp at h2
          omega
      obtain ⟨bd, rfl⟩ : ∃ ad, B = some ad := by
        cases B with
        | some ad => exact ⟨ad, rfl⟩
        | none =>
          have := (k.out.nil rfl).1
          have h2 := hn.out
          rw [this] at h2
          simp at h2
          omega
      have hc : n ≤ c := by have := h.out.le; have := hn.out; omega
      have hd : n ≤ d := by have := k.out.le; have := hn.out; omega
      obtain ⟨⟨p, q⟩, hf⟩ : ∃ f, l[j]? = some f := ⟨_, List.getElem?_eq_getElem (by have := hn.out; omega)⟩
      obtain ⟨e0, e1⟩ := (h.out.keep HB.out).at hf
      obtain ⟨f0, f1⟩ := (k.out.keep HB.out).at hf
      dsimp only at e0 e1 f0 f1
      clear hf
      go_wp2_with fail
      go_quiet (fail)
      generalize hK : World.drewN _ _ = Wc
      have HC : Aside (Bl w Wc) := ⟨by rw [← hK]; exact HB.out.dN⟩
      clear hK
      go_wp2
      go_roundw
      case rel => exact ⟨HC, j + 1, by go_num, by omega⟩
      case measure => simp [intOf]; omega
    · go_wp2
      go_ret
      exact ⟨rfl, HB.out⟩
end Go.Proofs.YtjmiaemabhlnjaaGreatDoor.Chains
