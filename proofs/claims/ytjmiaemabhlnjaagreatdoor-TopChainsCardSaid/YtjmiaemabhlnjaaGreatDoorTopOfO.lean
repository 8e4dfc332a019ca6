import Derived.Test.YtjmiaemabhlnjaaGreatDoorTopOf
import Derived.Test.YtjmiaemabhlnjaaGreatDoorSymSeat
import Derived.Test.YtjmiaemabhlnjaaGreatDoorWord
set_option linter.all false
set_option maxRecDepth 100000
/-! What the evaluator takes by contract: rivet/name.Of, rivet/isa.word. -/
namespace Go.Proofs.YtjmiaemabhlnjaaGreatDoor.Sym
open Go Go.RowKit

def tw (k o : Int) : SV := .tup [.int .i64 k, .int .i64 o, .bool false, .bool true]
def ofS (s : List UInt8) : Option SV :=
  if eqB s [76, 68, 76] then some (tw 8 0) else if eqB s [76, 68, 87] then some (tw 5 0) else if eqB s [83, 84, 87] then some (tw 5 2) else if eqB s [119, 111, 114, 100] then some (tw 9 0) else none
def ofX : List SV → Option SV
  | [.str s] => ofS s
  | _ => none
def wordX : List SV → Option SV
  | [.agg [.int .i64 kd, .int .i64 op, .int .i64 a, .int .i64 b, .int .i64 c, .int .i64 im, .bool u]] =>
    if decide (kd = 5) && (decide (0 ≤ op) && decide (op ≤ 3)) then some (.int .u32 (.ofNat (Isa.layN (Isa.wordL kd op a b c im u) 0))) else none
  | _ => none
def oT (f : Nat) (xs : List SV) : Option SV := if Nat.beq f 133 then ofX xs else if Nat.beq f 82 then wordX xs else none

def onlyAt (k o : Int) (s : List UInt8) : Bool := Top.tabL.any (fun y => decide (y = ((k, o, false), s))) && Top.tabL.all fun y => !decide (y.2 = s) || decide (y = ((k, o, false), s))
theorem one1 : onlyAt 8 0 [76, 68, 76] = true := by kernel_rfl
theorem one2 : onlyAt 5 0 [76, 68, 87] = true := by kernel_rfl
theorem one3 : onlyAt 5 2 [83, 84, 87] = true := by kernel_rfl
theorem one4 : onlyAt 9 0 [119, 111, 114, 100] = true := by kernel_rfl

theorem of_tw {W : World} {m : Int} (hm : W.cell? ⟨0, 0, none⟩ = some (.int .i64 m)) (htab : Lib.TabIs Tryz.prog W "strings.asciiSpace" .u8 Lib.asciiSpaceTab) {k o : Int} {s : List UInt8} (h1 : onlyAt k o s = true) (σ : Env) :
    ∃ V, conc σ (tw k o) = some V ∧ ∀ w, Below W.heap.size W w → Calls Tryz.prog 133 #[.string ⟨⟨s⟩⟩] w fun e w' => e = .returned V ∧ Below w.heap.size w w' := by
  refine ⟨.tuple #[.int .i64 k, .int .i64 o, .bool false, .bool true], by simp [tw, conc, concL], fun w hw => ?_⟩
  simp only [onlyAt, Bool.and_eq_true] at h1
  obtain ⟨ha, hb⟩ := h1
  obtain ⟨y, hy, hye⟩ := List.any_eq_true.1 ha
  have hye := of_decide_eq_true hye
  subst hye
  refine Top.of_any w m ((hw.cell (World.block_lt_of_cell? _ _ hm)).trans hm) (Top.tab_below htab hw) k o false s hy fun y hy e => ?_
  have := List.all_eq_true.1 hb y hy
  simpa [e] using this

theorem oT_ok {W : World} {m : Int} (hm : W.cell? ⟨0, 0, none⟩ = some (.int .i64 m)) (htab : Lib.TabIs Tryz.prog W "strings.asciiSpace" .u8 Lib.asciiSpaceTab) (f : Nat) (xs : List SV) (v : SV) (h : oT f xs = some v) (σ : Env) (vs : List Value) (hx : concL σ xs = some vs) :
    ∃ fn V, Tryz.prog.funcs[f]? = some fn ∧ fn.body.isSome = true ∧ conc σ v = some V ∧ ∀ w, Below W.heap.size W w → Calls Tryz.prog f vs.toArray w fun e w' => e = .returned V ∧ Below w.heap.size w w' := by
  unfold oT at h
  split at h
  · rename_i hf
    have hf := Nat.eq_of_beq_eq_true hf
    subst hf
    refine ⟨Tryz.f133, ?_⟩
    unfold ofX at h
    split at h
    · rename_i s
      simp only [concL, conc, Option.bind_some, Option.map_some, Option.some.injEq] at hx
      subst hx
      unfold ofS at h
      simp only [eqB_iff, decide_eq_true_eq] at h
      split at h
      · rename_i e
        subst e; cases h
        obtain ⟨V, g1, g2⟩ := of_tw hm htab one1 σ
        exact ⟨V, Tryz.func133, rfl, g1, g2⟩
      · split at h
        · rename_i e
          subst e; cases h
          obtain ⟨V, g1, g2⟩ := of_tw hm htab one2 σ
          exact ⟨V, Tryz.func133, rfl, g1, g2⟩
        · split at h
          · rename_i e
            subst e; cases h
            obtain ⟨V, g1, g2⟩ := of_tw hm htab one3 σ
            exact ⟨V, Tryz.func133, rfl, g1, g2⟩
          · split at h
            · rename_i e
              subst e; cases h
              obtain ⟨V, g1, g2⟩ := of_tw hm htab one4 σ
              exact ⟨V, Tryz.func133, rfl, g1, g2⟩
            · cases h
    · cases h
  · split at h
    · rename_i hf
      have hf := Nat.eq_of_beq_eq_true hf
      subst hf
      refine ⟨Tryz.f82, ?_⟩
      unfold wordX at h
      split at h
      · rename_i kd op a b c im u
        split at h
        · rename_i hc
          simp only [Bool.and_eq_true, decide_eq_true_eq] at hc
          obtain ⟨h1, h2, h3⟩ := hc
          cases h
          simp [concL, conc] at hx
          subst hx
          refine ⟨.int .u32 (.ofNat (Isa.layN (Isa.wordL kd op a b c im u) 0)), Tryz.func82, rfl, by simp [conc], fun w hw => ?_⟩
          exact (Isa.word_any kd op a b c im u w (by omega) (by omega) h2 (by omega)).mono fun e w' he => ⟨he.1, he.2.out⟩
        · cases h
      · cases h
    · cases h
end Go.Proofs.YtjmiaemabhlnjaaGreatDoor.Sym
