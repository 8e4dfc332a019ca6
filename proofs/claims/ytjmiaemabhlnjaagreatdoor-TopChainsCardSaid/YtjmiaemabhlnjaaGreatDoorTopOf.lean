import Derived.Test.YtjmiaemabhlnjaaGreatDoorTopTable
import Derived.Deep.QuietTactic
set_option linter.all false
set_option maxRecDepth 100000
/-! name.Of. -/
namespace Go.Proofs.YtjmiaemabhlnjaaGreatDoor.Top
open Go Go.RowKit Go.YtjmiaemabhlnjaaGreatDoorMap

theorem results_tmp4 {fn : Func} {t u v x : Tmp} (h : fn.results = #[.tmp t, .tmp u, .tmp v, .tmp x]) (tmps : Array Value) (P : Program) (w : World) :
    (results fn tmps).run P w = .ok (.tuple #[tmps.getD t undef, tmps.getD u undef, tmps.getD v undef, tmps.getD x undef]) w := by
  simp [results, h]

theorem of_any (w : World) (m : Int) (hm : w.cell? ⟨0, 0, none⟩ = some (.int .i64 m)) (htab : Lib.TabIs Tryz.prog w "strings.asciiSpace" .u8 Lib.asciiSpaceTab)
    (k0 o0 : Int) (u0 : Bool) (s : List UInt8) (hx : ((k0, o0, u0), s) ∈ tabL) (hone : ∀ y ∈ tabL, y.2 = s → y = ((k0, o0, u0), s)) :
    Calls Tryz.prog 133 #[.string ⟨s.toArray⟩] w fun e w' => e = .returned (.tuple #[.int .i64 k0, .int .i64 o0, .bool u0, .bool true]) ∧ Below w.heap.size w w' := by
  go_enter Tryz.func133, Tryz.ntmps133
  go_wp2_with (first
    | (with_reducible refine (table_any _ m hm htab).mono ?_; rintro e w1 ⟨B, rfl, hB, hB1, hW1⟩)
    | (at_range; refine wpList_range_map _ rfl _ 262 rfl 265 9 Tryz.underlying262 B _ rfl hB1 ?_; intro w2 hit hg2 hs2)
    | go_in)
  have hr1 : w.heap.size ≤ w1.heap.size := hW1.size
  have B0 : Below w.heap.size w w2 := hW1.grown hg2 hW1.size (fun j hj => by cases hj)
  generalize hR : w1.heap.size = r at hit hr1 ⊢
  clear hR hs2 hg2 hW1 hB1
  have HIT := Aside.mk hit
  have HB := Aside.mk B0
  have HX := Aside.mk hx
  have HONE := Aside.mk hone
  clear hit B0 hx hone
  go_frame
  go_loopw [10] (fun _ wr => ∃ (left : List Row), Aside (IterAt wr B r (tabL.map pv) (left.map pv)) ∧ Aside (Below w.heap.size w wr) ∧ Aside (∀ x ∈ left, x ∈ tabL) ∧ Aside (((k0, o0, u0), s) ∈ left)) (fun _ wr => wr.rangeLeft B r)
  case atStart => exact ⟨tabL, HIT, HB, ⟨fun x h => h⟩, HX⟩
  case round =>
    obtain ⟨left, HI, HW, HS, HL⟩ := hrel
    go_wp2_with (first
      | (at_next; refine wpList_next_map (α := RowX) _ pvX rfl _ rfl B r _ left rfl HI.out ?_ ?_)
      | go_in)
    · intro hl
      have := HL.out
      rw [show left = [] from hl] at this
      cases this
    · intro x left' w3 hp hI3 hg3 hs3 hen
      obtain ⟨wo, hwo⟩ : ∃ x, x = wr := ⟨_, rfl⟩
      subst hwo
      obtain ⟨⟨k, o, u⟩, t⟩ := x
      have hxr : ((k, o, u), t) ∈ tabL := HS.out _ (hp.symm.mem_iff.1 List.mem_cons_self)
      have hen' : (Instr.entry (.pointer (some ⟨r, 0, none⟩))).run Tryz.prog w3 = .ok (.tuple #[.agg #[.int .i64 k, .int .i64 o, .bool u], .string ⟨t.toArray⟩]) w3 := hen
      have e0 : (pvX ((k, o, u), t)).1 = .agg #[.int .i64 k, .int .i64 o, .bool u] := rfl
      have e1 : (pvX ((k, o, u), t)).2 = .string ⟨t.toArray⟩ := rfl
      rw [e0, e1]
      clear hen e0 e1
      have H3 := Aside.mk hI3
      have W3 := Aside.mk (HW.out.grown hg3 HW.out.size (fun j hj => by cases hj; omega))
      have HXR := Aside.mk hxr
      have HPP := Aside.mk hp
      have hlt3 := HW.out.size
      have hsz3 : w.heap.size ≤ w3.heap.size := by omega
      clear hI3 hg3 hxr hp
      by_cases hts : t = s
      · subst hts
        have := HONE.out _ HXR.out rfl
        cases this
        go_wp2
        go_quiet (fail)
        generalize hK : World.drewN _ _ = Wc
        have HC : Aside (Below w.heap.size w Wc) := ⟨by
          rw [← hK]
          have h1 := W3.out.alloc hsz3 (.cells #[.int .i64 k0, .int .i64 o0, .bool u0] 265)
          exact ⟨h1.os, h1.tape, h1.output, h1.size, h1.block⟩⟩
        clear hK
        go_wp2
        (try simp only [Exit.inBlock, Exit.then])
        refine bodyPost_ret (results_tmp4 rfl _ _ _) rfl ?_
        exact ⟨rfl, HC.out⟩
      · have hts' : (t == s) = false := by simpa using hts
        go_wp2
        have hg4 := World.grownBy_alloc w3 (.cells #[.int .i64 k, .int .i64 o, .bool u] 265) none
        have hIw := H3.out.kept hg4 (by simp) (by simp)
        have hpp : List.Perm left (((k, o, u), t) :: left') := HPP.out
        refine ⟨⟨left', ⟨hIw⟩, ⟨W3.out.alloc hsz3 _⟩, ⟨fun y hy => HS.out y (hpp.symm.mem_iff.1 (List.mem_cons_of_mem _ hy))⟩, ⟨?_⟩⟩, ?_⟩
        · rcases List.mem_cons.1 (hpp.mem_iff.1 HL.out) with e | e
          · cases e
            exact absurd rfl hts
          · exact e
        · rw [hIw.left_eq, HI.out.left_eq, List.length_map, List.length_map]
          have h1 : left.length = List.length (α := RowX) left' + 1 := hpp.length_eq
          omega
end Go.Proofs.YtjmiaemabhlnjaaGreatDoor.Top
