import Derived.Test.YtjmiaemabhlnjaaGreatDoorTopHead
import Derived.Test.YtjmiaemabhlnjaaGreatDoorRows
set_option linter.all false
set_option maxRecDepth 100000
/-! The laid cells out of the row's condition. -/
namespace Go.Proofs.YtjmiaemabhlnjaaGreatDoor.Sym
open Go Go.RowKit

theorem laid_at {P : Program} {w : World} {name : String} {d : DataW Unit} : ∀ {l : List (String × DataW Unit)} {ps : List MemPlace}, (name, d) ∈ l → DataW.LaidVars P w l ps →
    ∃ g t cs fuel p, P.globalNamed name = some g ∧ (P.globals[g]?).map (·.type) = some t ∧ w.var? P name = some cs ∧ DataW.trod (fun _ => ()) P w 0 (fun _ => true) false fuel t cs.toList = some (d, p)
  | [], _, hm, _ => by cases hm
  | (n, e) :: r, ps, hm, h => by
    obtain ⟨g, t, cs, fuel, p, q, h1, h2, h3, h4, h5, _⟩ := h
    rcases List.mem_cons.1 hm with he | he
    · cases he
      exact ⟨g, t, cs, fuel, p, h1, h2, h3, h4⟩
    · exact laid_at he h5

theorem ascii_tab {w : World} {l : List (String × DataW Unit)} (hm : ("strings.asciiSpace", Lib.tabData .u8 Lib.asciiSpaceTab) ∈ l) (h : laidMet Tryz.prog l w) : Lib.TabIs Tryz.prog w "strings.asciiSpace" .u8 Lib.asciiSpaceTab := by
  obtain ⟨ps, hl, _⟩ := h
  obtain ⟨g, t, cs, fuel, p, h1, h2, h3, h4⟩ := laid_at hm hl
  have hg : Tryz.prog.globalNamed "strings.asciiSpace" = some 3 := by kernel_rfl
  obtain rfl := Option.some.inj (hg.symm.trans h1)
  obtain ⟨t', n, e, ht1, ht2, ht3, ht4, ht5⟩ : ∃ t' n e, (Tryz.prog.globals[3]?).map (·.type) = some t' ∧ Tryz.prog.underlying t' = some (.array n e) ∧ Tryz.prog.underlying e = some (.int .u8) ∧ Tryz.prog.cellsOf e = 1 ∧ Tryz.prog.cellsOf t' = n :=
    ⟨_, _, _, rfl, rfl, rfl, by kernel_rfl, by kernel_rfl⟩
  obtain rfl := Option.some.inj (ht1.symm.trans h2)
  unfold Lib.TabIs
  rw [h3, ← Lib.cells_of_tab ht2 ht3 ht4 ht5 h4]

theorem syntax_cell {w : World} {l : List (String × DataW Unit)} {d : DataW Unit} (hm : ("strconv.ErrSyntax", d) ∈ l) (h : laidMet Tryz.prog l w) : ∃ cs : Array Value, w.var? Tryz.prog "strconv.ErrSyntax" = some cs ∧ ∃ fuel t p, (Tryz.prog.globals[4]?).map (·.type) = some t ∧ DataW.trod (fun _ => ()) Tryz.prog w 0 (fun _ => true) false fuel t cs.toList = some (d, p) := by
  obtain ⟨ps, hl, _⟩ := h
  obtain ⟨g, t, cs, fuel, p, h1, h2, h3, h4⟩ := laid_at hm hl
  have hg : Tryz.prog.globalNamed "strconv.ErrSyntax" = some 4 := by kernel_rfl
  obtain rfl := Option.some.inj (hg.symm.trans h1)
  exact ⟨cs, h3, fuel, t, p, h2, h4⟩

theorem ascii_row : ("strings.asciiSpace", Lib.tabData .u8 Lib.asciiSpaceTab) ∈ Rows.topChainsRow.laid := by
  have e : (Rows.laid_strings_asciiSpace : DataW Unit) = Lib.tabData .u8 Lib.asciiSpaceTab := by kernel_rfl
  rw [← e]
  simp [Rows.topChainsRow]

theorem err_cell {w : World} (h : laidMet Tryz.prog Rows.topChainsRow.laid w) : ∃ E, E.oneCell' = true ∧ w.cell? ⟨4, 0, none⟩ = some E := by
  obtain ⟨cs, h1, fuel, t, p, h2, h3⟩ := syntax_cell (d := Rows.laid_strconv_ErrSyntax) (by simp [Rows.topChainsRow]) h
  have hc := World.var?_cell (show Tryz.prog.globalNamed "strconv.ErrSyntax" = some 4 by kernel_rfl) h1 0
  obtain ⟨t', m, ht1, ht2⟩ : ∃ t' m, (Tryz.prog.globals[4]?).map (·.type) = some t' ∧ Tryz.prog.underlying t' = some (.interface m) := ⟨_, _, rfl, rfl⟩
  obtain rfl := Option.some.inj (ht1.symm.trans h2)
  cases fuel with
  | zero => simp [DataW.trod] at h3
  | succ fuel =>
    unfold DataW.trod at h3
    rw [ht2] at h3
    have hx : ∀ x, cs.toList = [x] → w.cell? ⟨4, 0, none⟩ = some x := fun x e => by
      rw [hc, ← Array.getElem?_toList, e]; rfl
    rcases hcs : cs.toList with _ | ⟨x, _ | ⟨y, l⟩⟩
    · rw [hcs] at h3; simp at h3
    · refine ⟨x, ?_, hx x hcs⟩
      rw [hcs] at h3
      cases x <;> first | rfl | (simp at h3; done)
    · rw [hcs] at h3; simp at h3

/-- The row's world. -/
theorem shown_row {W : World} (hW : W.ShapedOpen Tryz.prog) (h : laidMet Tryz.prog Rows.topChainsRow.laid W) : Calls Tryz.prog 7 #[] W fun e w' => e = .returned (.bool true) ∧ Below W.heap.size W w' := by
  obtain ⟨E, h1, h2⟩ := err_cell h
  exact shown_shaped hW h1 h2 (ascii_tab ascii_row h)
#print axioms shown_row
end Go.Proofs.YtjmiaemabhlnjaaGreatDoor.Sym
