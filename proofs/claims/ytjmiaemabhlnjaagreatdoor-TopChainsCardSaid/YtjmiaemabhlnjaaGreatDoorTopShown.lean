import Derived.Test.YtjmiaemabhlnjaaGreatDoorTopOfO
set_option linter.all false
set_option maxRecDepth 100000
/-! shown(): the closed example, in every world that has the laid cells. -/
namespace Go.Proofs.YtjmiaemabhlnjaaGreatDoor.Sym
open Go Go.RowKit

def saysTrue : Option (SV × Hp × Nat) → Bool
  | some (.bool b, _, _) => b
  | _ => false
theorem saysTrue_eq {r : Option (SV × Hp × Nat)} (h : saysTrue r = true) : ∃ h' n', r = some (.bool true, h', n') := by
  unfold saysTrue at h
  split at h
  · rename_i b h' n'
    subst h
    exact ⟨h', n', rfl⟩
  · cases h
noncomputable def runShown : Option (SV × Hp × Nat) := evCall (fnsT oT) tabT (evC (fnsT oT) tabT 3000) 7 [] .nil 0
theorem ran : saysTrue runShown = true := by kernel_rfl

/-- shown() is true, and leaves all that was there as it was. -/
theorem shown_any {W : World} {m : Int} {E : Value} (hE1 : E.oneCell' = true) (hE : W.cell? ⟨4, 0, none⟩ = some E) (hm : W.cell? ⟨0, 0, none⟩ = some (.int .i64 m)) (htab : Lib.TabIs Tryz.prog W "strings.asciiSpace" .u8 Lib.asciiSpaceTab) :
    Calls Tryz.prog 7 #[] W fun e w' => e = .returned (.bool true) ∧ Below W.heap.size W w' := by
  obtain ⟨h', n', he⟩ := saysTrue_eq ran
  exact run_closed (tabT_ok W E hE1 hE) (fnsT_ok (W := W) (op := [E]) fun f xs v h σ vs _ hx => oT_ok hm htab f xs v h σ vs hx) (by kernel_rfl) 3000 7 (by kernel_rfl) (by kernel_rfl) he (fun σ => rfl)
#print axioms shown_any
end Go.Proofs.YtjmiaemabhlnjaaGreatDoor.Sym
