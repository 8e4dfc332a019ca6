/-
  TopChains, the tied card: the sites of an object are in its words, and nowhere else: packed, and unpacked from the head on, the words and the sites are the object's. For every input; the listed package variables are tied to the program's text (the given tie).
-/
import Derived.Test.YtjmiaemabhlnjaaGreatDoorTopRow
import Derived.Test.YtjmiaemabhlnjaaGreatDoorTie
import Derived.Test.YtjmiaemabhlnjaaGreatDoorCards
import Derived.SevenTiedAt
set_option linter.all false
namespace Go.Proofs.YtjmiaemabhlnjaaGreatDoor
open Go
theorem topChainsCard_holds : Rows.TopChainsCardSaid :=
  Claim7.holds_tied_plain_at .later [] [.data, .data, .data, .data, .sentinel, .sentinel, .listed, .data, .mapped, .pinned] true (true, "226a5722ef5b7ddfab7bcd4e31c5912b987deefa9ffaf5fbf9674233bb017b7d") true
    topChains_holds (fun _ h => by cases h) (by kernel_rfl) (fun _ h => by cases h) topChains_row_tie rfl ⟨rfl, rfl⟩ (by kernel_rfl) rfl
    (fun f fn hf hfn => by
      obtain rfl : f = 6 := Option.some.inj ((show Tryz.prog.funcNamed "rivet/rivettop.TopChains" = some 6 by kernel_rfl).symm.trans hf) |>.symm
      obtain rfl : fn = Tryz.f6 := (Option.some.inj (Tryz.func6.symm.trans hfn)).symm
      exact ⟨by kernel_rfl, fun j t ht => by
        rw [Tryz.params6] at ht
        have h3 : t = 26 := by
          rcases j with _ | j
          · simpa using ht.symm
          · simp at ht
        subst h3
        exact (show Tryz.prog.wantsStandIn 26 = false by kernel_rfl)⟩)
    (by kernel_rfl)
#print axioms topChainsCard_holds
end Go.Proofs.YtjmiaemabhlnjaaGreatDoor
