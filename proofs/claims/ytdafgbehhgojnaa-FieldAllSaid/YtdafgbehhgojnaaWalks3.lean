/-
  The contracts of package field: which numbers fit.
-/
import Derived.Test.YtdafgbehhgojnaaWalks2
namespace Go.Proofs.Ytdafgbehhgojnaa.Field
open Go.RowKit Go.Proofs.Ytdafgbehhgojnaa.FieldM

theorem fits_any (v n : Int) (w : World) : Calls Try.prog 12 #[.int .i64 v, .int .i64 n] w fun e w' => e = .returned (.bool (fitsN v (kn n))) ∧ w = w' := by
  have hk := known_any n w
  have hl := kn_lt n
  unfold fitsN
  generalize kn n = j at *
  have H := Aside.mk hk
  clear hk
  have hp := pow_wrap (j := j) (by omega)
  have hq := pow_small hl
  generalize 2 ^ j = z at hp hq ⊢
  by_cases c1 : -(z : Int) ≤ v
  · rw [show decide (-(z : Int) ≤ v ∧ v < (z : Int)) = decide (v < (z : Int)) by apply decide_eq_decide.2; omega]
    go_enter Try.func12, Try.ntmps12
    go_wp2_with (go_at_call 20; refine H.out.mono ?_; rintro e w' ⟨rfl, rfl⟩)
    go_ret
    exact ⟨rfl, rfl⟩
  · rw [show decide (-(z : Int) ≤ v ∧ v < (z : Int)) = false by apply decide_eq_false; omega]
    go_enter Try.func12, Try.ntmps12
    go_wp2_with (go_at_call 20; refine H.out.mono ?_; rintro e w' ⟨rfl, rfl⟩)
    go_ret
    exact ⟨rfl, rfl⟩


end Go.Proofs.Ytdafgbehhgojnaa.Field
