/- A part of the proof of TopShifts. -/
import Derived.Test.YtjmiaemabhlnjaaGreatDoorProg
import Derived.Laws.StructEq
import Derived.WalkKit
import Derived.KernelRfl
section
set_option linter.all false
set_option maxRecDepth 20000
namespace Go.Proofs.YtjmiaemabhlnjaaGreatDoor.Isa
open Go Go.RowKit
section
variable {P:Program} {d:Nat} {xs ys:Array Value} {f:Field} {fs:List Field} {a b:Value} {r s:Bool} {w:World}
theorem fieldEq (hn:f.name ≠ "_") (ha:(part f.type xs f.offset).run P w=.ok a w) (hb:(part f.type ys f.offset).run P w=.ok b w) (he:(Op.equalIn d f.type a b).run P w=.ok r w) (hr:(Op.eqFields d xs ys fs).run P w=.ok s w):(Op.eqFields d xs ys (f::fs)).run P w=.ok (r&&s) w:=by
 cases r<;>simp [Op.eqFields,hn,Sem.run_bind,Result.andThen_ok,ha,hb,he,hr]
theorem fieldsEnd:(Op.eqFields d xs ys []).run P w=.ok true w:=by simp [Op.eqFields]
theorem structEq {t:TypeId} {gs:Array Field} (hu:P.underlying t=some (.struct gs)) (hp:P.stoodInHeld t=false) (h:(Op.eqFields d xs ys gs.toList).run P w=.ok r w):(Op.equalIn (d+1) t (.agg xs) (.agg ys)).run P w=.ok r w:=by
 have hg:P.fieldsOf t=gs:=by simp [Program.fieldsOf,hu]
 have q:=run_equalIn_struct (P:=P) w d t xs ys (by rw [hg];exact hu) hp;rw [hg] at q;exact q.trans h
end
theorem eqIns (d:Nat) (w:World) (x0 y0 x1 y1 x2 y2 x3 y3 x4 y4 x5 y5:Int) (x6 y6:Bool) :
 (Op.equalIn (d+2) 72 (.agg #[.int .i64 x0,.int .i64 x1,.int .i64 x2,.int .i64 x3,.int .i64 x4,.int .i64 x5,.bool x6]) (.agg #[.int .i64 y0,.int .i64 y1,.int .i64 y2,.int .i64 y3,.int .i64 y4,.int .i64 y5,.bool y6])).run Tryz.prog w=.ok (x0==y0&&(x1==y1&&(x2==y2&&(x3==y3&&(x4==y4&&(x5==y5&&(x6==y6))))))) w:=by
 rw [←Bool.and_true (x6==y6)];refine structEq Tryz.underlying72 (by kernel_rfl) ?_;refine fieldEq (by decide) (by go_simp;rfl) (by go_simp;rfl) (by go_simp) ?_;refine fieldEq (by decide) (by go_simp;rfl) (by go_simp;rfl) (by go_simp) ?_;refine fieldEq (by decide) (by go_simp;rfl) (by go_simp;rfl) (by go_simp) ?_;refine fieldEq (by decide) (by go_simp;rfl) (by go_simp;rfl) (by go_simp) ?_;refine fieldEq (by decide) (by go_simp;rfl) (by go_simp;rfl) (by go_simp) ?_
 refine fieldEq (by decide) (by go_simp;rfl) (by go_simp;rfl) (by go_simp) ?_;exact fieldEq (by decide) (by go_simp;rfl) (by go_simp;rfl) (by go_simp) fieldsEnd
end Go.Proofs.YtjmiaemabhlnjaaGreatDoor.Isa
end
