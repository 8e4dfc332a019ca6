/- A part of the proof of TopShifts. -/
import Derived.Test.YtjmiaemabhlnjaaGreatDoorQ0
section
set_option linter.all false
set_option maxRecDepth 20000
namespace Go.Proofs.YtjmiaemabhlnjaaGreatDoor.Chains.Shifts
open Go Go.RowKit Go.Proofs.YtjmiaemabhlnjaaGreatDoor.Chains
def takenP (R:List Nat) (H:Nat) (N Z C V:Bool) (op:Nat):Bool:=takenS ⟨R,H,N,Z,C,V⟩ op
theorem idx_0 (b0 b1 b2 b3 b4 b5 b6 b7:Bool) (w:World):(Instr.index 156 (.agg #[.bool b0,.bool b1,.bool b2,.bool b3,.bool b4,.bool b5,.bool b6,.bool b7]) (.int .i64 0)).run Tryz.prog w=.ok (.bool b0) w:=by kernel_rfl
theorem idx_1 (b0 b1 b2 b3 b4 b5 b6 b7:Bool) (w:World):(Instr.index 156 (.agg #[.bool b0,.bool b1,.bool b2,.bool b3,.bool b4,.bool b5,.bool b6,.bool b7]) (.int .i64 1)).run Tryz.prog w=.ok (.bool b1) w:=by kernel_rfl
theorem idx_2 (b0 b1 b2 b3 b4 b5 b6 b7:Bool) (w:World):(Instr.index 156 (.agg #[.bool b0,.bool b1,.bool b2,.bool b3,.bool b4,.bool b5,.bool b6,.bool b7]) (.int .i64 2)).run Tryz.prog w=.ok (.bool b2) w:=by kernel_rfl
theorem idx_3 (b0 b1 b2 b3 b4 b5 b6 b7:Bool) (w:World):(Instr.index 156 (.agg #[.bool b0,.bool b1,.bool b2,.bool b3,.bool b4,.bool b5,.bool b6,.bool b7]) (.int .i64 3)).run Tryz.prog w=.ok (.bool b3) w:=by kernel_rfl
theorem idx_4 (b0 b1 b2 b3 b4 b5 b6 b7:Bool) (w:World):(Instr.index 156 (.agg #[.bool b0,.bool b1,.bool b2,.bool b3,.bool b4,.bool b5,.bool b6,.bool b7]) (.int .i64 4)).run Tryz.prog w=.ok (.bool b4) w:=by kernel_rfl
theorem idx_5 (b0 b1 b2 b3 b4 b5 b6 b7:Bool) (w:World):(Instr.index 156 (.agg #[.bool b0,.bool b1,.bool b2,.bool b3,.bool b4,.bool b5,.bool b6,.bool b7]) (.int .i64 5)).run Tryz.prog w=.ok (.bool b5) w:=by kernel_rfl
theorem idx_6 (b0 b1 b2 b3 b4 b5 b6 b7:Bool) (w:World):(Instr.index 156 (.agg #[.bool b0,.bool b1,.bool b2,.bool b3,.bool b4,.bool b5,.bool b6,.bool b7]) (.int .i64 6)).run Tryz.prog w=.ok (.bool b6) w:=by kernel_rfl
theorem idx_7 (b0 b1 b2 b3 b4 b5 b6 b7:Bool) (w:World):(Instr.index 156 (.agg #[.bool b0,.bool b1,.bool b2,.bool b3,.bool b4,.bool b5,.bool b6,.bool b7]) (.int .i64 7)).run Tryz.prog w=.ok (.bool b7) w:=by kernel_rfl
set_option maxHeartbeats 4000000 in
theorem taken_0 (RV:Array Value) (R:List Nat) (H:Nat) (N Z C V:Bool) (h17:RV[17]? = some (.bool N)) (h18:RV[18]? = some (.bool Z)) (h19:RV[19]? = some (.bool C)) (h20:RV[20]? = some (.bool V)) (w:World) :
 Calls Tryz.prog 48 #[.agg RV,.int .i64 0] w fun e w'=>e=.returned (.bool (takenP R H N Z C V 0))∧Bl w w':=by
 have hb:bits .and .i64 0 7=0:=by kernel_rfl
 have hi:=idx_0
 have hv:V=N∨V = !N:=by cases N<;>cases V<;>simp
 rcases hv with rfl | rfl<;>cases C<;>(go_enter Tryz.func48,Tryz.ntmps48;go_wp2;all_goals (go_ret;refine ⟨?_,(Bl.refl w).alloc _⟩;first | (cases N<;>cases Z<;>rfl) | (cases V<;>cases Z<;>rfl)))
set_option maxHeartbeats 4000000 in
theorem taken_1 (RV:Array Value) (R:List Nat) (H:Nat) (N Z C V:Bool) (h17:RV[17]? = some (.bool N)) (h18:RV[18]? = some (.bool Z)) (h19:RV[19]? = some (.bool C)) (h20:RV[20]? = some (.bool V)) (w:World) :
 Calls Tryz.prog 48 #[.agg RV,.int .i64 1] w fun e w'=>e=.returned (.bool (takenP R H N Z C V 1))∧Bl w w':=by
 have hb:bits .and .i64 1 7=1:=by kernel_rfl
 have hi:=idx_1
 have hv:V=N∨V = !N:=by cases N<;>cases V<;>simp
 rcases hv with rfl | rfl<;>cases C<;>(go_enter Tryz.func48,Tryz.ntmps48;go_wp2;all_goals (go_ret;refine ⟨?_,(Bl.refl w).alloc _⟩;first | (cases N<;>cases Z<;>rfl) | (cases V<;>cases Z<;>rfl)))
set_option maxHeartbeats 4000000 in
theorem taken_2 (RV:Array Value) (R:List Nat) (H:Nat) (N Z C V:Bool) (h17:RV[17]? = some (.bool N)) (h18:RV[18]? = some (.bool Z)) (h19:RV[19]? = some (.bool C)) (h20:RV[20]? = some (.bool V)) (w:World) :
 Calls Tryz.prog 48 #[.agg RV,.int .i64 2] w fun e w'=>e=.returned (.bool (takenP R H N Z C V 2))∧Bl w w':=by
 have hb:bits .and .i64 2 7=2:=by kernel_rfl
 have hi:=idx_2
 have hv:V=N∨V = !N:=by cases N<;>cases V<;>simp
 rcases hv with rfl | rfl<;>cases C<;>(go_enter Tryz.func48,Tryz.ntmps48;go_wp2;all_goals (go_ret;refine ⟨?_,(Bl.refl w).alloc _⟩;first | (cases N<;>cases Z<;>rfl) | (cases V<;>cases Z<;>rfl)))
set_option maxHeartbeats 4000000 in
theorem taken_3 (RV:Array Value) (R:List Nat) (H:Nat) (N Z C V:Bool) (h17:RV[17]? = some (.bool N)) (h18:RV[18]? = some (.bool Z)) (h19:RV[19]? = some (.bool C)) (h20:RV[20]? = some (.bool V)) (w:World) :
 Calls Tryz.prog 48 #[.agg RV,.int .i64 3] w fun e w'=>e=.returned (.bool (takenP R H N Z C V 3))∧Bl w w':=by
 have hb:bits .and .i64 3 7=3:=by kernel_rfl
 have hi:=idx_3
 have hv:V=N∨V = !N:=by cases N<;>cases V<;>simp
 rcases hv with rfl | rfl<;>cases C<;>(go_enter Tryz.func48,Tryz.ntmps48;go_wp2;all_goals (go_ret;refine ⟨?_,(Bl.refl w).alloc _⟩;first | (cases N<;>cases Z<;>rfl) | (cases V<;>cases Z<;>rfl)))
set_option maxHeartbeats 4000000 in
theorem taken_4 (RV:Array Value) (R:List Nat) (H:Nat) (N Z C V:Bool) (h17:RV[17]? = some (.bool N)) (h18:RV[18]? = some (.bool Z)) (h19:RV[19]? = some (.bool C)) (h20:RV[20]? = some (.bool V)) (w:World) :
 Calls Tryz.prog 48 #[.agg RV,.int .i64 4] w fun e w'=>e=.returned (.bool (takenP R H N Z C V 4))∧Bl w w':=by
 have hb:bits .and .i64 4 7=4:=by kernel_rfl
 have hi:=idx_4
 have hv:V=N∨V = !N:=by cases N<;>cases V<;>simp
 rcases hv with rfl | rfl<;>cases C<;>(go_enter Tryz.func48,Tryz.ntmps48;go_wp2;all_goals (go_ret;refine ⟨?_,(Bl.refl w).alloc _⟩;first | (cases N<;>cases Z<;>rfl) | (cases V<;>cases Z<;>rfl)))
set_option maxHeartbeats 4000000 in
theorem taken_5 (RV:Array Value) (R:List Nat) (H:Nat) (N Z C V:Bool) (h17:RV[17]? = some (.bool N)) (h18:RV[18]? = some (.bool Z)) (h19:RV[19]? = some (.bool C)) (h20:RV[20]? = some (.bool V)) (w:World) :
 Calls Tryz.prog 48 #[.agg RV,.int .i64 5] w fun e w'=>e=.returned (.bool (takenP R H N Z C V 5))∧Bl w w':=by
 have hb:bits .and .i64 5 7=5:=by kernel_rfl
 have hi:=idx_5
 have hv:V=N∨V = !N:=by cases N<;>cases V<;>simp
 rcases hv with rfl | rfl<;>cases C<;>(go_enter Tryz.func48,Tryz.ntmps48;go_wp2;all_goals (go_ret;refine ⟨?_,(Bl.refl w).alloc _⟩;first | (cases N<;>cases Z<;>rfl) | (cases V<;>cases Z<;>rfl)))
set_option maxHeartbeats 4000000 in
theorem taken_6 (RV:Array Value) (R:List Nat) (H:Nat) (N Z C V:Bool) (h17:RV[17]? = some (.bool N)) (h18:RV[18]? = some (.bool Z)) (h19:RV[19]? = some (.bool C)) (h20:RV[20]? = some (.bool V)) (w:World) :
 Calls Tryz.prog 48 #[.agg RV,.int .i64 6] w fun e w'=>e=.returned (.bool (takenP R H N Z C V 6))∧Bl w w':=by
 have hb:bits .and .i64 6 7=6:=by kernel_rfl
 have hi:=idx_6
 have hv:V=N∨V = !N:=by cases N<;>cases V<;>simp
 rcases hv with rfl | rfl<;>cases C<;>(go_enter Tryz.func48,Tryz.ntmps48;go_wp2;all_goals (go_ret;refine ⟨?_,(Bl.refl w).alloc _⟩;first | (cases N<;>cases Z<;>rfl) | (cases V<;>cases Z<;>rfl)))
set_option maxHeartbeats 4000000 in
theorem taken_7 (RV:Array Value) (R:List Nat) (H:Nat) (N Z C V:Bool) (h17:RV[17]? = some (.bool N)) (h18:RV[18]? = some (.bool Z)) (h19:RV[19]? = some (.bool C)) (h20:RV[20]? = some (.bool V)) (w:World) :
 Calls Tryz.prog 48 #[.agg RV,.int .i64 7] w fun e w'=>e=.returned (.bool (takenP R H N Z C V 7))∧Bl w w':=by
 have hb:bits .and .i64 7 7=7:=by kernel_rfl
 have hi:=idx_7
 have hv:V=N∨V = !N:=by cases N<;>cases V<;>simp
 rcases hv with rfl | rfl<;>cases C<;>(go_enter Tryz.func48,Tryz.ntmps48;go_wp2;all_goals (go_ret;refine ⟨?_,(Bl.refl w).alloc _⟩;first | (cases N<;>cases Z<;>rfl) | (cases V<;>cases Z<;>rfl)))
set_option maxHeartbeats 4000000 in
theorem taken_8 (RV:Array Value) (R:List Nat) (H:Nat) (N Z C V:Bool) (h17:RV[17]? = some (.bool N)) (h18:RV[18]? = some (.bool Z)) (h19:RV[19]? = some (.bool C)) (h20:RV[20]? = some (.bool V)) (w:World) :
 Calls Tryz.prog 48 #[.agg RV,.int .i64 8] w fun e w'=>e=.returned (.bool (takenP R H N Z C V 8))∧Bl w w':=by
 have hb:bits .and .i64 8 7=0:=by kernel_rfl
 have hi:=idx_0
 have hv:V=N∨V = !N:=by cases N<;>cases V<;>simp
 rcases hv with rfl | rfl<;>cases C<;>(go_enter Tryz.func48,Tryz.ntmps48;go_wp2;all_goals (go_ret;refine ⟨?_,(Bl.refl w).alloc _⟩;first | (cases N<;>cases Z<;>rfl) | (cases V<;>cases Z<;>rfl)))
set_option maxHeartbeats 4000000 in
theorem taken_9 (RV:Array Value) (R:List Nat) (H:Nat) (N Z C V:Bool) (h17:RV[17]? = some (.bool N)) (h18:RV[18]? = some (.bool Z)) (h19:RV[19]? = some (.bool C)) (h20:RV[20]? = some (.bool V)) (w:World) :
 Calls Tryz.prog 48 #[.agg RV,.int .i64 9] w fun e w'=>e=.returned (.bool (takenP R H N Z C V 9))∧Bl w w':=by
 have hb:bits .and .i64 9 7=1:=by kernel_rfl
 have hi:=idx_1
 have hv:V=N∨V = !N:=by cases N<;>cases V<;>simp
 rcases hv with rfl | rfl<;>cases C<;>(go_enter Tryz.func48,Tryz.ntmps48;go_wp2;all_goals (go_ret;refine ⟨?_,(Bl.refl w).alloc _⟩;first | (cases N<;>cases Z<;>rfl) | (cases V<;>cases Z<;>rfl)))
set_option maxHeartbeats 4000000 in
theorem taken_10 (RV:Array Value) (R:List Nat) (H:Nat) (N Z C V:Bool) (h17:RV[17]? = some (.bool N)) (h18:RV[18]? = some (.bool Z)) (h19:RV[19]? = some (.bool C)) (h20:RV[20]? = some (.bool V)) (w:World) :
 Calls Tryz.prog 48 #[.agg RV,.int .i64 10] w fun e w'=>e=.returned (.bool (takenP R H N Z C V 10))∧Bl w w':=by
 have hb:bits .and .i64 10 7=2:=by kernel_rfl
 have hi:=idx_2
 have hv:V=N∨V = !N:=by cases N<;>cases V<;>simp
 rcases hv with rfl | rfl<;>cases C<;>(go_enter Tryz.func48,Tryz.ntmps48;go_wp2;all_goals (go_ret;refine ⟨?_,(Bl.refl w).alloc _⟩;first | (cases N<;>cases Z<;>rfl) | (cases V<;>cases Z<;>rfl)))
set_option maxHeartbeats 4000000 in
theorem taken_11 (RV:Array Value) (R:List Nat) (H:Nat) (N Z C V:Bool) (h17:RV[17]? = some (.bool N)) (h18:RV[18]? = some (.bool Z)) (h19:RV[19]? = some (.bool C)) (h20:RV[20]? = some (.bool V)) (w:World) :
 Calls Tryz.prog 48 #[.agg RV,.int .i64 11] w fun e w'=>e=.returned (.bool (takenP R H N Z C V 11))∧Bl w w':=by
 have hb:bits .and .i64 11 7=3:=by kernel_rfl
 have hi:=idx_3
 have hv:V=N∨V = !N:=by cases N<;>cases V<;>simp
 rcases hv with rfl | rfl<;>cases C<;>(go_enter Tryz.func48,Tryz.ntmps48;go_wp2;all_goals (go_ret;refine ⟨?_,(Bl.refl w).alloc _⟩;first | (cases N<;>cases Z<;>rfl) | (cases V<;>cases Z<;>rfl)))
set_option maxHeartbeats 4000000 in
theorem taken_12 (RV:Array Value) (R:List Nat) (H:Nat) (N Z C V:Bool) (h17:RV[17]? = some (.bool N)) (h18:RV[18]? = some (.bool Z)) (h19:RV[19]? = some (.bool C)) (h20:RV[20]? = some (.bool V)) (w:World) :
 Calls Tryz.prog 48 #[.agg RV,.int .i64 12] w fun e w'=>e=.returned (.bool (takenP R H N Z C V 12))∧Bl w w':=by
 have hb:bits .and .i64 12 7=4:=by kernel_rfl
 have hi:=idx_4
 have hv:V=N∨V = !N:=by cases N<;>cases V<;>simp
 rcases hv with rfl | rfl<;>cases C<;>(go_enter Tryz.func48,Tryz.ntmps48;go_wp2;all_goals (go_ret;refine ⟨?_,(Bl.refl w).alloc _⟩;first | (cases N<;>cases Z<;>rfl) | (cases V<;>cases Z<;>rfl)))
set_option maxHeartbeats 4000000 in
theorem taken_13 (RV:Array Value) (R:List Nat) (H:Nat) (N Z C V:Bool) (h17:RV[17]? = some (.bool N)) (h18:RV[18]? = some (.bool Z)) (h19:RV[19]? = some (.bool C)) (h20:RV[20]? = some (.bool V)) (w:World) :
 Calls Tryz.prog 48 #[.agg RV,.int .i64 13] w fun e w'=>e=.returned (.bool (takenP R H N Z C V 13))∧Bl w w':=by
 have hb:bits .and .i64 13 7=5:=by kernel_rfl
 have hi:=idx_5
 have hv:V=N∨V = !N:=by cases N<;>cases V<;>simp
 rcases hv with rfl | rfl<;>cases C<;>(go_enter Tryz.func48,Tryz.ntmps48;go_wp2;all_goals (go_ret;refine ⟨?_,(Bl.refl w).alloc _⟩;first | (cases N<;>cases Z<;>rfl) | (cases V<;>cases Z<;>rfl)))
set_option maxHeartbeats 4000000 in
theorem taken_14 (RV:Array Value) (R:List Nat) (H:Nat) (N Z C V:Bool) (h17:RV[17]? = some (.bool N)) (h18:RV[18]? = some (.bool Z)) (h19:RV[19]? = some (.bool C)) (h20:RV[20]? = some (.bool V)) (w:World) :
 Calls Tryz.prog 48 #[.agg RV,.int .i64 14] w fun e w'=>e=.returned (.bool (takenP R H N Z C V 14))∧Bl w w':=by
 have hb:bits .and .i64 14 7=6:=by kernel_rfl
 have hi:=idx_6
 have hv:V=N∨V = !N:=by cases N<;>cases V<;>simp
 rcases hv with rfl | rfl<;>cases C<;>(go_enter Tryz.func48,Tryz.ntmps48;go_wp2;all_goals (go_ret;refine ⟨?_,(Bl.refl w).alloc _⟩;first | (cases N<;>cases Z<;>rfl) | (cases V<;>cases Z<;>rfl)))
set_option maxHeartbeats 4000000 in
theorem taken_15 (RV:Array Value) (R:List Nat) (H:Nat) (N Z C V:Bool) (h17:RV[17]? = some (.bool N)) (h18:RV[18]? = some (.bool Z)) (h19:RV[19]? = some (.bool C)) (h20:RV[20]? = some (.bool V)) (w:World) :
 Calls Tryz.prog 48 #[.agg RV,.int .i64 15] w fun e w'=>e=.returned (.bool (takenP R H N Z C V 15))∧Bl w w':=by
 have hb:bits .and .i64 15 7=7:=by kernel_rfl
 have hi:=idx_7
 have hv:V=N∨V = !N:=by cases N<;>cases V<;>simp
 rcases hv with rfl | rfl<;>cases C<;>(go_enter Tryz.func48,Tryz.ntmps48;go_wp2;all_goals (go_ret;refine ⟨?_,(Bl.refl w).alloc _⟩;first | (cases N<;>cases Z<;>rfl) | (cases V<;>cases Z<;>rfl)))
theorem taken_any {s:RS} (h:s.Ok) (op:Int) (h0:0≤op) (h15:op≤15) (w:World) :
 Calls Tryz.prog 48 #[.agg s.arr,.int .i64 op] w fun e w'=>e=.returned (.bool (takenS s op.toNat))∧Bl w w':=by
 obtain ⟨hz,h16,h17,h18,h19,h20⟩:=h.cell
 have hop:op=0∨op=1∨op=2∨op=3∨op=4∨op=5∨op=6∨op=7∨op=8∨op=9∨op=10∨op=11∨op=12∨op=13∨op=14∨op=15:=by omega
 rcases hop with rfl | rfl | rfl | rfl | rfl | rfl | rfl | rfl | rfl | rfl | rfl | rfl | rfl | rfl | rfl | rfl
 · exact taken_0 s.arr s.R s.H s.N s.Z s.C s.V h17 h18 h19 h20 w
 · exact taken_1 s.arr s.R s.H s.N s.Z s.C s.V h17 h18 h19 h20 w
 · exact taken_2 s.arr s.R s.H s.N s.Z s.C s.V h17 h18 h19 h20 w
 · exact taken_3 s.arr s.R s.H s.N s.Z s.C s.V h17 h18 h19 h20 w
 · exact taken_4 s.arr s.R s.H s.N s.Z s.C s.V h17 h18 h19 h20 w
 · exact taken_5 s.arr s.R s.H s.N s.Z s.C s.V h17 h18 h19 h20 w
 · exact taken_6 s.arr s.R s.H s.N s.Z s.C s.V h17 h18 h19 h20 w
 · exact taken_7 s.arr s.R s.H s.N s.Z s.C s.V h17 h18 h19 h20 w
 · exact taken_8 s.arr s.R s.H s.N s.Z s.C s.V h17 h18 h19 h20 w
 · exact taken_9 s.arr s.R s.H s.N s.Z s.C s.V h17 h18 h19 h20 w
 · exact taken_10 s.arr s.R s.H s.N s.Z s.C s.V h17 h18 h19 h20 w
 · exact taken_11 s.arr s.R s.H s.N s.Z s.C s.V h17 h18 h19 h20 w
 · exact taken_12 s.arr s.R s.H s.N s.Z s.C s.V h17 h18 h19 h20 w
 · exact taken_13 s.arr s.R s.H s.N s.Z s.C s.V h17 h18 h19 h20 w
 · exact taken_14 s.arr s.R s.H s.N s.Z s.C s.V h17 h18 h19 h20 w
 · exact taken_15 s.arr s.R s.H s.N s.Z s.C s.V h17 h18 h19 h20 w
end Go.Proofs.YtjmiaemabhlnjaaGreatDoor.Chains.Shifts
end
