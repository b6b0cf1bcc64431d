/- Contract: eqState of a state and itself. -/
import Derived.Test.YtkhmnkpdlodepaaDoorState
import Derived.Test.YtkhmnkpdlodepaaDoorSt
namespace Go.Proofs.YtkhmnkpdlodepaaDoor
open Go.RowKit
set_option linter.unusedVariables false
set_option linter.unusedSimpArgs false
set_option maxHeartbeats 1000000 in
theorem eqState_self (x : St) (w : World) : Calls Tryd.prog 8 #[.agg #[.int .i64 x.t, .int .i64 x.m, .int .i64 x.r, .int .i64 x.s, .int .i64 x.v], .agg #[.int .i64 x.t, .int .i64 x.m, .int .i64 x.r, .int .i64 x.s, .int .i64 x.v]] w fun e w' => e = .returned (.bool true) ∧ Below w.heap.size w w' := by
  go_enter Tryd.func8, Tryd.ntmps8
  go_wp2
  go_ret
  exact ⟨rfl, by go_grown⟩
end Go.Proofs.YtkhmnkpdlodepaaDoor
