/- Contracts: IsState (program and reference), toState. -/
import Derived.Test.YtkhmnkpdlodepaaDoorLow
import Derived.WalkKit
import Derived.Handy
import Derived.Deep.QuietTactic
import Derived.BigQuiet
import Derived.WalkSmall
namespace Go.Proofs.YtkhmnkpdlodepaaDoor
open Go.RowKit
set_option linter.unusedVariables false

theorem toState_any (a b c d f : Int) (w : World) : Calls Tryd.prog 22 #[.agg #[.int .i64 a, .int .i64 b, .int .i64 c, .int .i64 d, .int .i64 f]] w fun e w' => e = .returned (.agg #[.int .i64 a, .int .i64 b, .int .i64 c, .int .i64 d, .int .i64 f]) ∧ Below w.heap.size w w' := by
  go_enter Tryd.func22, Tryd.ntmps22
  go_wp2
  go_returns
  exact ⟨rfl, by go_grown⟩
set_option maxHeartbeats 1000000 in
theorem isState_any (t m r s v : Int) (w : World) : Calls Tryd.prog 20 #[.agg #[.int .i64 t, .int .i64 m, .int .i64 r, .int .i64 s, .int .i64 v]] w fun e w' => e = .returned (.bool (stB t m r s v)) ∧ Below w.heap.size w w' := by
  unfold stB
  cases h1 : inB t 0 65535
  rotate_left
  cases h2 : inB m 0 15
  rotate_left
  cases h3 : inB r 0 15
  rotate_left
  cases h4 : inB s 0 255
  all_goals
    go_enter Tryd.func20, Tryd.ntmps20
    go_wp2_with (first | (go_at_call 39; refine (within_any _ _ _ _).mono ?_; rintro e w' ⟨rfl, rfl⟩) | (go_at_call 40; refine (isVector_any _ _).mono ?_; rintro e w' ⟨rfl, rfl⟩))
    go_ret
    exact ⟨rfl, (Below.refl _ _).alloc (Nat.le_refl _) _⟩
set_option maxHeartbeats 1000000 in
theorem sIsState_any (t m r s v : Int) (w : World) : Calls Tryd.prog 21 #[.agg #[.int .i64 t, .int .i64 m, .int .i64 r, .int .i64 s, .int .i64 v]] w fun e w' => e = .returned (.bool (stB t m r s v)) ∧ Below w.heap.size w w' := by
  unfold stB
  cases h1 : inB t 0 65535
  rotate_left
  cases h2 : inB m 0 15
  rotate_left
  cases h3 : inB r 0 15
  rotate_left
  cases h4 : inB s 0 255
  all_goals
    go_enter Tryd.func21, Tryd.ntmps21
    go_wp2_with (go_at_call 41; refine (l01In_any _ _ _ _).mono ?_; rintro e w' ⟨rfl, rfl⟩)
    go_ret
    exact ⟨rfl, (Below.refl _ _).alloc (Nat.le_refl _) _⟩
end Go.Proofs.YtkhmnkpdlodepaaDoor
