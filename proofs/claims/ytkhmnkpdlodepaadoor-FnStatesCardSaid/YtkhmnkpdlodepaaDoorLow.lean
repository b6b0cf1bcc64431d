/- Contracts of the small functions that compute with numbers alone: each returns what its plain twin computes and leaves the world as it was. -/
import Derived.Test.YtkhmnkpdlodepaaDoorRows
import Derived.Test.YtkhmnkpdlodepaaDoorView
import Derived.WalkKit
import Derived.Deep.QuietTactic
import Derived.BigQuiet
import Derived.WalkSmall
import Derived.Handy
import Derived.Lib.Hide
namespace Go.Proofs.YtkhmnkpdlodepaaDoor
open Go.RowKit
set_option linter.unusedVariables false

theorem within_any (n lo hi : Int) (w : World) : Calls Tryd.prog 39 #[.int .i64 n, .int .i64 lo, .int .i64 hi] w fun e w' => e = .returned (.bool (inB n lo hi)) ∧ w = w' := by
  unfold inB
  by_cases h1 : lo ≤ n <;> by_cases h2 : n ≤ hi
  all_goals
    go_enter Tryd.func39, Tryd.ntmps39
    go_wp2
    go_ret
    simp [h1, h2]
theorem l01In_any (n lo hi : Int) (w : World) : Calls Tryd.prog 41 #[.int .i64 n, .int .i64 lo, .int .i64 hi] w fun e w' => e = .returned (.bool (inB n lo hi)) ∧ w = w' := by
  unfold inB
  by_cases h1 : lo ≤ n <;> by_cases h2 : n ≤ hi
  all_goals
    go_enter Tryd.func41, Tryd.ntmps41
    go_wp2
    go_ret
    simp [h1, h2]


theorem qt {f : FuncId} {args : Array Value} {w : World} {E : Ending} (h : Calls Tryd.prog f args w fun e w' => e = E ∧ w = w') : Calls Tryd.prog f args w fun e w' => e = E ∧ w' = w := h.mono fun _ _ ⟨a, b⟩ => ⟨a, b.symm⟩


theorem isVector_any (n : Int) (w : World) : Calls Tryd.prog 40 #[.int .i64 n] w fun e w' => e = .returned (.bool (inB n 0 4294967295)) ∧ w = w' := by
  go_enter Tryd.func40, Tryd.ntmps40
  go_wp2_with (go_at_call 39; refine (within_any _ _ _ _).mono ?_; rintro e w' ⟨rfl, rfl⟩)
  go_ret
  exact ⟨rfl, rfl⟩
end Go.Proofs.YtkhmnkpdlodepaaDoor
