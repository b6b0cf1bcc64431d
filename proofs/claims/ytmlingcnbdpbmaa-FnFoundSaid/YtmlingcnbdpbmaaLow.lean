/- Contracts of the small functions that compute with numbers alone: each returns what its plain twin computes and leaves the world as it was. -/
import Derived.Test.YtmlingcnbdpbmaaRows
import Derived.Test.YtmlingcnbdpbmaaView
import Derived.WalkKit
import Derived.Deep.QuietTactic
import Derived.BigQuiet
import Derived.WalkSmall
import Derived.Handy
import Derived.Lib.Hide
namespace Go.Proofs.Ytmlingcnbdpbmaa
open Go.RowKit
set_option linter.unusedVariables false

theorem within_any (n lo hi : Int) (w : World) : Calls Try.prog 62 #[.int .i64 n, .int .i64 lo, .int .i64 hi] w fun e w' => e = .returned (.bool (inB n lo hi)) ∧ w = w' := by
  unfold inB
  by_cases h1 : lo ≤ n <;> by_cases h2 : n ≤ hi
  all_goals
    go_enter Try.func62, Try.ntmps62
    go_wp2
    go_ret
    simp [h1, h2]
theorem l01In_any (n lo hi : Int) (w : World) : Calls Try.prog 66 #[.int .i64 n, .int .i64 lo, .int .i64 hi] w fun e w' => e = .returned (.bool (inB n lo hi)) ∧ w = w' := by
  unfold inB
  by_cases h1 : lo ≤ n <;> by_cases h2 : n ≤ hi
  all_goals
    go_enter Try.func66, Try.ntmps66
    go_wp2
    go_ret
    simp [h1, h2]


theorem qt {f : FuncId} {args : Array Value} {w : World} {E : Ending} (h : Calls Try.prog f args w fun e w' => e = E ∧ w = w') : Calls Try.prog f args w fun e w' => e = E ∧ w' = w := h.mono fun _ _ ⟨a, b⟩ => ⟨a, b.symm⟩


end Go.Proofs.Ytmlingcnbdpbmaa
