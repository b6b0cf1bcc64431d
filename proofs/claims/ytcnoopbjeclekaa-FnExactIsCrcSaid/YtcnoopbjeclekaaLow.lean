/- Contracts of the small functions that compute with numbers alone: each returns what its plain twin computes and leaves the world as it was. -/
import Derived.Test.YtcnoopbjeclekaaRows
import Derived.Test.YtcnoopbjeclekaaView
import Derived.WalkKit
import Derived.Deep.QuietTactic
import Derived.BigQuiet
import Derived.WalkSmall
import Derived.Handy
import Derived.Lib.Hide
namespace Go.Proofs.Ytcnoopbjeclekaa
open Go.RowKit
set_option linter.unusedVariables false

theorem within_any (n lo hi : Int) (w : World) : Calls Try.prog 23 #[.int .i64 n, .int .i64 lo, .int .i64 hi] w fun e w' => e = .returned (.bool (inB n lo hi)) ∧ w = w' := by
  unfold inB
  by_cases h1 : lo ≤ n <;> by_cases h2 : n ≤ hi
  all_goals
    go_enter Try.func23, Try.ntmps23
    go_wp2
    go_ret
    simp [h1, h2]
theorem l01In_any (n lo hi : Int) (w : World) : Calls Try.prog 22 #[.int .i64 n, .int .i64 lo, .int .i64 hi] w fun e w' => e = .returned (.bool (inB n lo hi)) ∧ w = w' := by
  unfold inB
  by_cases h1 : lo ≤ n <;> by_cases h2 : n ≤ hi
  all_goals
    go_enter Try.func22, Try.ntmps22
    go_wp2
    go_ret
    simp [h1, h2]


theorem qt {f : FuncId} {args : Array Value} {w : World} {E : Ending} (h : Calls Try.prog f args w fun e w' => e = E ∧ w = w') : Calls Try.prog f args w fun e w' => e = E ∧ w' = w := h.mono fun _ _ ⟨a, b⟩ => ⟨a, b.symm⟩


theorem isMajority_any (a r : Int) (w : World) : Calls Try.prog 10 #[.int .i64 a, .int .i64 r] w fun e w' => e = .returned (.bool (majB a r)) ∧ w = w' := by
  unfold majB
  cases h1 : inB a 0 256 <;> cases h2 : inB r 0 256 <;> by_cases h3 : r < a
  all_goals
    go_enter Try.func10, Try.ntmps10
    go_wp2_with (go_at_call 23; refine (within_any _ _ _ _).mono ?_; rintro e w' ⟨rfl, rfl⟩)
    go_ret
    simp [h3]
theorem sIsMajority_any (a r : Int) (w : World) : Calls Try.prog 9 #[.int .i64 a, .int .i64 r] w fun e w' => e = .returned (.bool (majB a r)) ∧ w = w' := by
  unfold majB
  cases h1 : inB a 0 256 <;> cases h2 : inB r 0 256 <;> by_cases h3 : r < a
  all_goals
    go_enter Try.func9, Try.ntmps9
    go_wp2_with (go_at_call 22; refine (l01In_any _ _ _ _).mono ?_; rintro e w' ⟨rfl, rfl⟩)
    go_ret
    simp [h3]
theorem isVector_any (n : Int) (w : World) : Calls Try.prog 24 #[.int .i64 n] w fun e w' => e = .returned (.bool (inB n 0 4294967295)) ∧ w = w' := by
  go_enter Try.func24, Try.ntmps24
  go_wp2_with (go_at_call 23; refine (within_any _ _ _ _).mono ?_; rintro e w' ⟨rfl, rfl⟩)
  go_ret
  exact ⟨rfl, rfl⟩
theorem isNode_any (n : Int) (w : World) : Calls Try.prog 28 #[.int .i64 n] w fun e w' => e = .returned (.bool (inB n 0 31)) ∧ w = w' := by
  go_enter Try.func28, Try.ntmps28
  go_wp2_with (go_at_call 23; refine (within_any _ _ _ _).mono ?_; rintro e w' ⟨rfl, rfl⟩)
  go_ret
  exact ⟨rfl, rfl⟩
theorem sNode_any (n : Int) (w : World) : Calls Try.prog 26 #[.int .i64 n] w fun e w' => e = .returned (.bool (inB n 0 31)) ∧ w = w' := by
  go_enter Try.func26, Try.ntmps26
  go_wp2_with (go_at_call 22; refine (l01In_any _ _ _ _).mono ?_; rintro e w' ⟨rfl, rfl⟩)
  go_ret
  exact ⟨rfl, rfl⟩
end Go.Proofs.Ytcnoopbjeclekaa
