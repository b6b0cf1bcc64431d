/- Contracts: the checks of lists (IsBits, IsBytes), the laws' copies, comparisons and marks. -/
import Derived.Test.YtkfhfggbmmhejaaLow
import Derived.Test.YtkfhfggbmmhejaaPlainL
import Derived.WalkKit
import Derived.Handy
import Derived.Deep.QuietTactic
import Derived.BigQuiet
import Derived.WalkSmall
import Derived.Lib.Hide
namespace Go.Proofs.Ytkfhfggbmmhejaa
open Go.RowKit
set_option linter.unusedVariables false

theorem infoE : (Try.prog.info? 2).map (fun i => (i.zero, i.size, i.bytes)) = some (some (.int .i64 0), 1, 8) := by kernel_rfl

end Go.Proofs.Ytkfhfggbmmhejaa
