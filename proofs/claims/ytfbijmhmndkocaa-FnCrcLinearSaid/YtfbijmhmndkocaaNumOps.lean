/- Contracts: NumberAt, AppendNumber (program and reference). -/
import Derived.Test.YtfbijmhmndkocaaNumber
namespace Go.Proofs.Ytfbijmhmndkocaa
open Go.RowKit
set_option linter.unusedVariables false

/-- NumberAt's answer. -/
def numAt (xs : List Int) (lo n : Int) : Int × Int :=
  if isBitsB xs = false then (0, 1) else if inB n 0 40 = false then (0, 2) else if inB lo 0 ((xs.length : Int) - n) = false then (0, 2) else (numOf ((xs.drop lo.toNat).take n.toNat), 0)


end Go.Proofs.Ytfbijmhmndkocaa
