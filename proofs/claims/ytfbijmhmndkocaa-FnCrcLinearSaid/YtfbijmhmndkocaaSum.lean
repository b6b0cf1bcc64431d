/- Contracts: SumErrors (program and reference). -/
import Derived.Test.YtfbijmhmndkocaaDiff
import Derived.Deep.RegionLaw
namespace Go.Proofs.Ytfbijmhmndkocaa
open Go.RowKit
set_option linter.unusedVariables false

theorem bits_at {xs : List Int} (h : isBitsB xs = true) (k : Nat) (hk : k < xs.length) : 0 ≤ xs.getD k 0 ∧ xs.getD k 0 ≤ 1 := allIn_at (isBitsB_yes h).2 k hk
theorem xor_bits {x y : Int} (hx : 0 ≤ x ∧ x ≤ 1) (hy : 0 ≤ y ∧ y ≤ 1) : bits BinOp.xor IntKind.i64 x y = bxor x y := bits_xor x y (by omega) (by omega) (by omega) (by omega)

end Go.Proofs.Ytfbijmhmndkocaa
