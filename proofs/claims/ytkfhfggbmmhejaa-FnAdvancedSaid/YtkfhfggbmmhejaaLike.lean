/- Contracts: likeInts compares two lists, big tells a long code. -/
import Derived.Test.YtkfhfggbmmhejaaPlainL
import Derived.Deep.QuietTactic
import Derived.BigQuiet
import Derived.WalkSmall
import Derived.WalkSpells
import Derived.Handy
import Derived.Lib.Hide
import Derived.Test.YtkfhfggbmmhejaaRows
namespace Go.Proofs.Ytkfhfggbmmhejaa
open Go.RowKit
set_option linter.unusedVariables false
set_option linter.unusedSimpArgs false

theorem big_any (v : Value) (cs : List Int) (w : World) (hr : Rd .u8 w v cs) : Calls Try.prog 5 #[v] w fun e w' => e = .returned (.bool (decide ((4096 : Int) < (cs.length : Int)))) ∧ w = w' := by
  obtain ⟨a, cap, rfl, hl, hm, hn, hc⟩ := hr
  unfold maxLen at hm
  clear hc hn
  go_enter Try.func5, Try.ntmps5
  go_wp2
  go_ret
  exact ⟨rfl, rfl⟩
theorem IsRow.bytes {w : World} {a : Option Addr} {len cap : Nat} {zs : List Int} (h : IsRow .u8 w a len cap zs) : ∀ x ∈ zs.take len, 0 ≤ x ∧ x ≤ 255 := by
  intro x hx
  have hx' := List.mem_of_mem_take hx
  rcases h with ⟨rfl, rfl, rfl, rfl⟩ | ⟨x', rfl, hl, hm, hz, hc, hw⟩
  · cases hx'
  · simpa [Lit.wf, IntKind.min, IntKind.max, IntKind.signed, IntKind.bits] using hw x hx'
end Go.Proofs.Ytkfhfggbmmhejaa
