/- Contract: sum. -/
import Derived.Test.YtmlingcnbdpbmaaBurL
import Derived.Test.YtmlingcnbdpbmaaLists
import Derived.Deep.QuietTactic
namespace Go.Proofs.Ytmlingcnbdpbmaa
open Go.RowKit
set_option linter.unusedVariables false
set_option linter.unusedSimpArgs false

set_option maxHeartbeats 400000 in
theorem sum_any (v : Value) (xs : List Int) (w : World) (hr : Rd .i64 w v xs) (hb : allIn xs 0 1 = true) (hl : xs.length ≤ 16777216) :
    Calls Try.prog 25 #[v] w fun e w' => e = .returned (.int .i64 (sumL xs)) ∧ w = w' := by
  obtain ⟨a, cap, rfl, hl2, hm, hn, hc⟩ := hr
  have HC := Lib.hid hc
  have HBT := Lib.hid hb
  clear hc hn hb
  go_enter Try.func25, Try.ntmps25
  go_wp2
  go_loop [3, 4] (fun s i => ∃ (k : Nat), k ≤ xs.length ∧ i = .int .i64 k ∧ s = .int .i64 (wtTo xs k)) (fun _ i => xs.length - (intOf i).toNat)
  case atStart => exact ⟨0, Nat.zero_le _, rfl, rfl⟩
  case round =>
    obtain ⟨k, hk, rfl, rfl⟩ := hrel
    by_cases hlt : k < xs.length
    · obtain ⟨b, off, rfl, hcell0⟩ := HC.out k hlt
      obtain ⟨hw1, hw2⟩ := wtTo_bound HBT.out k hk
      obtain ⟨hx1, hx2⟩ := allIn_at HBT.out k hlt
      have hs : wtTo xs (k + 1) = wtTo xs k + xs.getD k 0 := rfl
      obtain ⟨x, hx0⟩ : ∃ x, x = xs.getD k 0 := ⟨_, rfl⟩
      obtain ⟨g, hg0⟩ : ∃ g, g = wtTo xs k := ⟨_, rfl⟩
      rw [← hx0] at hcell0 hx1 hx2 hs
      rw [← hg0] at hw1 hw2 hs ⊢
      have HS := Lib.hid hs
      clear hx0 hg0 hs
      go_wp2
      go_round
      case rel => exact ⟨k + 1, by omega, by go_num, by rw [HS.out]⟩
      case measure => simp [intOf]; omega
    · have : k = xs.length := by omega
      subst this
      go_wp2
      go_ret
      exact ⟨rfl, rfl⟩
end Go.Proofs.Ytmlingcnbdpbmaa
