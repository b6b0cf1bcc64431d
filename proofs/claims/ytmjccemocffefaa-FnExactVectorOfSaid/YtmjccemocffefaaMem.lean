/- Contracts: has a vector a node. -/
import Derived.Test.YtmjccemocffefaaLow
import Derived.WalkKit
import Derived.Handy
import Derived.Deep.QuietTactic
import Derived.BigQuiet
import Derived.WalkSmall
namespace Go.Proofs.Ytmjccemocffefaa
open Go.RowKit
set_option linter.unusedVariables false

theorem rd_one (k : IntKind) (w : World) (x : Int) (E : TypeId) : Rd k (w.alloc (.cells #[.int k x] E)) (.slice (some ⟨w.heap.size, 0, none⟩) 1 1) [x] :=
  ⟨_, 1, rfl, Nat.le_refl _, by decide, (fun h => by cases h), fun i hi => ⟨w.heap.size, 0, rfl, by
    have : i = 0 := by simp at hi; omega
    subst this
    simp⟩⟩
theorem has_any (m n : Int) (w : World) (h1 : 0 ≤ m) (h2 : m ≤ 4294967295) (h3 : 0 ≤ n) (h4 : n ≤ 31) : Calls Try.prog 43 #[.int .i64 m, .int .i64 n] w fun e w' => e = .returned (.bool (hasB m n)) ∧ w = w' := by
  have hb := bit_and m n h1 (by omega)
  go_enter Try.func43, Try.ntmps43
  go_wp2
  go_ret
  exact ⟨rfl, rfl⟩
theorem sHas_any (m n : Int) (w : World) (h1 : 0 ≤ m) (h2 : m ≤ 4294967295) (h3 : 0 ≤ n) (h4 : n ≤ 31) : Calls Try.prog 42 #[.int .i64 m, .int .i64 n] w fun e w' => e = .returned (.bool (hasB m n)) ∧ w = w' := by
  have hb := bit_and m n h1 (by omega)
  go_enter Try.func42, Try.ntmps42
  go_wp2
  go_ret
  exact ⟨rfl, rfl⟩

theorem sVector_any (v : Value) (xs : List Int) (w : World) (hr : Rd .i64 w v xs) : Calls Try.prog 33 #[v] w fun e w' => e = .returned (.bool (vecs xs)) ∧ w = w' := by
  obtain ⟨a, cap, rfl, hl, hm, hn, hc⟩ := hr
  unfold maxLen at hm
  go_enter Try.func33, Try.ntmps33
  go_wp2
  go_loop [3] (fun i => ∃ k : Nat, k ≤ xs.length ∧ i = .int .i64 k ∧ vecs (xs.take k) = true) (fun i => xs.length - (intOf i).toNat)
  case atStart => exact ⟨0, Nat.zero_le _, rfl, rfl⟩
  case round =>
    obtain ⟨k, hk, rfl, hv⟩ := hrel
    by_cases hlt : k < xs.length
    · obtain ⟨b, off, rfl, hcell⟩ := hc k hlt
      have hT := take_succ_getD xs k hlt
      obtain ⟨x, hx⟩ : ∃ x, x = xs.getD k 0 := ⟨_, rfl⟩
      rw [← hx] at hcell hT
      have hs : vecs (xs.take (k + 1)) = (vecs (xs.take k) && inB x 0 4294967295) := by rw [hT]; simp [vecs]
      have HX := Lib.hid hx
      have HV := Lib.hid hv
      have HS := Lib.hid hs
      clear hT hs hv hx hc
      cases hb : inB x 0 4294967295
      · go_wp2_with (go_at_call 44; refine (l01In_any _ _ _ _).mono ?_; rintro e w' ⟨rfl, rfl⟩)
        go_ret
        have hfin : vecs xs = false := by
          have h1 : vecs (xs.take (k + 1)) = false := by rw [HS.out, hb]; simp
          cases hh : vecs xs
          · rfl
          · have : vecs (xs.take (k + 1)) = true := by
              simp only [vecs, List.all_eq_true] at hh ⊢
              exact fun y hy => hh y (List.mem_of_mem_take hy)
            rw [h1] at this; cases this
        exact ⟨by rw [hfin]; rfl, rfl⟩
      · go_wp2_with (go_at_call 44; refine (l01In_any _ _ _ _).mono ?_; rintro e w' ⟨rfl, rfl⟩)
        go_round
        case rel => exact ⟨k + 1, by omega, by go_num, by rw [HS.out, HV.out, hb]; rfl⟩
        case measure => simp [intOf]; omega
    · have : k = xs.length := by omega
      subst this
      have HV : vecs xs = true := by rw [← hv, List.take_length]
      have HV2 := Lib.hid HV
      clear hv HV hc
      go_wp2
      go_ret
      exact ⟨by rw [HV2.out]; rfl, rfl⟩
end Go.Proofs.Ytmjccemocffefaa
