/- Contracts: the checks of lists (IsBits, IsBytes), the laws' copies, comparisons and marks. -/
import Derived.Test.YtkhmnkpdlodepaaDoorLow
import Derived.Test.YtkhmnkpdlodepaaDoorPlainL
import Derived.WalkKit
import Derived.Handy
import Derived.Deep.QuietTactic
import Derived.BigQuiet
import Derived.WalkSmall
import Derived.Lib.Hide
namespace Go.Proofs.YtkhmnkpdlodepaaDoor
open Go.RowKit
set_option linter.unusedVariables false

theorem infoE : (Tryd.prog.info? 2).map (fun i => (i.zero, i.size, i.bytes)) = some (some (.int .i64 0), 1, 8) := by kernel_rfl

theorem allWithin_any (v : Value) (xs : List Int) (lo hi : Int) (w : World) (hr : Rd .i64 w v xs) : Calls Tryd.prog 47 #[v, .int .i64 lo, .int .i64 hi] w fun e w' => e = .returned (.bool (allIn xs lo hi)) ∧ w = w' := by
  obtain ⟨a, cap, rfl, hl, hm, hn, hc⟩ := hr
  unfold maxLen at hm
  go_enter Tryd.func47, Tryd.ntmps47
  go_wp2
  go_loop [11] (fun i => ∃ k : Nat, k ≤ xs.length ∧ i = .int .i64 k ∧ allIn (xs.take k) lo hi = true) (fun i => xs.length - (intOf i).toNat)
  case atStart => exact ⟨0, Nat.zero_le _, rfl, rfl⟩
  case round =>
    obtain ⟨k, hk, rfl, hv⟩ := hrel
    by_cases hlt : k < xs.length
    · obtain ⟨b, off, rfl, hcell⟩ := hc k hlt
      have hT := take_succ_getD xs k hlt
      obtain ⟨x, hx⟩ : ∃ x, x = xs.getD k 0 := ⟨_, rfl⟩
      rw [← hx] at hcell hT
      have hs : allIn (xs.take (k + 1)) lo hi = (allIn (xs.take k) lo hi && inB x lo hi) := by rw [hT, allIn_snoc]
      have HX := Lib.hid hx
      have HV := Lib.hid hv
      have HS := Lib.hid hs
      clear hT hs hv hx hc
      by_cases h1 : x < lo
      · have hb : inB x lo hi = false := inB_mk_no (.inl h1)
        have HB := Lib.hid hb
        clear hb
        go_wp2
        go_ret
        exact ⟨by rw [allIn_bad (k + 1) (by rw [HS.out, HB.out]; simp)]; rfl, rfl⟩
      · by_cases h2 : hi < x
        · have hb : inB x lo hi = false := inB_mk_no (.inr h2)
          have HB := Lib.hid hb
          clear hb
          go_wp2
          go_ret
          exact ⟨by rw [allIn_bad (k + 1) (by rw [HS.out, HB.out]; simp)]; rfl, rfl⟩
        · have hb : inB x lo hi = true := inB_mk (by omega)
          have HB := Lib.hid hb
          clear hb
          go_wp2
          go_round
          case rel => exact ⟨k + 1, by omega, by go_num, by rw [HS.out, HV.out, HB.out]; rfl⟩
          case measure => simp [intOf]; omega
    · have : k = xs.length := by omega
      subst this
      have HV : allIn xs lo hi = true := by rw [← hv, List.take_length]
      have HV2 := Lib.hid HV
      clear hv HV hc
      go_wp2
      go_ret
      exact ⟨by rw [HV2.out]; rfl, rfl⟩
theorem l01All_any (v : Value) (xs : List Int) (most hi : Int) (w : World) (hr : Rd .i64 w v xs) : Calls Tryd.prog 49 #[v, .int .i64 most, .int .i64 hi] w fun e w' => e = .returned (.bool (decide ((xs.length : Int) ≤ most) && allIn xs 0 hi)) ∧ w = w' := by
  obtain ⟨a, cap, rfl, hl, hm, hn, hc⟩ := hr
  unfold maxLen at hm
  by_cases hmost : (xs.length : Int) ≤ most
  rotate_left
  · go_enter Tryd.func49, Tryd.ntmps49
    go_wp2
    go_ret
    exact ⟨by rw [decide_eq_false (by omega)]; rfl, rfl⟩
  rw [decide_eq_true hmost, Bool.true_and]
  go_enter Tryd.func49, Tryd.ntmps49
  go_wp2
  go_loop [7] (fun i => ∃ k : Nat, k ≤ xs.length ∧ i = .int .i64 k ∧ allIn (xs.take k) 0 hi = true) (fun i => xs.length - (intOf i).toNat)
  case atStart => exact ⟨0, Nat.zero_le _, rfl, rfl⟩
  case round =>
    obtain ⟨k, hk, rfl, hv⟩ := hrel
    by_cases hlt : k < xs.length
    · obtain ⟨b, off, rfl, hcell⟩ := hc k hlt
      have hT := take_succ_getD xs k hlt
      obtain ⟨x, hx⟩ : ∃ x, x = xs.getD k 0 := ⟨_, rfl⟩
      rw [← hx] at hcell hT
      have hs : allIn (xs.take (k + 1)) 0 hi = (allIn (xs.take k) 0 hi && inB x 0 hi) := by rw [hT, allIn_snoc]
      have HX := Lib.hid hx
      have HV := Lib.hid hv
      have HS := Lib.hid hs
      clear hT hs hv hx hc
      cases hb : inB x 0 hi
      · go_wp2_with (go_at_call 41; refine (l01In_any _ _ _ _).mono ?_; rintro e w' ⟨rfl, rfl⟩)
        go_ret
        exact ⟨by rw [allIn_bad (k + 1) (by rw [HS.out, hb]; simp)]; rfl, rfl⟩
      · go_wp2_with (go_at_call 41; refine (l01In_any _ _ _ _).mono ?_; rintro e w' ⟨rfl, rfl⟩)
        go_round
        case rel => exact ⟨k + 1, by omega, by go_num, by rw [HS.out, HV.out, hb]; rfl⟩
        case measure => simp [intOf]; omega
    · have : k = xs.length := by omega
      subst this
      have HV : allIn xs 0 hi = true := by rw [← hv, List.take_length]
      have HV2 := Lib.hid HV
      clear hv HV hc
      go_wp2
      go_ret
      exact ⟨by rw [HV2.out]; rfl, rfl⟩
theorem isBits_any (v : Value) (xs : List Int) (w : World) (hr : Rd .i64 w v xs) : Calls Tryd.prog 32 #[v] w fun e w' => e = .returned (.bool (isBitsB xs)) ∧ w = w' := by
  have hr' := hr
  obtain ⟨a, cap, rfl, hl, hm, hn, hc⟩ := hr
  clear hc
  unfold maxLen at hm
  unfold isBitsB
  have HR := Lib.hid hr'
  clear hr'
  by_cases h : xs.length ≤ 8192
  all_goals
    go_enter Tryd.func32, Tryd.ntmps32
    go_wp2_with (go_at_call 47; refine (allWithin_any _ xs _ _ _ HR.out).mono ?_; rintro e w' ⟨rfl, rfl⟩)
    go_ret
    exact ⟨by simp [h], rfl⟩
theorem sIsBits_any (v : Value) (xs : List Int) (w : World) (hr : Rd .i64 w v xs) : Calls Tryd.prog 34 #[v] w fun e w' => e = .returned (.bool (isBitsB xs)) ∧ w = w' := by
  have e : isBitsB xs = (decide ((xs.length : Int) ≤ 8192) && allIn xs 0 1) := by
    have : decide ((xs.length : Int) ≤ 8192) = decide (xs.length ≤ 8192) := decide_eq_decide.2 (by omega)
    rw [this]; rfl
  have HR := Lib.hid hr
  clear hr
  rw [e]; clear e
  go_enter Tryd.func34, Tryd.ntmps34
  go_wp2_with (go_at_call 49; refine (l01All_any _ xs _ _ _ HR.out).mono ?_; rintro e w' ⟨rfl, rfl⟩)
  go_ret
  exact ⟨rfl, rfl⟩
end Go.Proofs.YtkhmnkpdlodepaaDoor
