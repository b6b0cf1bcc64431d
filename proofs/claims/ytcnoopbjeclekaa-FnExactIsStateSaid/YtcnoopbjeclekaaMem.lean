/- Contracts: has a vector a node. -/
import Derived.Test.YtcnoopbjeclekaaLow
import Derived.WalkKit
import Derived.Handy
import Derived.Deep.QuietTactic
import Derived.BigQuiet
import Derived.WalkSmall
namespace Go.Proofs.Ytcnoopbjeclekaa
open Go.RowKit
set_option linter.unusedVariables false

theorem has_any (m n : Int) (w : World) (h1 : 0 ≤ m) (h2 : m ≤ 4294967295) (h3 : 0 ≤ n) (h4 : n ≤ 31) : Calls Try.prog 29 #[.int .i64 m, .int .i64 n] w fun e w' => e = .returned (.bool (hasB m n)) ∧ w = w' := by
  have hb := bit_and m n h1 (by omega)
  go_enter Try.func29, Try.ntmps29
  go_wp2
  go_ret
  exact ⟨rfl, rfl⟩
theorem sHas_any (m n : Int) (w : World) (h1 : 0 ≤ m) (h2 : m ≤ 4294967295) (h3 : 0 ≤ n) (h4 : n ≤ 31) : Calls Try.prog 27 #[.int .i64 m, .int .i64 n] w fun e w' => e = .returned (.bool (hasB m n)) ∧ w = w' := by
  have hb := bit_and m n h1 (by omega)
  go_enter Try.func27, Try.ntmps27
  go_wp2
  go_ret
  exact ⟨rfl, rfl⟩

theorem sVector_any (v : Value) (xs : List Int) (w : World) (hr : Rd .i64 w v xs) : Calls Try.prog 25 #[v] w fun e w' => e = .returned (.bool (vecs xs)) ∧ w = w' := by
  rcases hr with ⟨rfl, rfl⟩ | ⟨g, off, cap, rfl, hl, hm, hc⟩
  · go_enter Try.func25, Try.ntmps25
    go_wp2
    refine wp_loop_rounds 1 ?_
    rw [rounds_succ]
    go_wp2
    go_ret
    exact ⟨rfl, rfl⟩
  · unfold maxLen at hm
    go_enter Try.func25, Try.ntmps25
    go_wp2
    go_loop [3] (fun i => ∃ k : Nat, k ≤ xs.length ∧ i = .int .i64 k ∧ vecs (xs.take k) = true) (fun i => xs.length - (intOf i).toNat)
    case atStart => exact ⟨0, Nat.zero_le _, rfl, rfl⟩
    case round =>
      obtain ⟨k, hk, rfl, hv⟩ := hrel
      by_cases hlt : k < xs.length
      · have hcell := hc k hlt
        have hT := take_succ_getD xs k hlt
        obtain ⟨x, hx⟩ : ∃ x, x = xs.getD k 0 := ⟨_, rfl⟩
        rw [← hx] at hcell hT
        have hs : vecs (xs.take (k + 1)) = (vecs (xs.take k) && inB x 0 4294967295) := by rw [hT]; simp [vecs]
        have HX := Lib.hid hx
        have HV := Lib.hid hv
        have HS := Lib.hid hs
        clear hT hs hv hx hc
        cases hb : inB x 0 4294967295
        · go_wp2_with (go_at_call 22; refine (l01In_any _ _ _ _).mono ?_; rintro e w' ⟨rfl, rfl⟩)
          go_ret
          have hfin : vecs xs = false := by
            have h1 : vecs (xs.take (k + 1)) = false := by rw [HS.out, hb]; simp
            cases hh : vecs xs
            · rfl
            · have : vecs (xs.take (k + 1)) = true := by
                simp only [vecs, List.all_eq_true] at hh ⊢
                exact fun y hy => hh y (List.mem_of_mem_take hy)
              rw [h1] at this; cases this
          exact ⟨by rw [hfin]; rfl, rfl⟩
        · go_wp2_with (go_at_call 22; refine (l01In_any _ _ _ _).mono ?_; rintro e w' ⟨rfl, rfl⟩)
          go_round
          case rel => exact ⟨k + 1, by omega, by go_num, by rw [HS.out, HV.out, hb]; rfl⟩
          case measure => simp [intOf]; omega
      · have : k = xs.length := by omega
        subst this
        have HV : vecs xs = true := by rw [← hv, List.take_length]
        have HV2 := Lib.hid HV
        clear hv HV hc
        go_wp2
        go_ret
        exact ⟨by rw [HV2.out]; rfl, rfl⟩
theorem hasMember_any (m n : Int) (w : World) : Calls Try.prog 21 #[.int .i64 m, .int .i64 n] w fun e w' => e = .returned (.bool (memB m n)) ∧ w = w' := by
  unfold memB
  cases h1 : inB m 0 4294967295
  rotate_left
  cases h2 : inB n 0 31
  rotate_left
  obtain ⟨b1, b2⟩ := inB_yes h1
  obtain ⟨b3, b4⟩ := inB_yes h2
  all_goals
    go_enter Try.func21, Try.ntmps21
    go_wp2_with (first | (go_at_call 24; refine (isVector_any _ _).mono ?_; rintro e w' ⟨rfl, rfl⟩) | (go_at_call 28; refine (isNode_any _ _).mono ?_; rintro e w' ⟨rfl, rfl⟩) | (go_at_call 29; refine (has_any _ _ _ (by omega) (by omega) (by omega) (by omega)).mono ?_; rintro e w' ⟨rfl, rfl⟩))
    go_ret
    exact ⟨rfl, rfl⟩
theorem rd_one (k : IntKind) (w : World) (x : Int) (E : TypeId) : Rd k (w.alloc (.cells #[.int k x] E)) (.slice (some ⟨w.heap.size, 0, none⟩) 1 1) [x] :=
  .inr ⟨w.heap.size, 0, 1, rfl, Nat.le_refl _, by decide, fun i hi => by
    have : i = 0 := by simp at hi; omega
    subst this
    simp⟩
theorem sHasMember_any (m n : Int) (w : World) : Calls Try.prog 20 #[.int .i64 m, .int .i64 n] w fun e w' => e = .returned (.bool (memB m n)) ∧ Below w.heap.size w w' := by
  have hv : vecs [m] = inB m 0 4294967295 := by simp [vecs]
  unfold memB
  cases h1 : inB m 0 4294967295
  rotate_left
  cases h2 : inB n 0 31
  rotate_left
  obtain ⟨b1, b2⟩ := inB_yes h1
  obtain ⟨b3, b4⟩ := inB_yes h2
  all_goals
    go_enter Try.func20, Try.ntmps20
    go_wp2_with (first | (go_at_call 25; refine (sVector_any _ [m] _ (rd_one _ _ _ _)).mono ?_; rintro e w' ⟨rfl, rfl⟩) | (go_at_call 26; refine (sNode_any _ _).mono ?_; rintro e w' ⟨rfl, rfl⟩) | (go_at_call 27; refine (sHas_any _ _ _ (by omega) (by omega) (by omega) (by omega)).mono ?_; rintro e w' ⟨rfl, rfl⟩))
    go_ret
    exact ⟨rfl, (Below.refl _ _).alloc (Nat.le_refl _) _⟩
end Go.Proofs.Ytcnoopbjeclekaa
