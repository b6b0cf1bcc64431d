/- Contracts: NumberAt, AppendNumber (program and reference). -/
import Derived.Test.YtmmgpgmjphjgnaaNumber
namespace Go.Proofs.Ytmmgpgmjphjgnaa
open Go.RowKit
set_option linter.unusedVariables false

/-- NumberAt's answer. -/
def numAt (xs : List Int) (lo n : Int) : Int × Int :=
  if isBitsB xs = false then (0, 1) else if inB n 0 40 = false then (0, 2) else if inB lo 0 ((xs.length : Int) - n) = false then (0, 2) else (numOf ((xs.drop lo.toNat).take n.toNat), 0)


set_option maxHeartbeats 400000 in
theorem numberAt_any (v : Value) (xs : List Int) (lo n : Int) (w : World) (hr : Rd .i64 w v xs) :
    Calls Try.prog 19 #[v, .int .i64 lo, .int .i64 n] w fun e w' => e = .returned (.tuple #[.int .i64 (numAt xs lo n).1, .int .i64 (numAt xs lo n).2]) ∧ w = w' := by
  have hr0 := hr
  obtain ⟨a, cap, rfl, hl2, hm, hn, hc⟩ := hr
  obtain ⟨i0, hi, hz0, hz1, hz2⟩ := info_parts infoE
  have HR := Lib.hid hr0
  have hm' := hm
  unfold maxLen at hm'
  cases h1 : isBitsB xs
  · have hf : numAt xs lo n = (0, 1) := by simp [numAt, h1]
    rw [hf]
    clear hr0 hc hn hf
    go_enter Try.func19, Try.ntmps19
    go_wp2_with (go_at_call 17; refine (isBits_any _ xs _ HR.out).mono ?_; rintro e w' ⟨rfl, rfl⟩)
    go_ret2
    exact ⟨rfl, rfl⟩
  · obtain ⟨hb1, hb2⟩ := isBitsB_yes h1
    cases h2 : inB n 0 40
    · have hf : numAt xs lo n = (0, 2) := by simp [numAt, h1, h2]
      rw [hf]
      clear hr0 hc hn hf
      go_enter Try.func19, Try.ntmps19
      go_wp2_with (first | (go_at_call 17; refine (isBits_any _ xs _ HR.out).mono ?_; rintro e w' ⟨rfl, rfl⟩) | (go_at_call 44; refine (within_any _ _ _ _).mono ?_; rintro e w' ⟨rfl, rfl⟩))
      go_ret2
      exact ⟨rfl, rfl⟩
    · obtain ⟨hn1, hn2⟩ := inB_yes h2
      cases h3 : inB lo 0 ((xs.length : Int) - n)
      · have hf : numAt xs lo n = (0, 2) := by simp [numAt, h1, h2, h3]
        rw [hf]
        clear hr0 hc hn hf
        go_enter Try.func19, Try.ntmps19
        go_wp2_with (first | (go_at_call 17; refine (isBits_any _ xs _ HR.out).mono ?_; rintro e w' ⟨rfl, rfl⟩) | (go_at_call 44; refine (within_any _ _ _ _).mono ?_; rintro e w' ⟨rfl, rfl⟩))
        go_ret2
        exact ⟨rfl, rfl⟩
      · obtain ⟨hl3, hl4⟩ := inB_yes h3
        have hf : numAt xs lo n = (numOf ((xs.drop lo.toNat).take n.toNat), 0) := by simp [numAt, h1, h2, h3]
        rw [hf]
        clear hf
        obtain ⟨N, rfl⟩ := Int.eq_ofNat_of_zero_le hn1
        obtain ⟨L, rfl⟩ := Int.eq_ofNat_of_zero_le hl3
        simp only [Int.toNat_natCast]
        obtain ⟨S, hS, hRS⟩ := part_of Try.underlying24 hi hz1 hl2 hm hn hc L N (by omega)
        have hbt : allIn ((xs.drop L).take N) 0 1 = true := allIn_take _ (allIn_drop _ hb2)
        have hlt : ((xs.drop L).take N).length ≤ 60 := by rw [List.length_take]; omega
        obtain ⟨ys, hys⟩ : ∃ ys, ys = (xs.drop L).take N := ⟨_, rfl⟩
        rw [← hys] at hRS hbt hlt ⊢
        have HRS := Lib.hid hRS
        have HBT := Lib.hid hbt
        have HLT := Lib.hid hlt
        clear hr0 hc hn hRS hbt hlt hys hm
        go_enter Try.func19, Try.ntmps19
        go_wp2_with (first | (go_at_call 17; refine (isBits_any _ xs _ HR.out).mono ?_; rintro e w' ⟨rfl, rfl⟩) | (go_at_call 44; refine (within_any _ _ _ _).mono ?_; rintro e w' ⟨rfl, rfl⟩) | (go_at_call 45; refine (numberOf_any _ ys _ HRS.out HBT.out HLT.out).mono ?_; rintro e w' ⟨rfl, rfl⟩))
        go_ret2
        exact ⟨rfl, rfl⟩
set_option maxHeartbeats 400000 in
theorem sNumberAt_any (v : Value) (xs : List Int) (lo n : Int) (w : World) (hr : Rd .i64 w v xs) :
    Calls Try.prog 20 #[v, .int .i64 lo, .int .i64 n] w fun e w' => e = .returned (.tuple #[.int .i64 (numAt xs lo n).1, .int .i64 (numAt xs lo n).2]) ∧ w = w' := by
  have hr0 := hr
  obtain ⟨a, cap, rfl, hl2, hm, hn, hc⟩ := hr
  have HR := Lib.hid hr0
  have hm' := hm
  unfold maxLen at hm'
  clear hr0 hc hn hm
  cases h1 : isBitsB xs
  · have hf : numAt xs lo n = (0, 1) := by simp [numAt, h1]
    rw [hf]
    clear hf
    go_enter Try.func20, Try.ntmps20
    go_wp2_with (go_at_call 15; refine (sIsBits_any _ xs _ HR.out).mono ?_; rintro e w' ⟨rfl, rfl⟩)
    go_ret2
    exact ⟨rfl, rfl⟩
  · obtain ⟨hb1, hb2⟩ := isBitsB_yes h1
    cases h2 : inB n 0 40
    · have hf : numAt xs lo n = (0, 2) := by simp [numAt, h1, h2]
      rw [hf]
      clear hf
      go_enter Try.func20, Try.ntmps20
      go_wp2_with (first | (go_at_call 15; refine (sIsBits_any _ xs _ HR.out).mono ?_; rintro e w' ⟨rfl, rfl⟩) | (go_at_call 46; refine (l01In_any _ _ _ _).mono ?_; rintro e w' ⟨rfl, rfl⟩))
      go_ret2
      exact ⟨rfl, rfl⟩
    · obtain ⟨hn1, hn2⟩ := inB_yes h2
      cases h3 : inB lo 0 ((xs.length : Int) - n)
      · have hf : numAt xs lo n = (0, 2) := by simp [numAt, h1, h2, h3]
        rw [hf]
        clear hf
        go_enter Try.func20, Try.ntmps20
        go_wp2_with (first | (go_at_call 15; refine (sIsBits_any _ xs _ HR.out).mono ?_; rintro e w' ⟨rfl, rfl⟩) | (go_at_call 46; refine (l01In_any _ _ _ _).mono ?_; rintro e w' ⟨rfl, rfl⟩))
        go_ret2
        exact ⟨rfl, rfl⟩
      · obtain ⟨hl3, hl4⟩ := inB_yes h3
        have hf : numAt xs lo n = (numOf ((xs.drop lo.toNat).take n.toNat), 0) := by simp [numAt, h1, h2, h3]
        rw [hf]
        clear hf
        obtain ⟨N, rfl⟩ := Int.eq_ofNat_of_zero_le hn1
        obtain ⟨L, rfl⟩ := Int.eq_ofNat_of_zero_le hl3
        simp only [Int.toNat_natCast]
        have HBT := Lib.hid hb2
        clear hb2
        go_enter Try.func20, Try.ntmps20
        go_wp2_with (first | (go_at_call 15; refine (sIsBits_any _ xs _ HR.out).mono ?_; rintro e w' ⟨rfl, rfl⟩) | (go_at_call 46; refine (l01In_any _ _ _ _).mono ?_; rintro e w' ⟨rfl, rfl⟩) | (go_at_call 47; refine (l01Number_any _ xs L N _ HR.out HBT.out (by omega) (by omega)).mono ?_; rintro e w' ⟨rfl, rfl⟩))
        go_ret2
        exact ⟨rfl, rfl⟩
end Go.Proofs.Ytmmgpgmjphjgnaa
