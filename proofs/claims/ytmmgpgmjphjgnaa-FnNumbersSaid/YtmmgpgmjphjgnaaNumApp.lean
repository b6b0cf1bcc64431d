/- Contracts: AppendNumber (program and reference). -/
import Derived.Test.YtmmgpgmjphjgnaaNumber
namespace Go.Proofs.Ytmmgpgmjphjgnaa
open Go.RowKit
set_option linter.unusedVariables false

/-- AppendNumber's answer. -/
def appNum (xs : List Int) (x n : Int) : List Int × Int :=
  if isBitsB xs = false then ([], 1) else if inB n 0 40 = false then ([], 2) else if inB x 0 (p2 n - 1) = false then ([], 2) else if 8192 < (xs.length : Int) + n then ([], 3) else (xs ++ bitsOf x n.toNat, 0)
theorem p2_40 {n : Int} (h1 : 0 ≤ n) (h2 : n ≤ 40) : 1 ≤ p2 n ∧ p2 n ≤ 1099511627776 := ⟨p2_pos n, p2_le (k := 40) h2 (by decide)⟩

theorem appNum_len (xs : List Int) (x n : Int) : (appNum xs x n).1.length ≤ 16384 := by
  unfold appNum
  split
  · simp
  · split
    · simp
    · split
      · simp
      · split
        · simp
        · rename_i h2 _ _
          have h3 := inB_yes (by simpa using h2 : inB n 0 40 = true)
          simp only [List.length_append, length_bitsOf]
          omega

set_option maxHeartbeats 1000000 in
theorem appendNumberX_any (v : Value) (xs : List Int) (x n : Int) (w : World) (hr : Rd .i64 w v xs) :
    Calls Try.prog 21 #[v, .int .i64 x, .int .i64 n] w (OwnRes2 2 w (appNum xs x n).1 (appNum xs x n).2) := by
  have hr0 := hr
  obtain ⟨a, cap, rfl, hl2, hm, hn, hc⟩ := hr
  have HR := Lib.hid hr0
  have hm' := hm
  unfold maxLen at hm'
  clear hr0 hc hn hm
  cases h1 : isBitsB xs
  · have hf : appNum xs x n = ([], 1) := by simp [appNum, h1]
    rw [hf]
    clear hf
    go_enter Try.func21, Try.ntmps21
    go_wp2_with (go_at_call 17; refine (isBits_any _ xs _ HR.out).mono ?_; rintro e w' ⟨rfl, rfl⟩)
    go_ret2
    exact ⟨_, rfl, Own.nil _ _ _, Below.refl _ _⟩
  · obtain ⟨hb1, hb2⟩ := isBitsB_yes h1
    cases h2 : inB n 0 40
    · have hf : appNum xs x n = ([], 2) := by simp [appNum, h1, h2]
      rw [hf]
      clear hf
      go_enter Try.func21, Try.ntmps21
      go_wp2_with (first | (go_at_call 17; refine (isBits_any _ xs _ HR.out).mono ?_; rintro e w' ⟨rfl, rfl⟩) | (go_at_call 44; refine (within_any _ _ _ _).mono ?_; rintro e w' ⟨rfl, rfl⟩))
      go_ret2
      exact ⟨_, rfl, Own.nil _ _ _, Below.refl _ _⟩
    · obtain ⟨hn1, hn2⟩ := inB_yes h2
      have hs1 := p2_wrap64 (n := n) (by omega)
      obtain ⟨hp1, hp2⟩ := p2_40 hn1 hn2
      cases h3 : inB x 0 (p2 n - 1)
      · have hf : appNum xs x n = ([], 2) := by simp [appNum, h1, h2, h3]
        rw [hf]
        clear hf
        go_enter Try.func21, Try.ntmps21
        go_wp2_with (first | (go_at_call 17; refine (isBits_any _ xs _ HR.out).mono ?_; rintro e w' ⟨rfl, rfl⟩) | (go_at_call 44; refine (within_any _ _ _ _).mono ?_; rintro e w' ⟨rfl, rfl⟩))
        go_ret2
        exact ⟨_, rfl, Own.nil _ _ _, Below.refl _ _⟩
      · obtain ⟨hx1, hx2⟩ := inB_yes h3
        by_cases h4 : 8192 < (xs.length : Int) + n
        · have hf : appNum xs x n = ([], 3) := by simp [appNum, h1, h2, h3, h4]
          rw [hf]
          clear hf
          go_enter Try.func21, Try.ntmps21
          go_wp2_with (first | (go_at_call 17; refine (isBits_any _ xs _ HR.out).mono ?_; rintro e w' ⟨rfl, rfl⟩) | (go_at_call 44; refine (within_any _ _ _ _).mono ?_; rintro e w' ⟨rfl, rfl⟩))
          go_ret2
          exact ⟨_, rfl, Own.nil _ _ _, Below.refl _ _⟩
        · have hf : appNum xs x n = (xs ++ bitsOf x n.toNat, 0) := by simp [appNum, h1, h2, h3, h4]
          rw [hf]
          clear hf
          go_enter Try.func21, Try.ntmps21
          go_wp2_with (first | (go_at_call 17; refine (isBits_any _ xs _ HR.out).mono ?_; rintro e w' ⟨rfl, rfl⟩) | (go_at_call 44; refine (within_any _ _ _ _).mono ?_; rintro e w' ⟨rfl, rfl⟩))
          refine (clone_any _ xs _ HR.out (by omega)).mono ?_
          rintro e w1 ⟨v1, rfl, hO1, hbl1⟩
          have HO1 := Lib.hid hO1
          have HB1 := Lib.hid hbl1
          have hz1 := hbl1.size
          clear hO1 hbl1
          go_wp2_with fail
          refine (appendNumber_any _ xs w.heap.size x n _ HO1.out (by omega) hz1 hx1 (by omega) hn1 (by omega)).mono ?_
          rintro e w2 ⟨v2, rfl, hO2, hbl2⟩
          have HO2 := Lib.hid hO2
          have HB2 := Lib.hid (HB1.out.trans hbl2)
          clear hO2 hbl2
          go_wp2_with fail
          go_ret2
          exact ⟨_, rfl, HO2.out, HB2.out⟩
set_option maxHeartbeats 1000000 in
theorem sAppendNumber_any (v : Value) (xs : List Int) (x n : Int) (w : World) (hr : Rd .i64 w v xs) :
    Calls Try.prog 23 #[v, .int .i64 x, .int .i64 n] w (OwnRes2 2 w (appNum xs x n).1 (appNum xs x n).2) := by
  have hr0 := hr
  obtain ⟨a, cap, rfl, hl2, hm, hn, hc⟩ := hr
  have HR := Lib.hid hr0
  have hm' := hm
  unfold maxLen at hm'
  clear hr0 hc hn hm
  cases h1 : isBitsB xs
  · have hf : appNum xs x n = ([], 1) := by simp [appNum, h1]
    rw [hf]
    clear hf
    go_enter Try.func23, Try.ntmps23
    go_wp2_with (go_at_call 15; refine (sIsBits_any _ xs _ HR.out).mono ?_; rintro e w' ⟨rfl, rfl⟩)
    go_ret2
    exact ⟨_, rfl, Own.nil _ _ _, Below.refl _ _⟩
  · obtain ⟨hb1, hb2⟩ := isBitsB_yes h1
    cases h2 : inB n 0 40
    · have hf : appNum xs x n = ([], 2) := by simp [appNum, h1, h2]
      rw [hf]
      clear hf
      go_enter Try.func23, Try.ntmps23
      go_wp2_with (first | (go_at_call 15; refine (sIsBits_any _ xs _ HR.out).mono ?_; rintro e w' ⟨rfl, rfl⟩) | (go_at_call 46; refine (l01In_any _ _ _ _).mono ?_; rintro e w' ⟨rfl, rfl⟩))
      go_ret2
      exact ⟨_, rfl, Own.nil _ _ _, Below.refl _ _⟩
    · obtain ⟨hn1, hn2⟩ := inB_yes h2
      have hs1 := p2_wrap64 (n := n) (by omega)
      obtain ⟨hp1, hp2⟩ := p2_40 hn1 hn2
      cases h3 : inB x 0 (p2 n - 1)
      · have hf : appNum xs x n = ([], 2) := by simp [appNum, h1, h2, h3]
        rw [hf]
        clear hf
        go_enter Try.func23, Try.ntmps23
        go_wp2_with (first | (go_at_call 15; refine (sIsBits_any _ xs _ HR.out).mono ?_; rintro e w' ⟨rfl, rfl⟩) | (go_at_call 46; refine (l01In_any _ _ _ _).mono ?_; rintro e w' ⟨rfl, rfl⟩))
        go_ret2
        exact ⟨_, rfl, Own.nil _ _ _, Below.refl _ _⟩
      · obtain ⟨hx1, hx2⟩ := inB_yes h3
        by_cases h4 : 8192 < (xs.length : Int) + n
        · have hf : appNum xs x n = ([], 3) := by simp [appNum, h1, h2, h3, h4]
          rw [hf]
          clear hf
          go_enter Try.func23, Try.ntmps23
          go_wp2_with (first | (go_at_call 15; refine (sIsBits_any _ xs _ HR.out).mono ?_; rintro e w' ⟨rfl, rfl⟩) | (go_at_call 46; refine (l01In_any _ _ _ _).mono ?_; rintro e w' ⟨rfl, rfl⟩))
          go_ret2
          exact ⟨_, rfl, Own.nil _ _ _, Below.refl _ _⟩
        · have hf : appNum xs x n = (xs ++ bitsOf x n.toNat, 0) := by simp [appNum, h1, h2, h3, h4]
          rw [hf]
          clear hf
          go_enter Try.func23, Try.ntmps23
          go_wp2_with (first | (go_at_call 15; refine (sIsBits_any _ xs _ HR.out).mono ?_; rintro e w' ⟨rfl, rfl⟩) | (go_at_call 46; refine (l01In_any _ _ _ _).mono ?_; rintro e w' ⟨rfl, rfl⟩))
          refine (l01Append_any _ xs x n _ HR.out (by omega) hx1 (by omega) hn1 (by omega)).mono ?_
          rintro e w1 ⟨v1, rfl, hO1, hbl1⟩
          have HO1 := Lib.hid hO1
          have HB1 := Lib.hid hbl1
          clear hO1 hbl1
          go_wp2_with fail
          go_ret2
          exact ⟨_, rfl, HO1.out, HB1.out⟩
end Go.Proofs.Ytmmgpgmjphjgnaa
