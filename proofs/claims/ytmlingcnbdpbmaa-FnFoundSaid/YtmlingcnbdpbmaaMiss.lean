/- Contracts: l03Weight, IsMissed (program and reference). -/
import Derived.Test.YtmlingcnbdpbmaaCrc
import Derived.Test.YtmlingcnbdpbmaaLists
import Derived.Test.YtmlingcnbdpbmaaFeed
import Derived.Test.YtmlingcnbdpbmaaBurst
namespace Go.Proofs.Ytmlingcnbdpbmaa
open Go.RowKit
set_option linter.unusedVariables false
set_option linter.unusedSimpArgs false

/-- The sum of the first k numbers. -/
def wtTo (xs : List Int) : Nat → Int
  | 0 => 0
  | k + 1 => wtTo xs k + xs.getD k 0
theorem wtTo_bound {xs : List Int} (h : allIn xs 0 1 = true) : ∀ k, k ≤ xs.length → 0 ≤ wtTo xs k ∧ wtTo xs k ≤ k := by
  intro k
  induction k with
  | zero => intro _; simp [wtTo]
  | succ k ih =>
    intro hk
    have h1 := ih (by omega)
    have h2 := allIn_at h k (by omega)
    simp only [wtTo]
    omega
theorem wtTo_zero {xs : List Int} (h : allIn xs 0 1 = true) : ∀ k, k ≤ xs.length → ((0 < wtTo xs k) ↔ ∃ j, j < k ∧ xs.getD j 0 = 1) := by
  intro k
  induction k with
  | zero => intro _; simp [wtTo]
  | succ k ih =>
    intro hk
    have h0 := wtTo_bound h k (by omega)
    have h1 := ih (by omega)
    have h2 := allIn_at h k (by omega)
    simp only [wtTo]
    constructor
    · intro hp
      by_cases hx : xs.getD k 0 = 1
      · exact ⟨k, by omega, hx⟩
      · obtain ⟨j, hj, hj1⟩ := h1.1 (by omega)
        exact ⟨j, by omega, hj1⟩
    · rintro ⟨j, hj, hj1⟩
      by_cases hjk : j = k
      · subst hjk; omega
      · have := h1.2 ⟨j, by omega, hj1⟩
        omega
theorem weight_has {xs : List Int} (h : allIn xs 0 1 = true) : decide (0 < wtTo xs xs.length) = hasY xs 1 := by
  unfold hasY
  apply decide_eq_decide.2
  rw [wtTo_zero h _ (Nat.le_refl _)]
  constructor
  · rintro ⟨j, hj, hj1⟩
    rcases Nat.lt_or_ge (firstTo xs 1 xs.length) xs.length with hl | hl
    · exact hl
    · exact absurd hj1 (firstTo_no (xs := xs) (y := 1) xs.length j (by omega))
  · intro hl
    exact ⟨_, hl, firstTo_is xs.length hl⟩
/-- IsMissed's answer. -/
def missB (wd po : Int) (xs : List Int) : Bool := crcB wd po && (isBitsB xs && (hasY xs 1 && decide (feedI wd po 0 xs = 0)))
set_option maxHeartbeats 400000 in
theorem l03Weight_any (v : Value) (xs : List Int) (w : World) (hr : Rd .i64 w v xs) (hb : allIn xs 0 1 = true) (hl : xs.length ≤ 16777216) :
    Calls Try.prog 42 #[v] w fun e w' => e = .returned (.int .i64 (wtTo xs xs.length)) ∧ w = w' := by
  obtain ⟨a, cap, rfl, hl2, hm, hn, hc⟩ := hr
  have HC := Lib.hid hc
  have HBT := Lib.hid hb
  clear hc hn hb
  go_enter Try.func42, Try.ntmps42
  go_wp2
  go_loop [3, 4] (fun s i => ∃ (k : Nat), k ≤ xs.length ∧ i = .int .i64 k ∧ s = .int .i64 (wtTo xs k)) (fun _ i => xs.length - (intOf i).toNat)
  case atStart => exact ⟨0, Nat.zero_le _, rfl, rfl⟩
  case round =>
    obtain ⟨k, hk, rfl, rfl⟩ := hrel
    by_cases hlt : k < xs.length
    · obtain ⟨b, off, rfl, hcell0⟩ := HC.out k hlt
      obtain ⟨hw1, hw2⟩ := wtTo_bound HBT.out k hk
      obtain ⟨hx1, hx2⟩ := allIn_at HBT.out k hlt
      have hs : wtTo xs (k + 1) = wtTo xs k + xs.getD k 0 := rfl
      obtain ⟨x, hx0⟩ : ∃ x, x = xs.getD k 0 := ⟨_, rfl⟩
      obtain ⟨g, hg0⟩ : ∃ g, g = wtTo xs k := ⟨_, rfl⟩
      rw [← hx0] at hcell0 hx1 hx2 hs
      rw [← hg0] at hw1 hw2 hs ⊢
      have HS := Lib.hid hs
      clear hx0 hg0 hs
      go_wp2
      go_round
      case rel => exact ⟨k + 1, by omega, by go_num, by rw [HS.out]⟩
      case measure => simp [intOf]; omega
    · have : k = xs.length := by omega
      subst this
      go_wp2
      go_ret
      exact ⟨rfl, rfl⟩
set_option maxHeartbeats 1000000 in
theorem isMissed_any (wd po : Int) (v : Value) (xs : List Int) (w : World) (hr : Rd .i64 w v xs) : Calls Try.prog 11 #[.agg #[.int .i64 wd, .int .i64 po], v] w fun e w' => e = .returned (.bool (missB wd po xs)) ∧ Below w.heap.size w w' := by
  have HB0 := Lib.hid ((Below.refl w.heap.size w).alloc (Nat.le_refl _) (.cells #[.int .i64 wd, .int .i64 po] 25))
  have HR := Lib.hid (hr.below HB0.out)
  clear hr
  unfold missB
  cases h1 : crcB wd po
  · go_enter Try.func11, Try.ntmps11
    go_wp2_with fail
    refine (isCrc_any _ _ _).mono ?_
    rintro e w1 ⟨rfl, hb⟩
    have HB := Lib.hid (HB0.out.trans (hb.mono (by simp)))
    clear hb
    go_wp2_with fail
    go_ret
    exact ⟨rfl, HB.out⟩
  cases h2 : isBitsB xs
  · go_enter Try.func11, Try.ntmps11
    go_wp2_with fail
    refine (isCrc_any _ _ _).mono ?_
    rintro e w1 ⟨rfl, hb⟩
    have HB := Lib.hid (HB0.out.trans (hb.mono (by simp)))
    have HR1 := Lib.hid (HR.out.below hb)
    clear hb
    go_wp2_with fail
    refine (isBits_any _ xs _ HR1.out).mono ?_
    rintro e w' ⟨rfl, rfl⟩
    go_wp2_with fail
    go_ret
    exact ⟨rfl, HB.out⟩
  cases h3 : hasY xs 1
  · go_enter Try.func11, Try.ntmps11
    go_wp2_with fail
    refine (isCrc_any _ _ _).mono ?_
    rintro e w1 ⟨rfl, hb⟩
    have HB := Lib.hid (HB0.out.trans (hb.mono (by simp)))
    have HR1 := Lib.hid (HR.out.below hb)
    clear hb
    go_wp2_with fail
    refine (isBits_any _ xs _ HR1.out).mono ?_
    rintro e w' ⟨rfl, rfl⟩
    go_wp2_with fail
    refine (contains_any _ xs _ _ HR1.out).mono ?_
    rintro e w' ⟨rfl, rfl⟩
    go_wp2_with fail
    go_ret
    exact ⟨rfl, HB.out⟩
  have HCR := Lib.hid h1
  have HBT := Lib.hid (isBitsB_yes h2).2
  have hp := p2_pos wd
  have hfe : (feedI wd po 0 xs == 0) = decide (feedI wd po 0 xs = 0) := rfl
  obtain ⟨d, hd⟩ : ∃ d, d = decide (feedI wd po 0 xs = 0) := ⟨_, rfl⟩
  rw [← hd] at hfe ⊢
  clear hd
  go_enter Try.func11, Try.ntmps11
  go_wp2_with fail
  refine (isCrc_any _ _ _).mono ?_
  rintro e w1 ⟨rfl, hb⟩
  have hc0 := hb.cell (p := ⟨w.heap.size, 0, none⟩) (by simp)
  have hc1 := hb.cell (p := ⟨w.heap.size, 1, none⟩) (by simp)
  have HB := Lib.hid (HB0.out.trans (hb.mono (by simp)))
  have HR1 := Lib.hid (HR.out.below hb)
  clear hb
  go_wp2_with fail
  refine (isBits_any _ xs _ HR1.out).mono ?_
  rintro e w' ⟨rfl, rfl⟩
  go_wp2_with fail
  refine (contains_any _ xs _ _ HR1.out).mono ?_
  rintro e w' ⟨rfl, rfl⟩
  go_wp2_with fail
  refine (feed_any _ xs _ _ _ _ HR1.out HBT.out HCR.out (by omega) (by omega)).mono ?_
  rintro e w2 ⟨rfl, hb2⟩
  have HB2 := Lib.hid (bthen HB.out hb2)
  clear hb2
  go_wp2_with fail
  go_ret
  exact ⟨by simp, HB2.out⟩
set_option maxHeartbeats 1000000 in
theorem sIsMissed_any (wd po : Int) (v : Value) (xs : List Int) (w : World) (hr : Rd .i64 w v xs) : Calls Try.prog 12 #[.agg #[.int .i64 wd, .int .i64 po], v] w fun e w' => e = .returned (.bool (missB wd po xs)) ∧ Below w.heap.size w w' := by
  have HB0 := Lib.hid ((Below.refl w.heap.size w).alloc (Nat.le_refl _) (.cells #[.int .i64 wd, .int .i64 po] 25))
  have HR := Lib.hid (hr.below HB0.out)
  clear hr
  unfold missB
  cases h1 : crcB wd po
  · go_enter Try.func12, Try.ntmps12
    go_wp2_with fail
    refine (sIsCrc_any _ _ _).mono ?_
    rintro e w1 ⟨rfl, hb⟩
    have HB := Lib.hid (HB0.out.trans (hb.mono (by simp)))
    clear hb
    go_wp2_with fail
    go_ret
    exact ⟨rfl, HB.out⟩
  cases h2 : isBitsB xs
  · go_enter Try.func12, Try.ntmps12
    go_wp2_with fail
    refine (sIsCrc_any _ _ _).mono ?_
    rintro e w1 ⟨rfl, hb⟩
    have HB := Lib.hid (HB0.out.trans (hb.mono (by simp)))
    have HR1 := Lib.hid (HR.out.below hb)
    clear hb
    go_wp2_with fail
    refine (sIsBits_any _ xs _ HR1.out).mono ?_
    rintro e w' ⟨rfl, rfl⟩
    go_wp2_with fail
    go_ret
    exact ⟨rfl, HB.out⟩
  obtain ⟨hln, hbt⟩ := isBitsB_yes h2
  have hwt := weight_has hbt
  obtain ⟨hwb1, hwb2⟩ := wtTo_bound hbt xs.length (Nat.le_refl _)
  have HBT := Lib.hid hbt
  have hlnn : xs.length ≤ 16777216 := by omega
  obtain ⟨g, hg⟩ : ∃ g, g = wtTo xs xs.length := ⟨_, rfl⟩
  rw [← hg] at hwt hwb1 hwb2
  have HG := Lib.hid hg
  clear hg hbt
  cases h3 : hasY xs 1
  · rw [h3] at hwt
    have hwt2 : decide (g > 0) = false := hwt
    go_enter Try.func12, Try.ntmps12
    go_wp2_with fail
    refine (sIsCrc_any _ _ _).mono ?_
    rintro e w1 ⟨rfl, hb⟩
    have HB := Lib.hid (HB0.out.trans (hb.mono (by simp)))
    have HR1 := Lib.hid (HR.out.below hb)
    clear hb
    go_wp2_with fail
    refine (sIsBits_any _ xs _ HR1.out).mono ?_
    rintro e w' ⟨rfl, rfl⟩
    go_wp2_with fail
    refine (l03Weight_any _ xs _ HR1.out HBT.out hlnn).mono ?_
    rw [← HG.out]
    rintro e w' ⟨rfl, rfl⟩
    go_wp2_with fail
    go_ret
    exact ⟨rfl, HB.out⟩
  rw [h3] at hwt
  have hwt2 : decide (g > 0) = true := hwt
  have HCR := Lib.hid h1
  have hp := p2_pos wd
  have hfe : (feedI wd po 0 xs == 0) = decide (feedI wd po 0 xs = 0) := rfl
  obtain ⟨d, hd⟩ : ∃ d, d = decide (feedI wd po 0 xs = 0) := ⟨_, rfl⟩
  rw [← hd] at hfe ⊢
  clear hd
  go_enter Try.func12, Try.ntmps12
  go_wp2_with fail
  refine (sIsCrc_any _ _ _).mono ?_
  rintro e w1 ⟨rfl, hb⟩
  have hc0 := hb.cell (p := ⟨w.heap.size, 0, none⟩) (by simp)
  have hc1 := hb.cell (p := ⟨w.heap.size, 1, none⟩) (by simp)
  have HB := Lib.hid (HB0.out.trans (hb.mono (by simp)))
  have HR1 := Lib.hid (HR.out.below hb)
  clear hb
  go_wp2_with fail
  refine (sIsBits_any _ xs _ HR1.out).mono ?_
  rintro e w' ⟨rfl, rfl⟩
  go_wp2_with fail
  refine (l03Weight_any _ xs _ HR1.out HBT.out hlnn).mono ?_
  rw [← HG.out]
  rintro e w' ⟨rfl, rfl⟩
  go_wp2_with fail
  refine (l02Feed_any _ xs _ _ _ _ HR1.out HBT.out HCR.out (by omega) (by omega)).mono ?_
  rintro e w2 ⟨rfl, hb2⟩
  have HB2 := Lib.hid (bthen HB.out hb2)
  clear hb2
  go_wp2_with fail
  go_ret
  exact ⟨by simp, HB2.out⟩
end Go.Proofs.Ytmlingcnbdpbmaa
