/- Contracts: weightOf, IsFound (program and reference). -/
import Derived.Test.YtmlingcnbdpbmaaFndL
import Derived.Test.YtmlingcnbdpbmaaOnes
import Derived.Test.YtmlingcnbdpbmaaOrd
import Derived.Test.YtmlingcnbdpbmaaMiss
import Derived.Test.YtmlingcnbdpbmaaNumber
import Derived.Test.YtmlingcnbdpbmaaBurst
namespace Go.Proofs.Ytmlingcnbdpbmaa
open Go.RowKit
set_option linter.unusedVariables false
set_option linter.unusedSimpArgs false

set_option maxHeartbeats 400000 in
theorem weightOf_any (v : Value) (xs : List Int) (w : World) (hr : Rd .i64 w v xs) (hb : allIn xs 0 1 = true) (hl : xs.length ≤ 16777216) :
    Calls Try.prog 36 #[v] w fun e w' => e = .returned (.int .i64 (sumL xs)) ∧ w = w' := by
  obtain ⟨a, cap, rfl, hl2, hm, hn, hc⟩ := hr
  have HC := Lib.hid hc
  have HBT := Lib.hid hb
  clear hc hn hb
  go_enter Try.func36, Try.ntmps36
  go_wp2
  go_loop [3, 8] (fun s i => ∃ (k : Nat), k ≤ xs.length ∧ i = .int .i64 k ∧ s = .int .i64 (wtTo xs k)) (fun _ i => xs.length - (intOf i).toNat)
  case atStart => exact ⟨0, Nat.zero_le _, rfl, rfl⟩
  case round =>
    obtain ⟨k, hk, rfl, rfl⟩ := hrel
    by_cases hlt : k < xs.length
    · obtain ⟨b, off, rfl, hcell0⟩ := HC.out k hlt
      obtain ⟨hw1, hw2⟩ := wtTo_bound HBT.out k hk
      obtain ⟨hx1, hx2⟩ := allIn_at HBT.out k hlt
      have hs : wtTo xs (k + 1) = wtTo xs k + xs.getD k 0 := rfl
      obtain ⟨x, hx0⟩ : ∃ x, x = xs.getD k 0 := ⟨_, rfl⟩
      obtain ⟨g, hg0⟩ : ∃ g, g = wtTo xs k := ⟨_, rfl⟩
      rw [← hx0] at hcell0 hx1 hx2 hs
      rw [← hg0] at hw1 hw2 hs ⊢
      have HS := Lib.hid hs
      clear hx0 hg0 hs
      go_wp2
      go_round
      case rel => exact ⟨k + 1, by omega, by go_num, by rw [HS.out]⟩
      case measure => simp [intOf]; omega
    · have : k = xs.length := by omega
      subst this
      go_wp2
      go_ret
      exact ⟨rfl, rfl⟩
/-- IsFound's answer. -/
def foundA (wd po : Int) (xs : List Int) : Bool × Int := if crcB wd po = false then (false, 1) else if isBitsB xs = false then (false, 3) else if hasY xs 1 = false then (false, 3) else (foundB wd po xs, 0)
theorem burst_bound {xs : List Int} (hx : isBitsB xs = true) (hy : hasY xs 1 = true) : 1 ≤ (burst xs).2 ∧ (burst xs).2 ≤ xs.length := by
  obtain ⟨f, n, m, bs, q1, q2, q3, q4, q5, q6, q7, q8⟩ := burst_split hx hy
  have : xs.length = f + (bs.length + m) := by rw [q3]; simp
  omega
set_option maxHeartbeats 2000000 in
theorem isFound_any (wd po : Int) (v : Value) (xs : List Int) (w : World) (hr : Rd .i64 w v xs) (hs : xs.length ≤ 5000 ∨ hasY xs 1 = false) : Calls Try.prog 9 #[.agg #[.int .i64 wd, .int .i64 po], v] w fun e w' => e = .returned (.tuple #[.bool (foundA wd po xs).1, .int .i64 (foundA wd po xs).2]) ∧ Below w.heap.size w w' := by
  have HB0 := Lib.hid ((Below.refl w.heap.size w).alloc (Nat.le_refl _) (.cells #[.int .i64 wd, .int .i64 po] 25))
  have HR := Lib.hid (hr.below HB0.out)
  clear hr
  cases h1 : crcB wd po
  · have hf : foundA wd po xs = (false, 1) := by simp [foundA, h1]
    rw [hf]; clear hf hs
    go_enter Try.func9, Try.ntmps9
    go_wp2_with fail
    refine (isCrc_any _ _ _).mono ?_
    rintro e w1 ⟨rfl, hb⟩
    have HB := Lib.hid (HB0.out.trans (hb.mono (by simp)))
    clear hb
    go_wp2_with fail
    go_ret2
    exact ⟨rfl, HB.out⟩
  cases h2 : isBitsB xs
  · have hf : foundA wd po xs = (false, 3) := by simp [foundA, h1, h2]
    rw [hf]; clear hf hs
    go_enter Try.func9, Try.ntmps9
    go_wp2_with fail
    refine (isCrc_any _ _ _).mono ?_
    rintro e w1 ⟨rfl, hb⟩
    have HB := Lib.hid (HB0.out.trans (hb.mono (by simp)))
    have HR1 := Lib.hid (HR.out.below hb)
    clear hb
    go_wp2_with fail
    refine (isBits_any _ xs _ HR1.out).mono ?_
    rintro e w' ⟨rfl, rfl⟩
    go_wp2_with fail
    go_ret2
    exact ⟨rfl, HB.out⟩
  cases h3 : hasY xs 1
  · have hf : foundA wd po xs = (false, 3) := by simp [foundA, h1, h2, h3]
    rw [hf]; clear hf hs
    go_enter Try.func9, Try.ntmps9
    go_wp2_with fail
    refine (isCrc_any _ _ _).mono ?_
    rintro e w1 ⟨rfl, hb⟩
    have HB := Lib.hid (HB0.out.trans (hb.mono (by simp)))
    have HR1 := Lib.hid (HR.out.below hb)
    clear hb
    go_wp2_with fail
    refine (isBits_any _ xs _ HR1.out).mono ?_
    rintro e w' ⟨rfl, rfl⟩
    go_wp2_with fail
    refine (contains_any _ xs _ _ HR1.out).mono ?_
    rintro e w' ⟨rfl, rfl⟩
    go_wp2_with fail
    go_ret2
    exact ⟨rfl, HB.out⟩
  have hf : foundA wd po xs = (foundB wd po xs, 0) := by simp [foundA, h1, h2, h3]
  rw [hf]; clear hf
  have hsl : xs.length ≤ 5000 := by
    rcases hs with h | h
    · exact h
    · rw [h3] at h; exact absurd h (by decide)
  obtain ⟨hl1, hl2⟩ := burst_bound h2 h3
  have hev := evenB_pop h1
  obtain ⟨hc1, hc2, hc3, hc4, hc5⟩ := crcB_yes h1
  have hbt := (isBitsB_yes h2).2
  obtain ⟨hwb1, hwb2⟩ := wtTo_bound hbt xs.length (Nat.le_refl _)
  obtain ⟨P, rfl⟩ := Int.eq_ofNat_of_zero_le (show 0 ≤ po by omega)
  have hP : P < 16777216 := by have := p2_crc hc1 hc2; omega
  have hod : ordI wd (P : Int) ≤ 5001 ∧ 1 ≤ ordI wd (P : Int) := by rcases ordI_cases wd (P : Int) with ⟨k, e, a, b, _⟩ | ⟨e, _⟩ <;> omega
  have hp24 := popT_le 24 P
  rw [Int.toNat_natCast] at hev
  have hH : Hid (foundB wd (P : Int) xs = ((decide (sumL xs % 2 = 1) && evenB wd (P : Int)) || (decide ((burst xs).2 ≤ wd) || (decide (sumL xs = 2) && decide ((burst xs).2 - 1 < ordI wd (P : Int)))))) := Lib.hid rfl
  have hhas := Lib.hid h3
  have HBT := Lib.hid hbt
  have HCR := Lib.hid h1
  have HI2 := Lib.hid h2
  obtain ⟨od, hod0⟩ : ∃ x, x = ordI wd (P : Int) := ⟨_, rfl⟩
  obtain ⟨s, hs0⟩ : ∃ x, x = sumL xs := ⟨_, rfl⟩
  obtain ⟨B, hB0⟩ : ∃ x, x = burst xs := ⟨_, rfl⟩
  obtain ⟨q, hq0⟩ : ∃ x, x = popT 24 P := ⟨_, rfl⟩
  have hsw : wtTo xs xs.length = s := hs0.symm
  rw [hsw] at hwb1 hwb2
  rw [← hod0] at hod hH
  rw [← hs0, ← hB0, hev] at hH
  rw [← hB0] at hl1 hl2
  rw [← hq0] at hp24 hH
  have HOD := Lib.hid hod0
  have HSS := Lib.hid hs0
  have HBB := Lib.hid hB0
  have HQQ := Lib.hid hq0
  clear hod0 hs0 hB0 hq0 hsw hbt h1 h2 h3 hs hev hc4 hc5
  rw [hH.out]
  clear hH
  go_enter Try.func9, Try.ntmps9
  go_wp2_with fail
  refine (isCrc_any _ _ _).mono ?_
  rw [HCR.out]
  rintro e w1 ⟨rfl, hb⟩
  have hc0 := hb.cell (p := ⟨w.heap.size, 0, none⟩) (by simp)
  have hc1 := hb.cell (p := ⟨w.heap.size, 1, none⟩) (by simp)
  have HB := Lib.hid (HB0.out.trans (hb.mono (by simp)))
  have HR1 := Lib.hid (HR.out.below hb)
  have hz1 : w.heap.size < w1.heap.size := by
    have := hb.size
    simp only [World.size_alloc] at this
    omega
  clear hb
  go_wp2_with fail
  refine (isBits_any _ xs _ HR1.out).mono ?_
  rw [HI2.out]
  rintro e w' ⟨rfl, rfl⟩
  go_wp2_with fail
  refine (contains_any _ xs _ _ HR1.out).mono ?_
  rw [hhas.out]
  rintro e w' ⟨rfl, rfl⟩
  go_wp2_with fail
  refine (weightOf_any _ xs _ HR1.out HBT.out (by omega)).mono ?_
  rw [← HSS.out]
  rintro e w' ⟨rfl, rfl⟩
  go_wp2_with fail
  refine (burstOf_any _ xs _ HR1.out HBT.out hhas.out).mono ?_
  rw [← HBB.out]
  rintro e w' ⟨rfl, rfl⟩
  have hwu : IntKind.u64.wrap (P : Int) = (P : Int) := by rw [IntKind.wrap_u64]; omega
  go_wp2_with fail
  refine (ones_any P hP _).mono ?_
  rw [← HQQ.out]
  rintro e w' ⟨rfl, rfl⟩
  rcases (show s % 2 = 1 ∨ s % 2 = 0 by omega) with hs2 | hs2
  · rcases (show (q : Int) % 2 = 1 ∨ (q : Int) % 2 = 0 by omega) with hq2 | hq2
    · go_wp2_with fail
      go_ret2
      exact ⟨by simp [hs2, hq2], HB.out⟩
    · have hs3 : (s == 2) = false := by simp; omega
      by_cases hL : B.2 ≤ wd
      · go_wp2_with fail
        go_ret2
        exact ⟨by simp [hs2, hq2, hL], HB.out⟩
      · have hLd : decide (B.2 ≤ wd) = false := decide_eq_false hL
        go_wp2_with fail
        go_ret2
        exact ⟨by simp [hs2, hq2, hL]; omega, HB.out⟩
  · by_cases hL : B.2 ≤ wd
    · have hLd : decide (B.2 ≤ wd) = true := decide_eq_true hL
      go_wp2_with fail
      go_ret2
      exact ⟨by simp [hs2, hL], HB.out⟩
    have hLd : decide (B.2 ≤ wd) = false := decide_eq_false hL
    by_cases hs3 : s = 2
    rotate_left
    · have hs4 : (s == 2) = false := by simp [hs3]
      go_wp2_with fail
      go_ret2
      exact ⟨by simp [hs2, hL, hs3], HB.out⟩
    subst hs3
    obtain ⟨hod1, hod2⟩ := hod
    go_wp2_with fail
    refine (orderOf_any _ _ _ HCR.out).mono ?_
    rw [← HOD.out]
    rintro e w2 ⟨rfl, hb2⟩
    have HB2 := Lib.hid (bthen HB.out hb2)
    have d0 := hb2.cell (p := ⟨w.heap.size, 0, none⟩) hz1
    have d1 := hb2.cell (p := ⟨w.heap.size, 1, none⟩) hz1
    clear hb2
    by_cases ho : B.2 - 1 < od
    · have hod3 : decide (B.2 - 1 < od) = true := decide_eq_true ho
      go_wp2_with fail
      go_ret2
      exact ⟨by simp [hL, ho], HB2.out⟩
    have hod3 : decide (B.2 - 1 < od) = false := decide_eq_false ho
    have hod4 : decide (5000 < od) = false := decide_eq_false (by omega)
    go_wp2_with fail
    refine (orderOf_any _ _ _ HCR.out).mono ?_
    rw [← HOD.out]
    rintro e w3 ⟨rfl, hb3⟩
    have HB3 := Lib.hid (bthen HB2.out hb3)
    clear hb3
    go_wp2_with fail
    go_ret2
    exact ⟨by simp [hL, ho], HB3.out⟩
theorem burstUpto_all {xs : List Int} (h : hasY xs 1 = true) : burstUpto xs xs.length = burst xs := by
  have hl : firstTo xs 1 xs.length < xs.length := by simpa [hasY] using h
  unfold burstUpto burst
  rw [if_pos hl]
set_option maxHeartbeats 2000000 in
theorem sIsFound_any (wd po : Int) (v : Value) (xs : List Int) (w : World) (hr : Rd .i64 w v xs) (hs : xs.length ≤ 5000 ∨ hasY xs 1 = false) : Calls Try.prog 10 #[.agg #[.int .i64 wd, .int .i64 po], v] w fun e w' => e = .returned (.tuple #[.bool (foundA wd po xs).1, .int .i64 (foundA wd po xs).2]) ∧ Below w.heap.size w w' := by
  have HB0 := Lib.hid ((Below.refl w.heap.size w).alloc (Nat.le_refl _) (.cells #[.int .i64 wd, .int .i64 po] 25))
  have HR := Lib.hid (hr.below HB0.out)
  clear hr
  cases h1 : crcB wd po
  · have hf : foundA wd po xs = (false, 1) := by simp [foundA, h1]
    rw [hf]; clear hf hs
    go_enter Try.func10, Try.ntmps10
    go_wp2_with fail
    refine (sIsCrc_any _ _ _).mono ?_
    rintro e w1 ⟨rfl, hb⟩
    have HB := Lib.hid (HB0.out.trans (hb.mono (by simp)))
    clear hb
    go_wp2_with fail
    go_ret2
    exact ⟨rfl, HB.out⟩
  cases h2 : isBitsB xs
  · have hf : foundA wd po xs = (false, 3) := by simp [foundA, h1, h2]
    rw [hf]; clear hf hs
    go_enter Try.func10, Try.ntmps10
    go_wp2_with fail
    refine (sIsCrc_any _ _ _).mono ?_
    rintro e w1 ⟨rfl, hb⟩
    have HB := Lib.hid (HB0.out.trans (hb.mono (by simp)))
    have HR1 := Lib.hid (HR.out.below hb)
    clear hb
    go_wp2_with fail
    refine (sIsBits_any _ xs _ HR1.out).mono ?_
    rintro e w' ⟨rfl, rfl⟩
    go_wp2_with fail
    go_ret2
    exact ⟨rfl, HB.out⟩
  have hbt0 := (isBitsB_yes h2).2
  have hlnn : xs.length ≤ 16777216 := by have := (isBitsB_yes h2).1; omega
  have hwt := weight_has hbt0
  have HBT0 := Lib.hid hbt0
  clear hbt0
  cases h3 : hasY xs 1
  · have hw0 : wtTo xs xs.length = 0 := by
      rw [h3] at hwt
      have h := (wtTo_bound HBT0.out xs.length (Nat.le_refl _)).1
      have h2 : ¬ (wtTo xs xs.length > 0) := of_decide_eq_false hwt
      omega
    have HW0 := Lib.hid hw0
    clear hw0 hwt
    have hf : foundA wd po xs = (false, 3) := by simp [foundA, h1, h2, h3]
    rw [hf]; clear hf hs
    go_enter Try.func10, Try.ntmps10
    go_wp2_with fail
    refine (sIsCrc_any _ _ _).mono ?_
    rintro e w1 ⟨rfl, hb⟩
    have HB := Lib.hid (HB0.out.trans (hb.mono (by simp)))
    have HR1 := Lib.hid (HR.out.below hb)
    clear hb
    go_wp2_with fail
    refine (sIsBits_any _ xs _ HR1.out).mono ?_
    rintro e w' ⟨rfl, rfl⟩
    go_wp2_with fail
    refine (l03Weight_any _ xs _ HR1.out HBT0.out hlnn).mono ?_
    rw [HW0.out]
    rintro e w' ⟨rfl, rfl⟩
    go_wp2_with fail
    go_ret2
    exact ⟨rfl, HB.out⟩
  have hf : foundA wd po xs = (foundB wd po xs, 0) := by simp [foundA, h1, h2, h3]
  rw [hf]; clear hf
  have hsl : xs.length ≤ 5000 := by
    rcases hs with h | h
    · exact h
    · rw [h3] at h; exact absurd h (by decide)
  obtain ⟨hl1, hl2⟩ := burst_bound h2 h3
  obtain ⟨hc1, hc2, hc3, hc4, hc5⟩ := crcB_yes h1
  have hbt := HBT0.out
  obtain ⟨hwb1, hwb2⟩ := wtTo_bound hbt xs.length (Nat.le_refl _)
  have hod : ordI wd po ≤ 5001 ∧ 1 ≤ ordI wd po := by rcases ordI_cases wd po with ⟨k, e, a, b, _⟩ | ⟨e, _⟩ <;> omega
  have hP : po < 16777216 := by have := p2_crc hc1 hc2; omega
  have hql : (bitsOf po wd.toNat).length ≤ 24 := by rw [length_bitsOf]; omega
  have hqb := wtTo_bound (allIn_bitsOf po wd.toNat) _ (Nat.le_refl _)
  have hH : Hid (foundB wd po xs = ((decide (sumL xs % 2 = 1) && decide (sumL (bitsOf po wd.toNat) % 2 = 1)) || (decide ((burst xs).2 ≤ wd) || (decide (sumL xs = 2) && decide ((burst xs).2 - 1 < ordI wd po))))) := Lib.hid rfl
  have hhas := Lib.hid h3
  have HBT := Lib.hid hbt
  have HCR := Lib.hid h1
  have HI2 := Lib.hid h2
  obtain ⟨od, hod0⟩ : ∃ x, x = ordI wd po := ⟨_, rfl⟩
  obtain ⟨s, hs0⟩ : ∃ x, x = sumL xs := ⟨_, rfl⟩
  obtain ⟨B, hB0⟩ : ∃ x, x = burst xs := ⟨_, rfl⟩
  obtain ⟨bs, hbs0⟩ : ∃ x, x = bitsOf po wd.toNat := ⟨_, rfl⟩
  rw [← hbs0] at hql hqb hH
  obtain ⟨q, hq0⟩ : ∃ x, x = sumL bs := ⟨_, rfl⟩
  have hsw : wtTo xs xs.length = s := hs0.symm
  have hqw : wtTo bs bs.length = q := hq0.symm
  rw [hsw] at hwb1 hwb2
  rw [hqw] at hqb
  obtain ⟨hqb1, hqb2⟩ := hqb
  rw [← hod0] at hod hH
  rw [← hs0, ← hB0, ← hq0] at hH
  rw [← hB0] at hl1 hl2
  rw [hsw] at hwt
  have hwt2 : decide (0 < s) = true := hwt.trans h3
  have hwt3 : (s == 0) = false := by
    have := of_decide_eq_true hwt2
    simp; omega
  have hAB : allIn bs 0 1 = true := by rw [hbs0]; exact allIn_bitsOf _ _
  have HAB := Lib.hid hAB
  have hbl : bs.length ≤ 16777216 := by omega
  have HBL := Lib.hid hbl
  have HBS := Lib.hid hbs0
  have HOD := Lib.hid hod0
  have HSS := Lib.hid hsw
  have HBB := Lib.hid hB0
  have HQQ := Lib.hid hqw
  have hcw : 0 ≤ wd := by omega
  clear hod0 hs0 hB0 hq0 hsw hqw hbt h1 h2 h3 hs hc4 hc5 hbs0 hAB hbl hwt hwt2
  rw [hH.out]
  clear hH
  go_enter Try.func10, Try.ntmps10
  go_wp2_with fail
  refine (sIsCrc_any _ _ _).mono ?_
  rw [HCR.out]
  rintro e w1 ⟨rfl, hb⟩
  have hc0 := hb.cell (p := ⟨w.heap.size, 0, none⟩) (by simp)
  have hc1 := hb.cell (p := ⟨w.heap.size, 1, none⟩) (by simp)
  have HB := Lib.hid (HB0.out.trans (hb.mono (by simp)))
  have HR1 := Lib.hid (HR.out.below hb)
  have hz1 : w.heap.size < w1.heap.size := by
    have := hb.size
    simp only [World.size_alloc] at this
    omega
  clear hb
  go_wp2_with fail
  refine (sIsBits_any _ xs _ HR1.out).mono ?_
  rw [HI2.out]
  rintro e w' ⟨rfl, rfl⟩
  go_wp2_with fail
  refine (l03Weight_any _ xs _ HR1.out HBT.out hlnn).mono ?_
  rw [HSS.out]
  rintro e w' ⟨rfl, rfl⟩
  go_wp2_with fail
  refine (l03Weight_any _ xs _ HR1.out HBT.out hlnn).mono ?_
  rw [HSS.out]
  rintro e w' ⟨rfl, rfl⟩
  go_wp2_with fail
  refine (l03Burst_any _ xs _ HR1.out HBT.out (by omega)).mono ?_
  rw [burstUpto_all hhas.out, ← HBB.out]
  rintro e w' ⟨rfl, rfl⟩
  go_wp2_with fail
  refine (l01Append_any _ [] _ _ _ (Own.nil 2 _ 0).rd (by decide) (by omega) (by omega) hcw (by omega)).mono ?_
  rw [List.nil_append, ← HBS.out]
  rintro e w1b ⟨v1, rfl, hO1, hb1⟩
  replace HB := Lib.hid (bthen HB.out hb1)
  have b0 := hb1.cell (p := ⟨w.heap.size, 0, none⟩) hz1
  have b1 := hb1.cell (p := ⟨w.heap.size, 1, none⟩) hz1
  have hz1b : w.heap.size < w1b.heap.size := Nat.lt_of_lt_of_le hz1 hb1.size
  have HO1 := Lib.hid hO1.rd
  clear hb1 hO1
  go_wp2_with fail
  refine (l03Weight_any _ bs _ HO1.out HAB.out HBL.out).mono ?_
  rw [HQQ.out]
  rintro e w' ⟨rfl, rfl⟩
  rcases (show s % 2 = 1 ∨ s % 2 = 0 by omega) with hs2 | hs2
  · rcases (show q % 2 = 1 ∨ q % 2 = 0 by omega) with hq2 | hq2
    · go_wp2_with fail
      go_ret2
      exact ⟨by simp [hs2, hq2], HB.out⟩
    · have hs3 : (s == 2) = false := by simp; omega
      by_cases hL : B.2 ≤ wd
      · go_wp2_with fail
        go_ret2
        exact ⟨by simp [hs2, hq2, hL], HB.out⟩
      · have hLd : decide (B.2 ≤ wd) = false := decide_eq_false hL
        go_wp2_with fail
        go_ret2
        exact ⟨by simp [hs2, hq2, hL]; omega, HB.out⟩
  · by_cases hL : B.2 ≤ wd
    · have hLd : decide (B.2 ≤ wd) = true := decide_eq_true hL
      go_wp2_with fail
      go_ret2
      exact ⟨by simp [hs2, hL], HB.out⟩
    have hLd : decide (B.2 ≤ wd) = false := decide_eq_false hL
    by_cases hs3 : s = 2
    rotate_left
    · have hs4 : (s == 2) = false := by simp [hs3]
      go_wp2_with fail
      go_ret2
      exact ⟨by simp [hs2, hL, hs3], HB.out⟩
    subst hs3
    obtain ⟨hod1, hod2⟩ := hod
    go_wp2_with fail
    refine (l03Order_any _ _ _ HCR.out).mono ?_
    rw [← HOD.out]
    rintro e w2 ⟨rfl, hb2⟩
    have HB2 := Lib.hid (bthen HB.out hb2)
    clear hb2
    by_cases ho : B.2 - 1 < od
    · have hod3 : decide (B.2 - 1 < od) = true := decide_eq_true ho
      go_wp2_with fail
      go_ret2
      exact ⟨by simp [hL, ho], HB2.out⟩
    have hod3 : decide (B.2 - 1 < od) = false := decide_eq_false ho
    go_wp2_with fail
    go_ret2
    exact ⟨by simp [hL, ho], HB2.out⟩
end Go.Proofs.Ytmlingcnbdpbmaa
