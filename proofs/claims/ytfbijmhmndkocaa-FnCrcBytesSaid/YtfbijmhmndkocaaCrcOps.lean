/- Contracts: seedCode, l02Code, CrcOfBits, SyndromeOf, SeedAfter (program and reference). -/
import Derived.Test.YtfbijmhmndkocaaLists
import Derived.Test.YtfbijmhmndkocaaCrc
import Derived.Test.YtfbijmhmndkocaaFeed
import Derived.Deep.RegionHeld3
namespace Go.Proofs.Ytfbijmhmndkocaa
open Go.RowKit
set_option linter.unusedVariables false

/-- The code for a Crc, a seed and whether a list is as told. -/
def seedC (wd po seed : Int) (fine : Bool) : Int := if crcB wd po = false then 1 else if inB seed 0 (p2 wd - 1) = false then 2 else if fine = false then 3 else 0
theorem seedC_ok {wd po seed : Int} {fine : Bool} (h : seedC wd po seed fine = 0) : crcB wd po = true ∧ inB seed 0 (p2 wd - 1) = true ∧ fine = true := by
  unfold seedC at h
  cases h1 : crcB wd po
  · simp [h1] at h
  · cases h2 : inB seed 0 (p2 wd - 1)
    · simp [h1, h2] at h
    · cases fine
      · simp [h1, h2] at h
      · exact ⟨rfl, rfl, rfl⟩
/-- CrcOfBits' answer. -/
def crcBits (wd po seed : Int) (xs : List Int) : Int × Int := if seedC wd po seed (isBitsB xs) = 0 then (feedI wd po seed xs, 0) else (0, seedC wd po seed (isBitsB xs))

set_option maxHeartbeats 400000 in
theorem seedCode_any (wd po seed : Int) (fine : Bool) (w : World) : Calls Try.prog 34 #[.agg #[.int .i64 wd, .int .i64 po], .int .i64 seed, .bool fine] w fun e w' => e = .returned (.int .i64 (seedC wd po seed fine)) ∧ Below w.heap.size w w' := by
  have HB0 := Lib.hid ((Below.refl w.heap.size w).alloc (Nat.le_refl _) (.cells #[.int .i64 wd, .int .i64 po] 25))
  cases h1 : crcB wd po
  · have hf : seedC wd po seed fine = 1 := by simp [seedC, h1]
    rw [hf]; clear hf
    go_enter Try.func34, Try.ntmps34
    go_wp2_with fail
    refine (isCrc_any _ _ _).mono ?_
    rintro e w1 ⟨rfl, hb⟩
    have HB := Lib.hid (HB0.out.trans (hb.mono (by simp)))
    clear hb
    go_wp2_with fail
    go_ret
    exact ⟨rfl, HB.out⟩
  obtain ⟨hw1, hw2, hp1, hp2, _⟩ := crcB_yes h1
  obtain ⟨hq1, hq2⟩ := p2_crc hw1 hw2
  have hs1 := p2_wrap64 (n := wd) (by omega)
  have hf : seedC wd po seed fine = if inB seed 0 (p2 wd - 1) = false then 2 else if fine = false then 3 else 0 := by simp [seedC, h1]
  rw [hf]; clear hf
  cases h2 : inB seed 0 (p2 wd - 1) <;> cases fine
  all_goals
    go_enter Try.func34, Try.ntmps34
    go_wp2_with fail
    refine (isCrc_any _ _ _).mono ?_
    rintro e w1 ⟨rfl, hb⟩
    have hc0 := hb.cell (p := ⟨w.heap.size, 0, none⟩) (by simp)
    have HB := Lib.hid (HB0.out.trans (hb.mono (by simp)))
    clear hb
    go_wp2_with (go_at_call 49; refine (within_any _ _ _ _).mono ?_; rintro e w' ⟨rfl, rfl⟩)
    go_ret
    exact ⟨rfl, HB.out⟩
set_option maxHeartbeats 400000 in
theorem l02Code_any (wd po seed : Int) (w : World) : Calls Try.prog 37 #[.agg #[.int .i64 wd, .int .i64 po], .int .i64 seed] w fun e w' => e = .returned (.int .i64 (seedC wd po seed true)) ∧ Below w.heap.size w w' := by
  have HB0 := Lib.hid ((Below.refl w.heap.size w).alloc (Nat.le_refl _) (.cells #[.int .i64 wd, .int .i64 po] 25))
  cases h1 : crcB wd po
  · have hf : seedC wd po seed true = 1 := by simp [seedC, h1]
    rw [hf]; clear hf
    go_enter Try.func37, Try.ntmps37
    go_wp2_with fail
    refine (sIsCrc_any _ _ _).mono ?_
    rintro e w1 ⟨rfl, hb⟩
    have HB := Lib.hid (HB0.out.trans (hb.mono (by simp)))
    clear hb
    go_wp2_with fail
    go_ret
    exact ⟨rfl, HB.out⟩
  obtain ⟨hw1, hw2, hp1, hp2, _⟩ := crcB_yes h1
  obtain ⟨hq1, hq2⟩ := p2_crc hw1 hw2
  have hs1 := p2_wrap64 (n := wd) (by omega)
  have hf : seedC wd po seed true = if inB seed 0 (p2 wd - 1) = false then 2 else 0 := by simp [seedC, h1]
  rw [hf]; clear hf
  cases h2 : inB seed 0 (p2 wd - 1)
  all_goals
    go_enter Try.func37, Try.ntmps37
    go_wp2_with fail
    refine (sIsCrc_any _ _ _).mono ?_
    rintro e w1 ⟨rfl, hb⟩
    have hc0 := hb.cell (p := ⟨w.heap.size, 0, none⟩) (by simp)
    have HB := Lib.hid (HB0.out.trans (hb.mono (by simp)))
    clear hb
    go_wp2_with (go_at_call 50; refine (l01In_any _ _ _ _).mono ?_; rintro e w' ⟨rfl, rfl⟩)
    go_ret
    exact ⟨rfl, HB.out⟩
set_option maxHeartbeats 1000000 in
theorem crcOfBits_any (wd po seed : Int) (v : Value) (xs : List Int) (w : World) (hr : Rd .i64 w v xs) : Calls Try.prog 11 #[.agg #[.int .i64 wd, .int .i64 po], .int .i64 seed, v] w fun e w' => e = .returned (.tuple #[.int .i64 (crcBits wd po seed xs).1, .int .i64 (crcBits wd po seed xs).2]) ∧ Below w.heap.size w w' := by
  have HB0 := Lib.hid ((Below.refl w.heap.size w).alloc (Nat.le_refl _) (.cells #[.int .i64 wd, .int .i64 po] 25))
  have hr2 : Rd .i64 (w.alloc (.cells #[.int .i64 wd, .int .i64 po] 25)).drew v xs := (hr.below HB0.out).below ((Below.refl _ _).drew)
  have HR := Lib.hid hr2
  clear hr hr2
  by_cases h0 : seedC wd po seed (isBitsB xs) = 0
  · have hf : crcBits wd po seed xs = (feedI wd po seed xs, 0) := by simp [crcBits, h0]
    rw [hf]; clear hf
    obtain ⟨hcrc, hsd, hbt⟩ := seedC_ok h0
    obtain ⟨hsd1, hsd2⟩ := inB_yes hsd
    have HCR := Lib.hid hcrc
    have HBT := Lib.hid (isBitsB_yes hbt).2
    have hne : (seedC wd po seed (isBitsB xs) != 0) = false := by simp [h0]
    clear h0 hcrc hsd hbt
    go_enter Try.func11, Try.ntmps11
    go_wp2
    go_region_held3 (fun w' => w'.cell? ⟨w.heap.size, 0, none⟩ = some (.int .i64 wd) ∧ w'.cell? ⟨w.heap.size, 1, none⟩ = some (.int .i64 po)) (go_keep)
      ((first | (go_at_call 35; refine (isBits_any _ xs _ HR.out).mono ?_; rintro e w' ⟨rfl, rfl⟩) | (go_at_call 34; refine (seedCode_any _ _ _ _ _).mono ?_; rintro e w1 ⟨rfl, hb1⟩; have hc0 := hb1.cell (p := ⟨w.heap.size, 0, none⟩) (by simp); have hc1 := hb1.cell (p := ⟨w.heap.size, 1, none⟩) (by simp))))
    have HR1 := Lib.hid (HR.out.below hb1)
    have HB1 := Lib.hid ((HB0.out.drew).trans (hb1.mono (by simp)))
    clear hb1
    go_wp2_with fail
    refine (feed_any _ xs _ _ _ _ HR1.out HBT.out HCR.out hsd1 (by omega)).mono ?_
    rintro e w2 ⟨rfl, hb2⟩
    have HB2 := Lib.hid (bthen HB1.out hb2)
    clear hb2
    go_wp2_with fail
    go_ret2
    exact ⟨rfl, HB2.out⟩
  · have hf : crcBits wd po seed xs = (0, seedC wd po seed (isBitsB xs)) := by simp [crcBits, h0]
    rw [hf]; clear hf
    have hne : (seedC wd po seed (isBitsB xs) != 0) = true := by simpa using h0
    clear h0
    go_enter Try.func11, Try.ntmps11
    go_wp2
    go_region_held3 (fun w' => w'.cell? ⟨w.heap.size, 0, none⟩ = some (.int .i64 wd) ∧ w'.cell? ⟨w.heap.size, 1, none⟩ = some (.int .i64 po)) (go_keep)
      ((first | (go_at_call 35; refine (isBits_any _ xs _ HR.out).mono ?_; rintro e w' ⟨rfl, rfl⟩) | (go_at_call 34; refine (seedCode_any _ _ _ _ _).mono ?_; rintro e w1 ⟨rfl, hb1⟩; have hc0 := hb1.cell (p := ⟨w.heap.size, 0, none⟩) (by simp); have hc1 := hb1.cell (p := ⟨w.heap.size, 1, none⟩) (by simp))))
    have HB1 := Lib.hid ((HB0.out.drew).trans (hb1.mono (by simp)))
    clear hb1
    go_wp2
    go_ret2
    exact ⟨rfl, HB1.out⟩
set_option maxHeartbeats 1000000 in
theorem sCrcOfBits_any (wd po seed : Int) (v : Value) (xs : List Int) (w : World) (hr : Rd .i64 w v xs) : Calls Try.prog 12 #[.agg #[.int .i64 wd, .int .i64 po], .int .i64 seed, v] w fun e w' => e = .returned (.tuple #[.int .i64 (crcBits wd po seed xs).1, .int .i64 (crcBits wd po seed xs).2]) ∧ Below w.heap.size w w' := by
  have HB0 := Lib.hid ((Below.refl w.heap.size w).alloc (Nat.le_refl _) (.cells #[.int .i64 wd, .int .i64 po] 25))
  have HR := Lib.hid (hr.below HB0.out)
  clear hr
  by_cases h1 : seedC wd po seed true = 0
  rotate_left
  · have hf : crcBits wd po seed xs = (0, seedC wd po seed true) := by
      have e : seedC wd po seed (isBitsB xs) = seedC wd po seed true := by
        unfold seedC at h1 ⊢
        cases h2 : crcB wd po
        · simp
        · cases h3 : inB seed 0 (p2 wd - 1)
          · simp
          · simp [h2, h3] at h1
      simp [crcBits, e, h1]
    rw [hf]; clear hf
    have hne : (seedC wd po seed true == 0) = false := by simpa using h1
    have hne2 : (seedC wd po seed true != 0) = true := by simpa using h1
    clear h1
    go_enter Try.func12, Try.ntmps12
    go_wp2_with fail
    refine (l02Code_any _ _ _ _).mono ?_
    rintro e w1 ⟨rfl, hb⟩
    have HB := Lib.hid (HB0.out.trans (hb.mono (by simp)))
    clear hb
    go_wp2_with fail
    go_ret2
    exact ⟨rfl, HB.out⟩
  obtain ⟨hcrc, hsd, _⟩ := seedC_ok h1
  cases h2 : isBitsB xs
  · have hf : crcBits wd po seed xs = (0, 3) := by simp [crcBits, seedC, hcrc, hsd, h2]
    rw [hf]; clear hf
    have hne : (seedC wd po seed true == 0) = true := by simpa using h1
    have H1 := Lib.hid h1
    clear h1 hcrc hsd
    go_enter Try.func12, Try.ntmps12
    go_wp2_with fail
    refine (l02Code_any _ _ _ _).mono ?_
    rw [H1.out]
    rintro e w1 ⟨rfl, hb⟩
    have HR1 := Lib.hid (HR.out.below hb)
    have HB := Lib.hid (HB0.out.trans (hb.mono (by simp)))
    clear hb
    go_wp2_with fail
    refine (sIsBits_any _ xs _ HR1.out).mono ?_
    rintro e w' ⟨rfl, rfl⟩
    go_wp2_with fail
    go_ret2
    exact ⟨rfl, HB.out⟩
  · have hf : crcBits wd po seed xs = (feedI wd po seed xs, 0) := by simp [crcBits, seedC, hcrc, hsd, h2]
    rw [hf]; clear hf
    obtain ⟨hsd1, hsd2⟩ := inB_yes hsd
    have HCR := Lib.hid hcrc
    have HBT := Lib.hid (isBitsB_yes h2).2
    have H1 := Lib.hid h1
    clear h1 hcrc hsd
    go_enter Try.func12, Try.ntmps12
    go_wp2_with fail
    refine (l02Code_any _ _ _ _).mono ?_
    rw [H1.out]
    rintro e w1 ⟨rfl, hb⟩
    have hc0 := hb.cell (p := ⟨w.heap.size, 0, none⟩) (by simp)
    have hc1 := hb.cell (p := ⟨w.heap.size, 1, none⟩) (by simp)
    have HR1 := Lib.hid (HR.out.below hb)
    have HB := Lib.hid (HB0.out.trans (hb.mono (by simp)))
    clear hb
    go_wp2_with fail
    refine (sIsBits_any _ xs _ HR1.out).mono ?_
    rintro e w' ⟨rfl, rfl⟩
    go_wp2_with fail
    refine (l02Feed_any _ xs _ _ _ _ HR1.out HBT.out HCR.out hsd1 (by omega)).mono ?_
    rintro e w2 ⟨rfl, hb2⟩
    have HB2 := Lib.hid (bthen HB.out hb2)
    clear hb2
    go_wp2_with fail
    go_ret2
    exact ⟨rfl, HB2.out⟩
theorem syndromeOf_any (wd po : Int) (v : Value) (xs : List Int) (w : World) (hr : Rd .i64 w v xs) : Calls Try.prog 16 #[.agg #[.int .i64 wd, .int .i64 po], v] w fun e w' => e = .returned (.tuple #[.int .i64 (crcBits wd po 0 xs).1, .int .i64 (crcBits wd po 0 xs).2]) ∧ Below w.heap.size w w' := by
  have HB0 := Lib.hid ((Below.refl w.heap.size w).alloc (Nat.le_refl _) (.cells #[.int .i64 wd, .int .i64 po] 25))
  have HR := Lib.hid (hr.below HB0.out)
  clear hr
  go_enter Try.func16, Try.ntmps16
  go_wp2_with fail
  refine (crcOfBits_any _ _ _ _ xs _ HR.out).mono ?_
  rintro e w1 ⟨rfl, hb⟩
  have HB := Lib.hid (HB0.out.trans (hb.mono (by simp)))
  clear hb
  go_wp2_with fail
  go_ret2
  exact ⟨rfl, HB.out⟩
theorem sSyndromeOf_any (wd po : Int) (v : Value) (xs : List Int) (w : World) (hr : Rd .i64 w v xs) : Calls Try.prog 17 #[.agg #[.int .i64 wd, .int .i64 po], v] w fun e w' => e = .returned (.tuple #[.int .i64 (crcBits wd po 0 xs).1, .int .i64 (crcBits wd po 0 xs).2]) ∧ Below w.heap.size w w' := by
  have HB0 := Lib.hid ((Below.refl w.heap.size w).alloc (Nat.le_refl _) (.cells #[.int .i64 wd, .int .i64 po] 25))
  have HR := Lib.hid (hr.below HB0.out)
  clear hr
  go_enter Try.func17, Try.ntmps17
  go_wp2_with fail
  refine (sCrcOfBits_any _ _ _ _ xs _ HR.out).mono ?_
  rintro e w1 ⟨rfl, hb⟩
  have HB := Lib.hid (HB0.out.trans (hb.mono (by simp)))
  clear hb
  go_wp2_with fail
  go_ret2
  exact ⟨rfl, HB.out⟩
theorem seedAfter_any (wd po seed : Int) (v : Value) (xs : List Int) (w : World) (hr : Rd .i64 w v xs) : Calls Try.prog 9 #[.agg #[.int .i64 wd, .int .i64 po], .int .i64 seed, v] w fun e w' => e = .returned (.tuple #[.int .i64 (crcBits wd po seed xs).1, .int .i64 (crcBits wd po seed xs).2]) ∧ Below w.heap.size w w' := by
  have HB0 := Lib.hid ((Below.refl w.heap.size w).alloc (Nat.le_refl _) (.cells #[.int .i64 wd, .int .i64 po] 25))
  have HR := Lib.hid (hr.below HB0.out)
  clear hr
  go_enter Try.func9, Try.ntmps9
  go_wp2_with fail
  refine (crcOfBits_any _ _ _ _ xs _ HR.out).mono ?_
  rintro e w1 ⟨rfl, hb⟩
  have HB := Lib.hid (HB0.out.trans (hb.mono (by simp)))
  clear hb
  go_wp2_with fail
  go_ret2
  exact ⟨rfl, HB.out⟩
theorem sSeedAfter_any (wd po seed : Int) (v : Value) (xs : List Int) (w : World) (hr : Rd .i64 w v xs) : Calls Try.prog 10 #[.agg #[.int .i64 wd, .int .i64 po], .int .i64 seed, v] w fun e w' => e = .returned (.tuple #[.int .i64 (crcBits wd po seed xs).1, .int .i64 (crcBits wd po seed xs).2]) ∧ Below w.heap.size w w' := by
  have HB0 := Lib.hid ((Below.refl w.heap.size w).alloc (Nat.le_refl _) (.cells #[.int .i64 wd, .int .i64 po] 25))
  have HR := Lib.hid (hr.below HB0.out)
  clear hr
  go_enter Try.func10, Try.ntmps10
  go_wp2_with fail
  refine (sCrcOfBits_any _ _ _ _ xs _ HR.out).mono ?_
  rintro e w1 ⟨rfl, hb⟩
  have HB := Lib.hid (HB0.out.trans (hb.mono (by simp)))
  clear hb
  go_wp2_with fail
  go_ret2
  exact ⟨rfl, HB.out⟩
end Go.Proofs.Ytfbijmhmndkocaa
