/- Contracts: AppendCrc (program and reference). -/
import Derived.Test.YtfbijmhmndkocaaCrcOps
import Derived.Test.YtfbijmhmndkocaaNumber
import Derived.Deep.RegionHeld3
namespace Go.Proofs.Ytfbijmhmndkocaa
open Go.RowKit
set_option linter.unusedVariables false
set_option linter.unusedSimpArgs false

/-- AppendCrc's answer. -/
def appCrc (wd po seed : Int) (xs : List Int) : List Int × Int := if seedC wd po seed (isBitsB xs) = 0 then (if 8192 < (xs.length : Int) + wd then ([], 3) else (xs ++ bitsOf (feedI wd po seed xs) wd.toNat, 0)) else ([], seedC wd po seed (isBitsB xs))
theorem appCrc_len (wd po seed : Int) (xs : List Int) : (appCrc wd po seed xs).1.length ≤ 16384 := by
  unfold appCrc
  split
  · rename_i h
    obtain ⟨hcrc, _, _⟩ := seedC_ok h
    obtain ⟨hw1, hw2, _⟩ := crcB_yes hcrc
    split
    · simp
    · simp only [List.length_append, length_bitsOf]; omega
  · simp

set_option maxHeartbeats 2000000 in
theorem appendCrc_any (wd po seed : Int) (v : Value) (xs : List Int) (w : World) (hr : Rd .i64 w v xs) : Calls Try.prog 28 #[.agg #[.int .i64 wd, .int .i64 po], .int .i64 seed, v] w (OwnRes2 2 w (appCrc wd po seed xs).1 (appCrc wd po seed xs).2) := by
  have HB0 := Lib.hid ((Below.refl w.heap.size w).alloc (Nat.le_refl _) (.cells #[.int .i64 wd, .int .i64 po] 25))
  obtain ⟨a, cap, rfl, hl2, hm, hn, hc⟩ := id hr
  unfold maxLen at hm
  have hr2 : Rd .i64 (w.alloc (.cells #[.int .i64 wd, .int .i64 po] 25)).drew (.slice a xs.length cap) xs := (hr.below HB0.out).below ((Below.refl _ _).drew)
  have HR := Lib.hid hr2
  clear hr hr2 hn hc
  by_cases h0 : seedC wd po seed (isBitsB xs) = 0
  rotate_left
  · have hf : appCrc wd po seed xs = ([], seedC wd po seed (isBitsB xs)) := by simp [appCrc, h0]
    rw [hf]; clear hf
    have hne : (seedC wd po seed (isBitsB xs) != 0) = true := by simpa using h0
    clear h0
    go_enter Try.func28, Try.ntmps28
    go_wp2
    go_region_held3 (fun w' => w'.cell? ⟨w.heap.size, 0, none⟩ = some (.int .i64 wd) ∧ w'.cell? ⟨w.heap.size, 1, none⟩ = some (.int .i64 po)) (go_keep)
      ((first | (go_at_call 35; refine (isBits_any _ xs _ HR.out).mono ?_; rintro e w' ⟨rfl, rfl⟩) | (go_at_call 34; refine (seedCode_any _ _ _ _ _).mono ?_; rintro e w1 ⟨rfl, hb1⟩; have hc0 := hb1.cell (p := ⟨w.heap.size, 0, none⟩) (by simp); have hc1 := hb1.cell (p := ⟨w.heap.size, 1, none⟩) (by simp))))
    have HB1 := Lib.hid ((HB0.out.drew).trans (hb1.mono (by simp)))
    clear hb1
    go_wp2
    go_ret2
    exact ⟨_, rfl, Own.nil _ _ _, HB1.out⟩
  obtain ⟨hcrc, hsd, hbt⟩ := seedC_ok h0
  obtain ⟨hsd1, hsd2⟩ := inB_yes hsd
  obtain ⟨hw1, hw2, hp1, hp2, _⟩ := crcB_yes hcrc
  obtain ⟨hq1, hq2⟩ := p2_crc hw1 hw2
  have HCR := Lib.hid hcrc
  obtain ⟨hln0, hbt2⟩ := isBitsB_yes hbt
  have HBT := Lib.hid hbt2
  have hln : xs.length ≤ 4294967296 := by omega
  have hne : (seedC wd po seed (isBitsB xs) != 0) = false := by simp [h0]
  by_cases hbig : 8192 < (xs.length : Int) + wd
  · have hf : appCrc wd po seed xs = ([], 3) := by simp [appCrc, h0, hbig]
    rw [hf]; clear hf
    clear h0 hcrc hsd hbt hbt2
    go_enter Try.func28, Try.ntmps28
    go_wp2
    go_region_held3 (fun w' => w'.cell? ⟨w.heap.size, 0, none⟩ = some (.int .i64 wd) ∧ w'.cell? ⟨w.heap.size, 1, none⟩ = some (.int .i64 po)) (go_keep)
      ((first | (go_at_call 35; refine (isBits_any _ xs _ HR.out).mono ?_; rintro e w' ⟨rfl, rfl⟩) | (go_at_call 34; refine (seedCode_any _ _ _ _ _).mono ?_; rintro e w1 ⟨rfl, hb1⟩; have hc0 := hb1.cell (p := ⟨w.heap.size, 0, none⟩) (by simp); have hc1 := hb1.cell (p := ⟨w.heap.size, 1, none⟩) (by simp))))
    have HB1 := Lib.hid ((HB0.out.drew).trans (hb1.mono (by simp)))
    clear hb1
    go_wp2
    go_ret2
    exact ⟨_, rfl, Own.nil _ _ _, HB1.out⟩
  · have hf : appCrc wd po seed xs = (xs ++ bitsOf (feedI wd po seed xs) wd.toNat, 0) := by simp [appCrc, h0, hbig]
    rw [hf]; clear hf
    have HFR := Lib.hid (feedI_range hcrc hsd1 (show seed < p2 wd by omega) xs)
    clear h0 hcrc hsd hbt hbt2
    go_enter Try.func28, Try.ntmps28
    go_wp2
    go_region_held3 (fun w' => w'.cell? ⟨w.heap.size, 0, none⟩ = some (.int .i64 wd) ∧ w'.cell? ⟨w.heap.size, 1, none⟩ = some (.int .i64 po)) (go_keep)
      ((first | (go_at_call 35; refine (isBits_any _ xs _ HR.out).mono ?_; rintro e w' ⟨rfl, rfl⟩) | (go_at_call 34; refine (seedCode_any _ _ _ _ _).mono ?_; rintro e w1 ⟨rfl, hb1⟩; have hc0 := hb1.cell (p := ⟨w.heap.size, 0, none⟩) (by simp); have hc1 := hb1.cell (p := ⟨w.heap.size, 1, none⟩) (by simp))))
    have HR1 := Lib.hid (HR.out.below hb1)
    have hz1 := hb1.size
    simp only [World.size_alloc, World.size_drew] at hz1
    have HB1 := Lib.hid ((HB0.out.drew).trans (hb1.mono (by simp)))
    clear hb1
    have HR2 := Lib.hid (HR1.out.below ((Below.refl _ _).drew))
    go_wp2
    go_region_held3 (fun w' => w'.cell? ⟨w.heap.size, 0, none⟩ = some (.int .i64 wd) ∧ w'.cell? ⟨w.heap.size, 1, none⟩ = some (.int .i64 po)) (go_keep)
      ((first | (go_at_call 51; refine (clone_any _ xs _ HR2.out hln).mono ?_; rintro e w2 ⟨v2, rfl, hO2, hb2⟩; have HO2 := Lib.hid hO2; have hk0 := hb2.cell (p := ⟨w.heap.size, 0, none⟩) (by simp; omega); have hk1 := hb2.cell (p := ⟨w.heap.size, 1, none⟩) (by simp; omega); have hz2 := hb2.size; simp only [World.size_alloc, World.size_drew] at hz2; have HR3 := Lib.hid (HR2.out.below hb2)) | (go_at_call 36; refine (feed_any _ xs _ _ _ _ HR3.out HBT.out HCR.out hsd1 (by omega)).mono ?_; rintro e w3 ⟨rfl, hb3⟩; have hl0 := hb3.cell (p := ⟨w.heap.size, 0, none⟩) (by simp; omega); have hl1 := hb3.cell (p := ⟨w.heap.size, 1, none⟩) (by simp; omega); have HO3 := Lib.hid (HO2.out.below hb3); have hz3 := hb3.size) | (go_at_call 48; refine (appendNumber_any _ _ _ _ _ _ HO3.out hln (by simp only [World.size_alloc, World.size_drew]; omega) HFR.out.1 (by have := HFR.out.2; omega) (by omega) (by omega)).mono ?_; rintro e w4 ⟨v4, rfl, hO4, hb4⟩; have HO4 := Lib.hid hO4; have hm0 := hb4.cell (p := ⟨w.heap.size, 0, none⟩) (by simp; omega); have hm1 := hb4.cell (p := ⟨w.heap.size, 1, none⟩) (by simp; omega))))
    have HBx := Lib.hid ((HB1.out.drew).trans (hb2.mono (by simp; omega)))
    have HBy := Lib.hid (bthen HBx.out hb3)
    have HBz := Lib.hid (HBy.out.trans (hb4.mono (by simp; omega)))
    clear hb2 hb3 hb4
    go_wp2
    go_ret2
    exact ⟨_, rfl, HO4.out.mono (by simp; omega), HBz.out⟩
set_option maxHeartbeats 2000000 in
theorem sAppendCrc_any (wd po seed : Int) (v : Value) (xs : List Int) (w : World) (hr : Rd .i64 w v xs) : Calls Try.prog 29 #[.agg #[.int .i64 wd, .int .i64 po], .int .i64 seed, v] w (OwnRes2 2 w (appCrc wd po seed xs).1 (appCrc wd po seed xs).2) := by
  have HB0 := Lib.hid ((Below.refl w.heap.size w).alloc (Nat.le_refl _) (.cells #[.int .i64 wd, .int .i64 po] 25))
  obtain ⟨a, cap, rfl, hl2, hm, hn, hc⟩ := id hr
  unfold maxLen at hm
  have HR := Lib.hid (hr.below HB0.out)
  clear hr hn hc
  by_cases h0 : seedC wd po seed (isBitsB xs) = 0
  rotate_left
  · have hf : appCrc wd po seed xs = ([], seedC wd po seed (isBitsB xs)) := by simp [appCrc, h0]
    rw [hf]; clear hf
    have hcb : crcBits wd po seed xs = (0, seedC wd po seed (isBitsB xs)) := by simp [crcBits, h0]
    have HCB := Lib.hid hcb
    have hne : (seedC wd po seed (isBitsB xs) != 0) = true := by simpa using h0
    have hne2 : (seedC wd po seed (isBitsB xs) == 0) = false := by simpa using h0
    clear h0 hcb
    go_enter Try.func29, Try.ntmps29
    go_wp2_with fail
    refine (sCrcOfBits_any _ _ _ _ xs _ HR.out).mono ?_
    rw [HCB.out]
    rintro e w1 ⟨rfl, hb1⟩
    have HB1 := Lib.hid ((HB0.out).trans (hb1.mono (by simp)))
    clear hb1
    go_wp2_with fail
    go_ret2
    exact ⟨_, rfl, Own.nil _ _ _, HB1.out⟩
  obtain ⟨hcrc, hsd, hbt⟩ := seedC_ok h0
  obtain ⟨hsd1, hsd2⟩ := inB_yes hsd
  obtain ⟨hw1, hw2, hp1, hp2, _⟩ := crcB_yes hcrc
  obtain ⟨hq1, hq2⟩ := p2_crc hw1 hw2
  obtain ⟨hln0, hbt2⟩ := isBitsB_yes hbt
  have hln : xs.length ≤ 4294967296 := by omega
  have hcb : crcBits wd po seed xs = (feedI wd po seed xs, 0) := by simp [crcBits, h0]
  have HCB := Lib.hid hcb
  by_cases hbig : 8192 < (xs.length : Int) + wd
  · have hf : appCrc wd po seed xs = ([], 3) := by simp [appCrc, h0, hbig]
    rw [hf]; clear hf
    clear h0 hcrc hsd hbt hbt2 hcb
    go_enter Try.func29, Try.ntmps29
    go_wp2_with fail
    refine (sCrcOfBits_any _ _ _ _ xs _ HR.out).mono ?_
    rw [HCB.out]
    rintro e w1 ⟨rfl, hb1⟩
    have hc0 := hb1.cell (p := ⟨w.heap.size, 0, none⟩) (by simp)
    have HB1 := Lib.hid ((HB0.out).trans (hb1.mono (by simp)))
    clear hb1
    go_wp2_with fail
    go_ret2
    exact ⟨_, rfl, Own.nil _ _ _, HB1.out⟩
  · have hf : appCrc wd po seed xs = (xs ++ bitsOf (feedI wd po seed xs) wd.toNat, 0) := by simp [appCrc, h0, hbig]
    rw [hf]; clear hf
    have HFR := Lib.hid (feedI_range hcrc hsd1 (show seed < p2 wd by omega) xs)
    clear h0 hcrc hsd hbt hbt2 hcb
    go_enter Try.func29, Try.ntmps29
    go_wp2_with fail
    refine (sCrcOfBits_any _ _ _ _ xs _ HR.out).mono ?_
    rw [HCB.out]
    rintro e w1 ⟨rfl, hb1⟩
    have hc0 := hb1.cell (p := ⟨w.heap.size, 0, none⟩) (by simp)
    have HR1 := Lib.hid (HR.out.below hb1)
    have hz1 := hb1.size
    simp only [World.size_alloc] at hz1
    have HB1 := Lib.hid ((HB0.out).trans (hb1.mono (by simp)))
    clear hb1
    go_wp2_with fail
    refine (l01Append_any _ xs _ _ _ HR1.out hln HFR.out.1 (by have := HFR.out.2; omega) (by omega) (by omega)).mono ?_
    rintro e w2 ⟨v2, rfl, hO2, hb2⟩
    have HO2 := Lib.hid hO2
    have HB2 := Lib.hid (bthen HB1.out hb2)
    clear hO2 hb2
    go_wp2_with fail
    go_ret2
    exact ⟨_, rfl, HO2.out.mono (by omega), HB2.out⟩
end Go.Proofs.Ytfbijmhmndkocaa
