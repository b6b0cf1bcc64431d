/- Contracts: CrcOfBytes (program and reference). -/
import Derived.Test.YtfbijmhmndkocaaCrcOps
import Derived.Test.YtfbijmhmndkocaaBytes
import Derived.Deep.RegionHeld3
namespace Go.Proofs.Ytfbijmhmndkocaa
open Go.RowKit
set_option linter.unusedVariables false

/-- CrcOfBytes' answer. -/
def crcBytes (wd po seed : Int) (xs : List Int) : Int × Int := if seedC wd po seed (isBytesB xs) = 0 then (feedI wd po seed (bytesBits xs), 0) else (0, seedC wd po seed (isBytesB xs))

set_option maxHeartbeats 1000000 in
theorem crcOfBytes_any (wd po seed : Int) (v : Value) (xs : List Int) (w : World) (hr : Rd .i64 w v xs) : Calls Try.prog 19 #[.agg #[.int .i64 wd, .int .i64 po], .int .i64 seed, v] w fun e w' => e = .returned (.tuple #[.int .i64 (crcBytes wd po seed xs).1, .int .i64 (crcBytes wd po seed xs).2]) ∧ Below w.heap.size w w' := by
  have HB0 := Lib.hid ((Below.refl w.heap.size w).alloc (Nat.le_refl _) (.cells #[.int .i64 wd, .int .i64 po] 25))
  have hr2 : Rd .i64 (w.alloc (.cells #[.int .i64 wd, .int .i64 po] 25)).drew v xs := (hr.below HB0.out).below ((Below.refl _ _).drew)
  have HR := Lib.hid hr2
  clear hr hr2
  by_cases h0 : seedC wd po seed (isBytesB xs) = 0
  · have hf : crcBytes wd po seed xs = (feedI wd po seed (bytesBits xs), 0) := by simp [crcBytes, h0]
    rw [hf]; clear hf
    obtain ⟨hcrc, hsd, hbt⟩ := seedC_ok h0
    obtain ⟨hsd1, hsd2⟩ := inB_yes hsd
    have HCR := Lib.hid hcrc
    obtain ⟨hln0, hbt2⟩ := isBytesB_yes hbt
    have HBT := Lib.hid hbt2
    have hln : xs.length ≤ 16777216 := by omega
    clear hbt2
    have hne : (seedC wd po seed (isBytesB xs) != 0) = false := by simp [h0]
    clear h0 hcrc hsd hbt
    go_enter Try.func19, Try.ntmps19
    go_wp2
    go_region_held3 (fun w' => w'.cell? ⟨w.heap.size, 0, none⟩ = some (.int .i64 wd) ∧ w'.cell? ⟨w.heap.size, 1, none⟩ = some (.int .i64 po)) (go_keep)
      ((first | (go_at_call 44; refine (isBytes_any _ xs _ HR.out).mono ?_; rintro e w' ⟨rfl, rfl⟩) | (go_at_call 34; refine (seedCode_any _ _ _ _ _).mono ?_; rintro e w1 ⟨rfl, hb1⟩; have hc0 := hb1.cell (p := ⟨w.heap.size, 0, none⟩) (by simp); have hc1 := hb1.cell (p := ⟨w.heap.size, 1, none⟩) (by simp))))
    have HR1 := Lib.hid (HR.out.below hb1)
    have hz1 := hb1.size
    simp only [World.size_alloc, World.size_drew] at hz1
    have HB1 := Lib.hid ((HB0.out.drew).trans (hb1.mono (by simp)))
    clear hb1
    have HR2 := Lib.hid (HR1.out.below ((Below.refl _ _).drew))
    have HBA := Lib.hid (allIn_bytesBits xs)
    go_wp2
    go_region_held3 (fun w' => w'.cell? ⟨w.heap.size, 0, none⟩ = some (.int .i64 wd) ∧ w'.cell? ⟨w.heap.size, 1, none⟩ = some (.int .i64 po)) (go_keep)
      ((first | (go_at_call 45; refine (toBits_any _ xs _ HR2.out HBT.out hln).mono ?_; rintro e w2 ⟨v2, rfl, hO2, hb2⟩; have hk0 := hb2.cell (p := ⟨w.heap.size, 0, none⟩) (by simp; omega); have hk1 := hb2.cell (p := ⟨w.heap.size, 1, none⟩) (by simp; omega)) | (go_at_call 36; refine (feed_any _ (bytesBits xs) _ _ _ _ hO2.rd HBA.out HCR.out hsd1 (by omega)).mono ?_; rintro e w3 ⟨rfl, hb3⟩; have hl0 := hb3.cell (p := ⟨w.heap.size, 0, none⟩) (by have := hb2.size; simp at this ⊢; omega); have hl1 := hb3.cell (p := ⟨w.heap.size, 1, none⟩) (by have := hb2.size; simp at this ⊢; omega))))
    have HB2 := Lib.hid ((HB1.out.drew).trans (hb2.mono (by have := HB1.out.size; simp at this ⊢; omega)))
    have HB3 := Lib.hid (bthen HB2.out hb3)
    clear hb2 hb3 hO2
    go_wp2
    go_ret2
    exact ⟨rfl, HB3.out⟩
  · have hf : crcBytes wd po seed xs = (0, seedC wd po seed (isBytesB xs)) := by simp [crcBytes, h0]
    rw [hf]; clear hf
    have hne : (seedC wd po seed (isBytesB xs) != 0) = true := by simpa using h0
    clear h0
    go_enter Try.func19, Try.ntmps19
    go_wp2
    go_region_held3 (fun w' => w'.cell? ⟨w.heap.size, 0, none⟩ = some (.int .i64 wd) ∧ w'.cell? ⟨w.heap.size, 1, none⟩ = some (.int .i64 po)) (go_keep)
      ((first | (go_at_call 44; refine (isBytes_any _ xs _ HR.out).mono ?_; rintro e w' ⟨rfl, rfl⟩) | (go_at_call 34; refine (seedCode_any _ _ _ _ _).mono ?_; rintro e w1 ⟨rfl, hb1⟩; have hc0 := hb1.cell (p := ⟨w.heap.size, 0, none⟩) (by simp); have hc1 := hb1.cell (p := ⟨w.heap.size, 1, none⟩) (by simp))))
    have HB1 := Lib.hid ((HB0.out.drew).trans (hb1.mono (by simp)))
    clear hb1
    go_wp2
    go_ret2
    exact ⟨rfl, HB1.out⟩
set_option maxHeartbeats 1000000 in
theorem sCrcOfBytes_any (wd po seed : Int) (v : Value) (xs : List Int) (w : World) (hr : Rd .i64 w v xs) : Calls Try.prog 20 #[.agg #[.int .i64 wd, .int .i64 po], .int .i64 seed, v] w fun e w' => e = .returned (.tuple #[.int .i64 (crcBytes wd po seed xs).1, .int .i64 (crcBytes wd po seed xs).2]) ∧ Below w.heap.size w w' := by
  have HB0 := Lib.hid ((Below.refl w.heap.size w).alloc (Nat.le_refl _) (.cells #[.int .i64 wd, .int .i64 po] 25))
  have HR := Lib.hid (hr.below HB0.out)
  clear hr
  by_cases h1 : seedC wd po seed true = 0
  rotate_left
  · have hf : crcBytes wd po seed xs = (0, seedC wd po seed true) := by
      have e : seedC wd po seed (isBytesB xs) = seedC wd po seed true := by
        unfold seedC at h1 ⊢
        cases h2 : crcB wd po
        · simp
        · cases h3 : inB seed 0 (p2 wd - 1)
          · simp
          · simp [h2, h3] at h1
      simp [crcBytes, e, h1]
    rw [hf]; clear hf
    have hne : (seedC wd po seed true == 0) = false := by simpa using h1
    have hne2 : (seedC wd po seed true != 0) = true := by simpa using h1
    clear h1
    go_enter Try.func20, Try.ntmps20
    go_wp2_with fail
    refine (l02Code_any _ _ _ _).mono ?_
    rintro e w1 ⟨rfl, hb⟩
    have HB := Lib.hid (HB0.out.trans (hb.mono (by simp)))
    clear hb
    go_wp2_with fail
    go_ret2
    exact ⟨rfl, HB.out⟩
  obtain ⟨hcrc, hsd, _⟩ := seedC_ok h1
  cases h2 : isBytesB xs
  · have hf : crcBytes wd po seed xs = (0, 3) := by simp [crcBytes, seedC, hcrc, hsd, h2]
    rw [hf]; clear hf
    have hne : (seedC wd po seed true == 0) = true := by simpa using h1
    have H1 := Lib.hid h1
    clear h1 hcrc hsd
    go_enter Try.func20, Try.ntmps20
    go_wp2_with fail
    refine (l02Code_any _ _ _ _).mono ?_
    rw [H1.out]
    rintro e w1 ⟨rfl, hb⟩
    have HR1 := Lib.hid (HR.out.below hb)
    have HB := Lib.hid (HB0.out.trans (hb.mono (by simp)))
    clear hb
    go_wp2_with fail
    refine (sIsBytes_any _ xs _ HR1.out).mono ?_
    rintro e w' ⟨rfl, rfl⟩
    go_wp2_with fail
    go_ret2
    exact ⟨rfl, HB.out⟩
  · have hf : crcBytes wd po seed xs = (feedI wd po seed (bytesBits xs), 0) := by simp [crcBytes, seedC, hcrc, hsd, h2]
    rw [hf]; clear hf
    obtain ⟨hsd1, hsd2⟩ := inB_yes hsd
    have HCR := Lib.hid hcrc
    obtain ⟨hln0, hbt2⟩ := isBytesB_yes h2
    have HBT := Lib.hid hbt2
    have hln : xs.length ≤ 16777216 := by omega
    have HBA := Lib.hid (allIn_bytesBits xs)
    clear hbt2
    have H1 := Lib.hid h1
    clear h1 hcrc hsd
    go_enter Try.func20, Try.ntmps20
    go_wp2_with fail
    refine (l02Code_any _ _ _ _).mono ?_
    rw [H1.out]
    rintro e w1 ⟨rfl, hb⟩
    have hc0 := hb.cell (p := ⟨w.heap.size, 0, none⟩) (by simp)
    have hc1 := hb.cell (p := ⟨w.heap.size, 1, none⟩) (by simp)
    have HR1 := Lib.hid (HR.out.below hb)
    have HR2 := Lib.hid (HR1.out.below ((Below.refl _ _).drew))
    have HB := Lib.hid (HB0.out.trans (hb.mono (by simp)))
    have hz1 := hb.size
    simp only [World.size_alloc] at hz1
    clear hb
    go_wp2_with fail
    refine (sIsBytes_any _ xs _ HR1.out).mono ?_
    rintro e w' ⟨rfl, rfl⟩
    go_wp2_with fail
    go_region_held3 (fun w' => w'.cell? ⟨w.heap.size, 0, none⟩ = some (.int .i64 wd) ∧ w'.cell? ⟨w.heap.size, 1, none⟩ = some (.int .i64 po)) (go_keep)
      ((first | (go_at_call 47; refine (l01Bits_any _ xs _ HR2.out HBT.out hln).mono ?_; rintro e w2 ⟨v2, rfl, hO2, hb2⟩; have hk0 := hb2.cell (p := ⟨w.heap.size, 0, none⟩) (by simp; omega); have hk1 := hb2.cell (p := ⟨w.heap.size, 1, none⟩) (by simp; omega)) | (go_at_call 39; refine (l02Feed_any _ (bytesBits xs) _ _ _ _ hO2.rd HBA.out HCR.out hsd1 (by omega)).mono ?_; rintro e w3 ⟨rfl, hb3⟩; have hl0 := hb3.cell (p := ⟨w.heap.size, 0, none⟩) (by have := hb2.size; simp at this ⊢; omega); have hl1 := hb3.cell (p := ⟨w.heap.size, 1, none⟩) (by have := hb2.size; simp at this ⊢; omega))))
    have HB2 := Lib.hid ((HB.out.drew).trans (hb2.mono (by have := HB.out.size; simp at this ⊢; omega)))
    have HB3 := Lib.hid (bthen HB2.out hb3)
    clear hb2 hb3 hO2
    go_wp2
    go_ret2
    exact ⟨rfl, HB3.out⟩
end Go.Proofs.Ytfbijmhmndkocaa
