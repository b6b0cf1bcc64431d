/- Contracts: HasCrc (program and reference). -/
import Derived.Test.YtfbijmhmndkocaaCrcOps
import Derived.Test.YtfbijmhmndkocaaNumber
import Derived.Test.YtfbijmhmndkocaaRegI
import Derived.Test.YtfbijmhmndkocaaQuiet
namespace Go.Proofs.Ytfbijmhmndkocaa
open Go.RowKit
set_option linter.unusedVariables false
set_option linter.unusedSimpArgs false

/-- HasCrc's answer. -/
def hasC (wd po seed : Int) (xs : List Int) : Bool := if seedC wd po seed (isBitsB xs) = 0 ∧ wd ≤ (xs.length : Int) then decide (feedI wd po seed xs = 0) else false
set_option maxHeartbeats 2000000 in
theorem hasCrc_any (wd po seed : Int) (v : Value) (xs : List Int) (w : World) (hr : Rd .i64 w v xs) : Calls Try.prog 31 #[.agg #[.int .i64 wd, .int .i64 po], .int .i64 seed, v] w fun e w' => e = .returned (.bool (hasC wd po seed xs)) ∧ Below w.heap.size w w' := by
  have HB0 := Lib.hid ((Below.refl w.heap.size w).alloc (Nat.le_refl _) (.cells #[.int .i64 wd, .int .i64 po] 25))
  obtain ⟨a, cap, rfl, hl2, hm, hn, hc⟩ := id hr
  have HR : ∀ x : BW (w.heap.size + 1) (w.alloc (.cells #[.int .i64 wd, .int .i64 po] 25)), Hid (Rd .i64 x.w (.slice a xs.length cap) xs) := fun x => Lib.hid ((hr.below HB0.out).bw (by simp) x)
  have hk0 : ∀ x : BW (w.heap.size + 1) (w.alloc (.cells #[.int .i64 wd, .int .i64 po] 25)), x.w.cell? ⟨w.heap.size, 0, none⟩ = some (.int .i64 wd) := fun x => (box2 (by omega) x.h).1
  have hk1 : ∀ x : BW (w.heap.size + 1) (w.alloc (.cells #[.int .i64 wd, .int .i64 po] 25)), x.w.cell? ⟨w.heap.size, 1, none⟩ = some (.int .i64 po) := fun x => (box2 (by omega) x.h).2
  have hB1 : w.heap.size + 1 ≤ (w.alloc (.cells #[.int .i64 wd, .int .i64 po] 25)).heap.size := by simp
  have HB1 := Lib.hid hB1
  have HBX : ∀ x : BW (w.heap.size + 1) (w.alloc (.cells #[.int .i64 wd, .int .i64 po] 25)), Hid (Below w.heap.size w x.w) := fun x => Lib.hid (HB0.out.trans (x.h.mono (by omega)))
  obtain ⟨i0, hi, hz0, hz1, hz2⟩ := info_parts infoE
  unfold maxLen at hm
  clear hB1
  by_cases h0 : seedC wd po seed (isBitsB xs) = 0
  rotate_left
  · have hf : hasC wd po seed xs = false := by simp [hasC, h0]
    rw [hf]; clear hf
    have hne : (seedC wd po seed (isBitsB xs) != 0) = true := by simpa using h0
    clear h0 hc hn hm hr
    go_enter Try.func31, Try.ntmps31
    go_wp2
    refine wp_region_bw (w.heap.size + 1) (w.alloc (.cells #[.int .i64 wd, .int .i64 po] 25)) (Below.refl _ _) (by kernel_rfl) (by kernel_rfl) ?_
    repeat (first | go_big_quiet_step (first | (go_at_call 35; exact bw_same (isBits_any _ xs _ (HR _).out)) | (go_at_call 34; exact bw_of HB1.out (seedCode_any _ _ _ _ _))))
    refine wpQuiet_nil ?_
    rintro _ ⟨xw, rfl⟩
    go_wp2
    go_ret
    exact ⟨rfl, (HBX xw).out⟩
  obtain ⟨hcrc, hsd, hbt⟩ := seedC_ok h0
  obtain ⟨hsd1, hsd2⟩ := inB_yes hsd
  obtain ⟨hw1, hw2, hp1, hp2, _⟩ := crcB_yes hcrc
  obtain ⟨hq1, hq2⟩ := p2_crc hw1 hw2
  have hne : (seedC wd po seed (isBitsB xs) != 0) = false := by simp [h0]
  by_cases hlw : (xs.length : Int) < wd
  · have hf : hasC wd po seed xs = false := by unfold hasC; rw [if_neg]; omega
    rw [hf]; clear hf
    have hd : decide ((xs.length : Int) < wd) = true := decide_eq_true hlw
    clear h0 hcrc hsd hbt hr hc hn
    go_enter Try.func31, Try.ntmps31
    go_wp2
    refine wp_region_bw (w.heap.size + 1) (w.alloc (.cells #[.int .i64 wd, .int .i64 po] 25)) (Below.refl _ _) (by kernel_rfl) (by kernel_rfl) ?_
    repeat (first | go_big_quiet_step (first | (go_at_call 35; exact bw_same (isBits_any _ xs _ (HR _).out)) | (go_at_call 34; exact bw_of HB1.out (seedCode_any _ _ _ _ _))))
    refine wpQuiet_nil ?_
    rintro _ ⟨xw, rfl⟩
    go_wp2
    go_ret
    exact ⟨rfl, (HBX xw).out⟩
  · obtain ⟨hln0, hbt2⟩ := isBitsB_yes hbt
    obtain ⟨A, hA⟩ := Int.eq_ofNat_of_zero_le (show 0 ≤ (xs.length : Int) - wd by omega)
    have hbr := has_crc hcrc hsd1 (show seed < p2 wd by omega) hbt2 (by omega) A hA.symm
    have hf : hasC wd po seed xs = decide (feedI wd po seed (xs.take A) = numOf (xs.drop A)) := by
      unfold hasC; rw [if_pos ⟨h0, by omega⟩]; exact hbr.symm
    rw [hf]; clear hf hbr
    have hAw : IntKind.i64.wrap ((xs.length : Int) - wd) = (A : Int) := by rw [hA]; exact IntWalk.i64_in _ (by omega)
    obtain ⟨S, hS, hRS⟩ := part_to Try.underlying26 hi hz1 hl2 (by unfold maxLen; omega) hn hc A (by omega)
    obtain ⟨T, hT, hRT⟩ := part_from Try.underlying26 hi hz1 hl2 (by unfold maxLen; omega) hn hc A (by omega)
    obtain ⟨hb3, hb4⟩ := allIn_part hbt2 A
    have hlt : (xs.drop A).length ≤ 60 := by rw [List.length_drop]; omega
    obtain ⟨ys, hys⟩ : ∃ ys, ys = xs.take A := ⟨_, rfl⟩
    obtain ⟨zs, hzs⟩ : ∃ zs, zs = xs.drop A := ⟨_, rfl⟩
    rw [← hys] at hRS hb3 ⊢
    rw [← hzs] at hRT hb4 hlt ⊢
    have hd : decide ((xs.length : Int) < wd) = false := decide_eq_false hlw
    have HRS : ∀ {B : Nat} {w0 : World} (h : Below w.heap.size w w0) (x : BW B w0) (hB : w.heap.size ≤ B), Hid (Rd .i64 x.w S ys) := fun h x hB => Lib.hid (hRS.below (h.trans (x.h.mono hB)))
    have HRT : ∀ {B : Nat} {w0 : World} (h : Below w.heap.size w w0) (x : BW B w0) (hB : w.heap.size ≤ B), Hid (Rd .i64 x.w T zs) := fun h x hB => Lib.hid (hRT.below (h.trans (x.h.mono hB)))
    have HB3 := Lib.hid hb3
    have HB4 := Lib.hid hb4
    have HCR := Lib.hid hcrc
    have HLT := Lib.hid hlt
    have heq : (feedI wd po seed ys == numOf zs) = decide (feedI wd po seed ys = numOf zs) := rfl
    have HEQ := Lib.hid heq
    clear heq h0 hcrc hsd hbt hbt2 hr hc hn hRS hRT hb3 hb4 hys hzs hlt
    go_enter Try.func31, Try.ntmps31
    go_wp2
    refine wp_region_bw (w.heap.size + 1) (w.alloc (.cells #[.int .i64 wd, .int .i64 po] 25)) (Below.refl _ _) (by kernel_rfl) (by kernel_rfl) ?_
    repeat (first | go_big_quiet_step (first | (go_at_call 35; exact bw_same (isBits_any _ xs _ (HR _).out)) | (go_at_call 34; exact bw_of HB1.out (seedCode_any _ _ _ _ _))))
    refine wpQuiet_nil ?_
    rintro _ ⟨xw, rfl⟩
    go_wp2
    have hw5 : Below (w.heap.size + 1) (w.alloc (.cells #[.int .i64 wd, .int .i64 po] 25)) xw.w := xw.h
    refine wp_region_bw (w.heap.size + 1) (w.alloc (.cells #[.int .i64 wd, .int .i64 po] 25)) hw5 (by kernel_rfl) (by kernel_rfl) ?_
    clear hw5
    repeat (first | go_big_quiet_step (first | (go_at_call 36; exact bw_of HB1.out (feed_any _ ys _ _ _ _ (HRS HB0.out _ (by omega)).out HB3.out HCR.out hsd1 (by omega))) | (go_at_call 54; exact bw_same (numberOf_any _ zs _ (HRT HB0.out _ (by omega)).out HB4.out HLT.out))))
    refine wpQuiet_nil ?_
    rintro _ ⟨xv, rfl⟩
    go_wp2
    go_ret
    exact ⟨rfl, (HBX xv).out⟩
set_option maxHeartbeats 2000000 in
theorem sHasCrc_any (wd po seed : Int) (v : Value) (xs : List Int) (w : World) (hr : Rd .i64 w v xs) : Calls Try.prog 32 #[.agg #[.int .i64 wd, .int .i64 po], .int .i64 seed, v] w fun e w' => e = .returned (.bool (hasC wd po seed xs)) ∧ Below w.heap.size w w' := by
  have HB0 := Lib.hid ((Below.refl w.heap.size w).alloc (Nat.le_refl _) (.cells #[.int .i64 wd, .int .i64 po] 25))
  obtain ⟨a, cap, rfl, hl2, hm, hn, hc⟩ := id hr
  have HR := Lib.hid (hr.below HB0.out)
  clear hr hn hc
  by_cases h1 : seedC wd po seed true = 0
  rotate_left
  · have hf : hasC wd po seed xs = false := by
      have e : seedC wd po seed (isBitsB xs) = seedC wd po seed true := by
        unfold seedC at h1 ⊢
        cases h2 : crcB wd po
        · simp
        · cases h3 : inB seed 0 (p2 wd - 1)
          · simp
          · simp [h2, h3] at h1
      simp [hasC, e, h1]
    rw [hf]; clear hf
    have hne2 : (seedC wd po seed true != 0) = true := by simpa using h1
    clear h1
    go_enter Try.func32, Try.ntmps32
    go_wp2_with fail
    refine (l02Code_any _ _ _ _).mono ?_
    rintro e w1 ⟨rfl, hb⟩
    have HB := Lib.hid (HB0.out.trans (hb.mono (by simp)))
    clear hb
    go_wp2_with fail
    go_ret
    exact ⟨rfl, HB.out⟩
  obtain ⟨hcrc, hsd, _⟩ := seedC_ok h1
  cases h2 : isBitsB xs
  · have hf : hasC wd po seed xs = false := by simp [hasC, seedC, hcrc, hsd, h2]
    rw [hf]; clear hf
    have H1 := Lib.hid h1
    clear h1 hcrc hsd
    go_enter Try.func32, Try.ntmps32
    go_wp2_with fail
    refine (l02Code_any _ _ _ _).mono ?_
    rw [H1.out]
    rintro e w1 ⟨rfl, hb⟩
    have HR1 := Lib.hid (HR.out.below hb)
    have HB := Lib.hid (HB0.out.trans (hb.mono (by simp)))
    clear hb
    go_wp2_with fail
    refine (sIsBits_any _ xs _ HR1.out).mono ?_
    rintro e w' ⟨rfl, rfl⟩
    go_wp2_with fail
    go_ret
    exact ⟨rfl, HB.out⟩
  have hsc : seedC wd po seed (isBitsB xs) = 0 := by rw [h2]; exact h1
  by_cases hlw : (xs.length : Int) < wd
  · have hf : hasC wd po seed xs = false := by unfold hasC; rw [if_neg]; omega
    rw [hf]; clear hf
    have hd : decide ((xs.length : Int) < wd) = true := decide_eq_true hlw
    have H1 := Lib.hid h1
    clear h1 hcrc hsd hsc
    go_enter Try.func32, Try.ntmps32
    go_wp2_with fail
    refine (l02Code_any _ _ _ _).mono ?_
    rw [H1.out]
    rintro e w1 ⟨rfl, hb⟩
    have hc0 := hb.cell (p := ⟨w.heap.size, 0, none⟩) (by simp)
    have HR1 := Lib.hid (HR.out.below hb)
    have HB := Lib.hid (HB0.out.trans (hb.mono (by simp)))
    clear hb
    go_wp2_with fail
    refine (sIsBits_any _ xs _ HR1.out).mono ?_
    rintro e w' ⟨rfl, rfl⟩
    go_wp2_with fail
    go_ret
    exact ⟨rfl, HB.out⟩
  · have hf : hasC wd po seed xs = decide (feedI wd po seed xs = 0) := by unfold hasC; rw [if_pos ⟨hsc, by omega⟩]
    rw [hf]; clear hf
    have hfe : (feedI wd po seed xs == 0) = decide (feedI wd po seed xs = 0) := rfl
    obtain ⟨d, hd0⟩ : ∃ d, d = decide (feedI wd po seed xs = 0) := ⟨_, rfl⟩
    rw [← hd0] at hfe ⊢
    clear hd0
    have hd : decide ((xs.length : Int) < wd) = false := decide_eq_false hlw
    obtain ⟨hsd1, hsd2⟩ := inB_yes hsd
    have HCR := Lib.hid hcrc
    have HBT := Lib.hid (isBitsB_yes h2).2
    have H1 := Lib.hid h1
    clear h1 hcrc hsd hsc
    go_enter Try.func32, Try.ntmps32
    go_wp2_with fail
    refine (l02Code_any _ _ _ _).mono ?_
    rw [H1.out]
    rintro e w1 ⟨rfl, hb⟩
    have hc0 := hb.cell (p := ⟨w.heap.size, 0, none⟩) (by simp)
    have hc1 := hb.cell (p := ⟨w.heap.size, 1, none⟩) (by simp)
    have HR1 := Lib.hid (HR.out.below hb)
    have HB := Lib.hid (HB0.out.trans (hb.mono (by simp)))
    clear hb
    go_wp2_with fail
    refine (sIsBits_any _ xs _ HR1.out).mono ?_
    rintro e w' ⟨rfl, rfl⟩
    go_wp2_with fail
    refine (l02Feed_any _ xs _ _ _ _ HR1.out HBT.out HCR.out hsd1 (by omega)).mono ?_
    rintro e w2 ⟨rfl, hb2⟩
    have HB2 := Lib.hid (bthen HB.out hb2)
    clear hb2
    go_wp2_with fail
    go_ret
    exact ⟨by simp, HB2.out⟩
end Go.Proofs.Ytfbijmhmndkocaa
