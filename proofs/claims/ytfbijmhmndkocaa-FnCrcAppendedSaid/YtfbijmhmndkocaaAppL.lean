/- Plain law: a list with its check number has it. No program in sight. -/
import Derived.Test.YtfbijmhmndkocaaCrcApp
import Derived.Test.YtfbijmhmndkocaaHas
import Derived.Test.YtfbijmhmndkocaaNumL
namespace Go.Proofs.Ytfbijmhmndkocaa
open Go.RowKit
set_option linter.unusedVariables false

theorem app_has {wd po seed : Int} {xs : List Int} (h : (appCrc wd po seed xs).2 = 0) : crcBits wd po seed (appCrc wd po seed xs).1 = (0, 0) ∧ hasC wd po seed (appCrc wd po seed xs).1 = true ∧ ((appCrc wd po seed xs).1.length : Int) = (xs.length : Int) + wd ∧ xs.length ≤ 8192 ∧ 3 ≤ wd ∧ wd ≤ 40 := by
  by_cases h0 : seedC wd po seed (isBitsB xs) = 0
  rotate_left
  · exfalso
    have e : appCrc wd po seed xs = ([], seedC wd po seed (isBitsB xs)) := by simp [appCrc, h0]
    rw [e] at h; exact h0 h
  by_cases hbig : 8192 < (xs.length : Int) + wd
  · exfalso
    have e : appCrc wd po seed xs = ([], 3) := by simp [appCrc, h0, hbig]
    rw [e] at h; simp at h
  have e : appCrc wd po seed xs = (xs ++ bitsOf (feedI wd po seed xs) wd.toNat, 0) := by simp [appCrc, h0, hbig]
  obtain ⟨hcrc, hsd, hbt⟩ := seedC_ok h0
  obtain ⟨hsd1, hsd2⟩ := inB_yes hsd
  obtain ⟨hw1, hw2, _⟩ := crcB_yes hcrc
  obtain ⟨hln, hall⟩ := isBitsB_yes hbt
  obtain ⟨W, rfl⟩ := Int.eq_ofNat_of_zero_le (show 0 ≤ wd by omega)
  have hf := feedI_range hcrc hsd1 (show seed < p2 (W : Int) by omega) xs
  have hall2 : allIn (xs ++ bitsOf (feedI W po seed xs) W) 0 1 = true := by rw [allIn_append, hall, allIn_bitsOf]; rfl
  have hb2 : isBitsB (xs ++ bitsOf (feedI W po seed xs) W) = true := isBitsB_mk (by simp only [List.length_append, length_bitsOf]; omega) hall2
  have hH := has_crc hcrc hsd1 (show seed < p2 (W : Int) by omega) hall2 (by simp only [List.length_append, length_bitsOf]; omega) xs.length (by simp only [List.length_append, length_bitsOf]; omega)
  rw [List.take_left, List.drop_left, numOf_bitsOf W _ hf.1 hf.2] at hH
  have hz : feedI W po seed (xs ++ bitsOf (feedI W po seed xs) W) = 0 := by simpa using hH.symm
  have hs : seedC W po seed (isBitsB (xs ++ bitsOf (feedI W po seed xs) W)) = 0 := by rw [hb2, ← hbt]; exact h0
  have e1 : (appCrc W po seed xs).1 = xs ++ bitsOf (feedI W po seed xs) W := by rw [e]; rfl
  rw [e1]
  refine ⟨by simp [crcBits, hs, hz], ?_, by simp only [List.length_append, length_bitsOf]; omega, hln, by omega, by omega⟩
  unfold hasC
  rw [if_pos ⟨hs, by simp only [List.length_append, length_bitsOf]; omega⟩, hz]; rfl
end Go.Proofs.Ytfbijmhmndkocaa
