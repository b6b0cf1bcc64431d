/- Contracts: CrcTable (program and reference). -/
import Derived.Test.YtfbijmhmndkocaaCrc
import Derived.Test.YtfbijmhmndkocaaFeed
import Derived.Test.YtfbijmhmndkocaaBytes
import Derived.Deep.RegionHeld3
namespace Go.Proofs.Ytfbijmhmndkocaa
open Go.RowKit
set_option linter.unusedVariables false
set_option linter.unusedSimpArgs false

/-- The first k entries of the table. -/
def tabTo (wd po : Int) (k : Nat) : List Int := (List.range k).map fun b : Nat => feedI wd po 0 (bitsOf (b : Int) 8)
theorem tabTo_succ (wd po : Int) (k : Nat) : tabTo wd po (k + 1) = tabTo wd po k ++ [feedI wd po 0 (bitsOf (k : Int) 8)] := by simp [tabTo, List.range_succ]
theorem length_tabTo (wd po : Int) (k : Nat) : (tabTo wd po k).length = k := by simp [tabTo]
/-- CrcTable's answer. -/
def crcTab (wd po : Int) : List Int × Int := if crcB wd po = false then ([], 1) else (tabTo wd po 256, 0)
theorem crcTab_len (wd po : Int) : (crcTab wd po).1.length ≤ 16384 := by
  unfold crcTab
  split
  · simp
  · simp only [length_tabTo]; omega
theorem rd_single (k : IntKind) (w : World) (x : Int) (E : TypeId) : Rd k (w.alloc (.cells #[.int k x] E)) (.slice (some ⟨w.heap.size, 0, none⟩) 1 1) [x] :=
  ⟨_, 1, rfl, Nat.le_refl _, by decide, (fun h => by cases h), fun i hi => ⟨w.heap.size, 0, rfl, by
    have : i = 0 := by simp at hi; omega
    subst this
    simp⟩⟩
set_option maxRecDepth 20000 in
set_option maxHeartbeats 2000000 in
theorem crcTable_any (wd po : Int) (w : World) : Calls Try.prog 21 #[.agg #[.int .i64 wd, .int .i64 po]] w (OwnRes2 2 w (crcTab wd po).1 (crcTab wd po).2) := by
  have HB0 := Lib.hid ((Below.refl w.heap.size w).alloc (Nat.le_refl _) (.cells #[.int .i64 wd, .int .i64 po] 25))
  cases h1 : crcB wd po
  · have hf : crcTab wd po = ([], 1) := by simp [crcTab, h1]
    rw [hf]; clear hf
    go_enter Try.func21, Try.ntmps21
    go_wp2_with fail
    refine (isCrc_any _ _ _).mono ?_
    rintro e w1 ⟨rfl, hb⟩
    have HB := Lib.hid (HB0.out.trans (hb.mono (by simp)))
    clear hb
    go_wp2_with fail
    go_ret2
    exact ⟨_, rfl, Own.nil _ _ _, HB.out⟩
  have hf : crcTab wd po = (tabTo wd po 256, 0) := by simp [crcTab, h1]
  rw [hf]; clear hf
  obtain ⟨T, hT⟩ : ∃ T, T = tabTo wd po 256 := ⟨_, rfl⟩
  rw [← hT]
  have HT := Lib.hid hT
  clear hT
  have HCR := Lib.hid h1
  obtain ⟨hw1, hw2, hp1, hp2, _⟩ := crcB_yes h1
  obtain ⟨hq1, hq2⟩ := p2_crc hw1 hw2
  obtain ⟨i0, hi, hz0, hz1, hz2⟩ := info_parts infoE
  go_enter Try.func21, Try.ntmps21
  go_wp2_with fail
  refine (isCrc_any _ _ _).mono ?_
  rintro e w1 ⟨rfl, hb⟩
  have hc0 := hb.cell (p := ⟨w.heap.size, 0, none⟩) (by simp)
  have hc1 := hb.cell (p := ⟨w.heap.size, 1, none⟩) (by simp)
  have HB := Lib.hid (HB0.out.trans (hb.mono (by simp)))
  have hz1 := hb.size
  simp only [World.size_alloc] at hz1
  clear hb
  have HM := Lib.hid (Own.made 2 w1 (w.heap.size + 1) (by omega))
  have HBM := Lib.hid (HB.out.alloc HB.out.size (.cells #[] 2))
  have hd0 : (w1.alloc (.cells #[] 2)).cell? ⟨w.heap.size, 0, none⟩ = some (.int .i64 wd) := ((((Below.refl w1.heap.size w1).alloc (Nat.le_refl _) (.cells #[] 2)).cell (p := ⟨w.heap.size, 0, none⟩) (show w.heap.size < w1.heap.size by omega)).trans (hc0.trans (by simp)))
  have hd1 : (w1.alloc (.cells #[] 2)).cell? ⟨w.heap.size, 1, none⟩ = some (.int .i64 po) := ((((Below.refl w1.heap.size w1).alloc (Nat.le_refl _) (.cells #[] 2)).cell (p := ⟨w.heap.size, 1, none⟩) (show w.heap.size < w1.heap.size by omega)).trans (hc1.trans (by simp)))
  go_wp2
  go_loopw [4, 5, 10] (fun u q i wr => ∃ (k : Nat) (v0 q0 : Value), k ≤ 256 ∧ v0 = u ∧ q0 = q ∧ i = .int .i64 k ∧ Own 2 wr (w.heap.size + 1) v0 (tabTo wd po k) ∧ Below w.heap.size w wr ∧ wr.cell? ⟨w.heap.size, 0, none⟩ = some (.int .i64 wd) ∧ wr.cell? ⟨w.heap.size, 1, none⟩ = some (.int .i64 po) ∧ w.heap.size < wr.heap.size) (fun _ _ i _ => 256 - (intOf i).toNat)
  case atStart => exact ⟨0, _, _, by decide, rfl, rfl, rfl, HM.out, HBM.out, hd0, hd1, by simp; omega⟩
  case round =>
    clear hd0 hd1 hc0 hc1 hz1
    obtain ⟨k, v0, q0, hk, rfl, rfl, rfl, hO, hbw, he0, he1, hsz⟩ := hrel
    by_cases hlt : k < 256
    · have HS := Lib.hid (tabTo_succ wd po k)
      have hlen := length_tabTo wd po k
      obtain ⟨D, hD⟩ : ∃ D, D = tabTo wd po k := ⟨_, rfl⟩
      rw [← hD] at hO hlen
      have HD := Lib.hid hD
      have HLN := Lib.hid hlen
      have HO := Lib.hid hO
      have HBW := Lib.hid hbw
      have HBT := Lib.hid (show allIn ([] ++ bitsOf (k : Int) (8 : Int).toNat) 0 1 = true from allIn_bitsOf _ _)
      clear hO hbw hlen hD
      go_wp2
      go_region_held3 (fun w' => w'.cell? ⟨w.heap.size, 0, none⟩ = some (.int .i64 wd) ∧ w'.cell? ⟨w.heap.size, 1, none⟩ = some (.int .i64 po)) (go_keep)
        ((first | (go_at_call 48; refine (appendNumber_any _ [] wr.heap.size (k : Int) 8 wr.drew (Own.nil _ _ _) (by decide) (Nat.le_refl _) (by omega) (by omega) (by decide) (by decide)).mono ?_; rintro e w2 ⟨v2, rfl, hO2, hb2⟩; have HO2 := Lib.hid hO2; have hk0 := hb2.cell (p := ⟨w.heap.size, 0, none⟩) (by simp; omega); have hk1 := hb2.cell (p := ⟨w.heap.size, 1, none⟩) (by simp; omega); have hy2 := hb2.size; simp only [World.size_alloc, World.size_drew] at hy2) | (go_at_call 36; refine (feed_any _ ([] ++ bitsOf (k : Int) (8 : Int).toNat) wd po 0 _ HO2.out.rd HBT.out HCR.out (by decide) (by omega)).mono ?_; rintro e w3 ⟨rfl, hb3⟩; have hl0 := hb3.cell (p := ⟨w.heap.size, 0, none⟩) (by simp; omega); have hl1 := hb3.cell (p := ⟨w.heap.size, 1, none⟩) (by simp; omega); have hy3 := hb3.size; have HB3 := Lib.hid (((HBW.out.drew).trans (hb2.mono HBW.out.size)).trans (hb3.mono (by omega))); have HO3 := Lib.hid (((HO.out.drew).below hb2).below hb3) ; have HOA : ∀ o, Hid (Own 2 (w3.alloc o) (w.heap.size + 1) v0 D) := (fun o => HO3.out.alloc o); have HBA : ∀ o, Hid (Below w.heap.size w (w3.alloc o)) := (fun o => HB3.out.alloc HB3.out.size o)) | (refine step_app1 Try.underlying26 hi hz0 hz1 hz2 rfl _ _ rfl _ w3.heap.size (feedI wd po 0 ([] ++ bitsOf (k : Int) (8 : Int).toNat)) (w.heap.size + 1) v0 D rfl rfl (by simp) (HOA _).out (by have := HLN.out; omega) (by simp; omega) ?_; intro v4 w4 hO4 hb4; have HO4 := Lib.hid hO4; have HB4 := Lib.hid ((HBA _).out.trans (hb4.mono (by omega))); have hm0 := hb4.cell (p := ⟨w.heap.size, 0, none⟩) (by simp); have hm1 := hb4.cell (p := ⟨w.heap.size, 1, none⟩) (by simp); have hy4 := hb4.size; simp only [World.size_alloc] at hy4)))
      have HCX : Hid (w4.cell? ⟨w.heap.size, 0, none⟩ = some (.int .i64 wd)) := by
        show w4.cell? ⟨w.heap.size, 0, none⟩ = some (.int .i64 wd)
        first | assumption | (simp_all; done)
      have HCY : Hid (w4.cell? ⟨w.heap.size, 1, none⟩ = some (.int .i64 po)) := by
        show w4.cell? ⟨w.heap.size, 1, none⟩ = some (.int .i64 po)
        first | assumption | (simp_all; done)
      clear hb2 hb3 hb4 hO2 hO4 HOA HBA
      have HO5 : Hid (Own 2 w4 (w.heap.size + 1) v4 (tabTo wd po (k + 1))) := by
        show Own 2 w4 (w.heap.size + 1) v4 (tabTo wd po (k + 1))
        rw [HS.out, ← HD.out]; exact HO4.out
      go_wp2
      go_roundw
      case rel => exact ⟨k + 1, v4, _, by omega, rfl, rfl, by go_num, HO5.out, HB4.out, HCX.out, HCY.out, by omega⟩
      case measure => simp [intOf]; omega
    · have : k = 256 := by omega
      subst this
      rw [← HT.out] at hO
      have HO := Lib.hid hO
      have HBW := Lib.hid hbw
      clear hO hbw
      go_wp2
      go_ret2
      exact ⟨_, rfl, HO.out.mono (by omega), HBW.out⟩
set_option maxRecDepth 20000 in
set_option maxHeartbeats 2000000 in
theorem sCrcTable_any (wd po : Int) (w : World) : Calls Try.prog 22 #[.agg #[.int .i64 wd, .int .i64 po]] w (OwnRes2 2 w (crcTab wd po).1 (crcTab wd po).2) := by
  have HB0 := Lib.hid ((Below.refl w.heap.size w).alloc (Nat.le_refl _) (.cells #[.int .i64 wd, .int .i64 po] 25))
  cases h1 : crcB wd po
  · have hf : crcTab wd po = ([], 1) := by simp [crcTab, h1]
    rw [hf]; clear hf
    go_enter Try.func22, Try.ntmps22
    go_wp2_with fail
    refine (sIsCrc_any _ _ _).mono ?_
    rintro e w1 ⟨rfl, hb⟩
    have HB := Lib.hid (HB0.out.trans (hb.mono (by simp)))
    clear hb
    go_wp2_with fail
    go_ret2
    exact ⟨_, rfl, Own.nil _ _ _, HB.out⟩
  have hf : crcTab wd po = (tabTo wd po 256, 0) := by simp [crcTab, h1]
  rw [hf]; clear hf
  obtain ⟨T, hT⟩ : ∃ T, T = tabTo wd po 256 := ⟨_, rfl⟩
  rw [← hT]
  have HT := Lib.hid hT
  clear hT
  have HCR := Lib.hid h1
  obtain ⟨hw1, hw2, hp1, hp2, _⟩ := crcB_yes h1
  obtain ⟨hq1, hq2⟩ := p2_crc hw1 hw2
  obtain ⟨i0, hi, hz0, hz1, hz2⟩ := info_parts infoE
  go_enter Try.func22, Try.ntmps22
  go_wp2_with fail
  refine (sIsCrc_any _ _ _).mono ?_
  rintro e w1 ⟨rfl, hb⟩
  have hc0 := hb.cell (p := ⟨w.heap.size, 0, none⟩) (by simp)
  have hc1 := hb.cell (p := ⟨w.heap.size, 1, none⟩) (by simp)
  have HB := Lib.hid (HB0.out.trans (hb.mono (by simp)))
  have hz1 := hb.size
  simp only [World.size_alloc] at hz1
  clear hb
  have HM := Lib.hid (Own.made 2 w1 (w.heap.size + 1) (by omega))
  have HBM := Lib.hid (HB.out.alloc HB.out.size (.cells #[] 2))
  have hd0 : (w1.alloc (.cells #[] 2)).cell? ⟨w.heap.size, 0, none⟩ = some (.int .i64 wd) := ((((Below.refl w1.heap.size w1).alloc (Nat.le_refl _) (.cells #[] 2)).cell (p := ⟨w.heap.size, 0, none⟩) (show w.heap.size < w1.heap.size by omega)).trans (hc0.trans (by simp)))
  have hd1 : (w1.alloc (.cells #[] 2)).cell? ⟨w.heap.size, 1, none⟩ = some (.int .i64 po) := ((((Below.refl w1.heap.size w1).alloc (Nat.le_refl _) (.cells #[] 2)).cell (p := ⟨w.heap.size, 1, none⟩) (show w.heap.size < w1.heap.size by omega)).trans (hc1.trans (by simp)))
  go_wp2
  go_loopw [4, 5] (fun u i wr => ∃ (k : Nat) (v0 : Value), k ≤ 256 ∧ v0 = u ∧ i = .int .i64 k ∧ Own 2 wr (w.heap.size + 1) v0 (tabTo wd po k) ∧ Below w.heap.size w wr ∧ wr.cell? ⟨w.heap.size, 0, none⟩ = some (.int .i64 wd) ∧ wr.cell? ⟨w.heap.size, 1, none⟩ = some (.int .i64 po) ∧ w.heap.size < wr.heap.size) (fun _ i _ => 256 - (intOf i).toNat)
  case atStart => exact ⟨0, _, by decide, rfl, rfl, HM.out, HBM.out, hd0, hd1, by simp; omega⟩
  case round =>
    clear hd0 hd1 hc0 hc1 hz1
    obtain ⟨k, v0, hk, rfl, rfl, hO, hbw, he0, he1, hsz⟩ := hrel
    by_cases hlt : k < 256
    · have HS := Lib.hid (tabTo_succ wd po k)
      have hlen := length_tabTo wd po k
      obtain ⟨D, hD⟩ : ∃ D, D = tabTo wd po k := ⟨_, rfl⟩
      rw [← hD] at hO hlen
      have HD := Lib.hid hD
      have HLN := Lib.hid hlen
      have HO := Lib.hid hO
      have HBW := Lib.hid hbw
      have HK1 := Lib.hid (show allIn [(k : Int)] 0 255 = true from allIn_mk fun x hx => by simp at hx; subst hx; simp [inB]; omega)
      have HBT := Lib.hid (show allIn (bytesBits [(k : Int)]) 0 1 = true from allIn_bytesBits _)
      clear hO hbw hlen hD
      go_wp2
      go_region_held3 (fun w' => w'.cell? ⟨w.heap.size, 0, none⟩ = some (.int .i64 wd) ∧ w'.cell? ⟨w.heap.size, 1, none⟩ = some (.int .i64 po)) (go_keep)
        ((first | (go_at_call 47; refine (l01Bits_any _ [(k : Int)] (wr.drew.alloc (.cells #[.int .i64 (k : Int)] 2)) (rd_single _ _ _ _) HK1.out (by simp)).mono ?_; rintro e w2 ⟨v2, rfl, hO2, hb2⟩; have HO2 := Lib.hid hO2; have hk0 := hb2.cell (p := ⟨w.heap.size, 0, none⟩) (by simp; omega); have hk1 := hb2.cell (p := ⟨w.heap.size, 1, none⟩) (by simp; omega); have hy2 := hb2.size; simp only [World.size_alloc, World.size_drew] at hy2) | (go_at_call 39; refine (l02Feed_any _ (bytesBits [(k : Int)]) wd po 0 _ HO2.out.rd HBT.out HCR.out (by decide) (by omega)).mono ?_; rintro e w3 ⟨rfl, hb3⟩; have hl0 := hb3.cell (p := ⟨w.heap.size, 0, none⟩) (by simp; omega); have hl1 := hb3.cell (p := ⟨w.heap.size, 1, none⟩) (by simp; omega); have hy3 := hb3.size; have HB3 := Lib.hid ((((HBW.out.drew).alloc HBW.out.size _).trans (hb2.mono (by simp only [World.size_alloc, World.size_drew]; omega))).trans (hb3.mono (by omega))); have HO3 := Lib.hid ((((HO.out.drew).alloc _).below hb2).below hb3) ; have HOA : ∀ o, Hid (Own 2 (w3.alloc o) (w.heap.size + 1) v0 D) := (fun o => HO3.out.alloc o); have HBA : ∀ o, Hid (Below w.heap.size w (w3.alloc o)) := (fun o => HB3.out.alloc HB3.out.size o)) | (refine step_app1 Try.underlying26 hi hz0 hz1 hz2 rfl _ _ rfl _ w3.heap.size (feedI wd po 0 (bytesBits [(k : Int)])) (w.heap.size + 1) v0 D rfl rfl (by simp) (HOA _).out (by have := HLN.out; omega) (by simp; omega) ?_; intro v4 w4 hO4 hb4; have HO4 := Lib.hid hO4; have HB4 := Lib.hid ((HBA _).out.trans (hb4.mono (by omega))); have hm0 := hb4.cell (p := ⟨w.heap.size, 0, none⟩) (by simp); have hm1 := hb4.cell (p := ⟨w.heap.size, 1, none⟩) (by simp); have hy4 := hb4.size; simp only [World.size_alloc] at hy4)))
      have HCX : Hid (w4.cell? ⟨w.heap.size, 0, none⟩ = some (.int .i64 wd)) := by
        show w4.cell? ⟨w.heap.size, 0, none⟩ = some (.int .i64 wd)
        first | assumption | (simp_all; done)
      have HCY : Hid (w4.cell? ⟨w.heap.size, 1, none⟩ = some (.int .i64 po)) := by
        show w4.cell? ⟨w.heap.size, 1, none⟩ = some (.int .i64 po)
        first | assumption | (simp_all; done)
      clear hb2 hb3 hb4 hO2 hO4 HOA HBA
      have HO5 : Hid (Own 2 w4 (w.heap.size + 1) v4 (tabTo wd po (k + 1))) := by
        show Own 2 w4 (w.heap.size + 1) v4 (tabTo wd po (k + 1))
        rw [HS.out, ← HD.out]; have e1 : bytesBits [(k : Int)] = bitsOf (k : Int) 8 := by simp [bytesBits]
        rw [← e1]; exact HO4.out
      go_wp2
      go_roundw
      case rel => exact ⟨k + 1, v4, by omega, rfl, by go_num, HO5.out, HB4.out, HCX.out, HCY.out, by omega⟩
      case measure => simp [intOf]; omega
    · have : k = 256 := by omega
      subst this
      rw [← HT.out] at hO
      have HO := Lib.hid hO
      have HBW := Lib.hid hbw
      clear hO hbw
      go_wp2
      go_ret2
      exact ⟨_, rfl, HO.out.mono (by omega), HBW.out⟩
end Go.Proofs.Ytfbijmhmndkocaa
