/- The walk of the law FnFlips: it returns true, and nothing that was there is written. -/
import Derived.Test.YtmmgpgmjphjgnaaDrI
import Derived.Test.YtmmgpgmjphjgnaaFlipL
import Derived.Test.YtmmgpgmjphjgnaaLike
namespace Go.Proofs.Ytmmgpgmjphjgnaa
open Go.RowKit
set_option linter.unusedVariables false
set_option linter.unusedSimpArgs false

set_option maxHeartbeats 4000000 in
theorem fnFlips_walk {w : World} (a0 : Option Addr) (len0 cap0 : Nat) (z0 : List Int) (w0 : IsRow .u8 w a0 len0 cap0 z0) :
    Calls Try.prog 7 #[.slice a0 len0 cap0] w fun e w' => e = .returned (.bool true) ∧ Below w.heap.size w w' := by
  obtain ⟨hl0, hr0⟩ := w0.rd
  have ho0 := w0.bytes
  obtain ⟨cs, hcs⟩ : ∃ cs, cs = z0.take len0 := ⟨_, rfl⟩
  rw [← hcs] at hl0 hr0 ho0
  clear hcs w0
  subst hl0
  have HR := Lib.hid hr0
  have HO8 := Lib.hid ho0
  clear hr0 ho0
  by_cases hbig : 4096 < cs.length
  · have hd : decide ((4096 : Int) < (cs.length : Int)) = true := decide_eq_true (by omega)
    go_enter Try.func7, Try.ntmps7
    go_wp2_with (go_at_call 8; refine (big_any _ cs _ HR.out).mono ?_; rw [hd]; rintro e w' ⟨rfl, rfl⟩)
    go_ret
    exact ⟨rfl, Below.refl _ _⟩
  have hd : decide ((4096 : Int) < (cs.length : Int)) = false := decide_eq_false (by omega)
  have hcl : cs.length ≤ 4096 := by omega
  have HB := Lib.hid (Below.refl w.heap.size w)
  go_enter Try.func7, Try.ntmps7
  go_wp2_with fail
  refine (big_any _ cs _ HR.out).mono ?_
  rw [hd]
  rintro e w' ⟨rfl, rfl⟩
  go_wp2_with fail
  refine (drawDifferingBits_any _ cs _ (HR.out.below HB.out) hcl HO8.out).mono ?_
  rintro e w1x ⟨va, vb, xs, ys, rfl, hOxs, hOys, hxl, hyl, hb1⟩
  have HOxs := Lib.hid (hOxs.mono HB.out.size)
  clear hOxs
  have HOys := Lib.hid (hOys.mono HB.out.size)
  clear hOys
  replace HB := Lib.hid (bthen HB.out hb1)
  clear hb1
  obtain ⟨X, hX⟩ : ∃ X, X = diffB xs ys := ⟨_, rfl⟩
  have HX := Lib.hid hX
  clear hX
  have heq := eqB_self
  go_wp2_with fail
  refine (differingBits_any _ _ xs ys _ HOxs.out.rd HOys.out.rd).mono ?_
  rw [← HX.out]
  rintro e w2x ⟨vc, rfl, hO2, hb2⟩
  have HOds := Lib.hid (hO2.mono HB.out.size)
  clear hO2
  replace HOxs := Lib.hid (HOxs.out.below hb2)
  replace HOys := Lib.hid (HOys.out.below hb2)
  replace HB := Lib.hid (bthen HB.out hb2)
  clear hb2
  go_wp2_with fail
  refine (sDifferingBits_any _ _ xs ys _ HOxs.out.rd HOys.out.rd).mono ?_
  rw [← HX.out]
  rintro e w3x ⟨vd, rfl, hO3, hb3⟩
  have HOes := Lib.hid (hO3.mono HB.out.size)
  clear hO3
  replace HOxs := Lib.hid (HOxs.out.below hb3)
  replace HOys := Lib.hid (HOys.out.below hb3)
  replace HOds := Lib.hid (HOds.out.below hb3)
  replace HB := Lib.hid (bthen HB.out hb3)
  clear hb3
  go_wp2_with fail
  refine (drawFlipBits_any _ cs _ (HR.out.below HB.out) hcl HO8.out).mono ?_
  rintro e w4x ⟨ve, vf, ps, qs, rfl, hOps, hOqs, hpl, hql, hb4⟩
  have HOps := Lib.hid (hOps.mono HB.out.size)
  clear hOps
  have HOqs := Lib.hid (hOqs.mono HB.out.size)
  clear hOqs
  replace HOxs := Lib.hid (HOxs.out.below hb4)
  replace HOys := Lib.hid (HOys.out.below hb4)
  replace HOds := Lib.hid (HOds.out.below hb4)
  replace HOes := Lib.hid (HOes.out.below hb4)
  replace HB := Lib.hid (bthen HB.out hb4)
  clear hb4
  obtain ⟨Y, hY⟩ : ∃ Y, Y = flipA ps qs := ⟨_, rfl⟩
  have HY := Lib.hid hY
  clear hY
  go_wp2_with fail
  refine (flipBits_any _ _ ps qs _ HOps.out.rd HOqs.out.rd).mono ?_
  rw [← HY.out]
  rintro e w5x ⟨vg, rfl, hO5, hb5⟩
  have HOfs := Lib.hid (hO5.mono HB.out.size)
  clear hO5
  replace HOxs := Lib.hid (HOxs.out.below hb5)
  replace HOys := Lib.hid (HOys.out.below hb5)
  replace HOds := Lib.hid (HOds.out.below hb5)
  replace HOes := Lib.hid (HOes.out.below hb5)
  replace HOps := Lib.hid (HOps.out.below hb5)
  replace HOqs := Lib.hid (HOqs.out.below hb5)
  replace HB := Lib.hid (bthen HB.out hb5)
  clear hb5
  go_wp2_with fail
  refine (sFlipBits_any _ _ ps qs _ HOps.out.rd HOqs.out.rd).mono ?_
  rw [← HY.out]
  rintro e w6x ⟨vh, rfl, hO6, hb6⟩
  have HOgs := Lib.hid (hO6.mono HB.out.size)
  clear hO6
  replace HOxs := Lib.hid (HOxs.out.below hb6)
  replace HOys := Lib.hid (HOys.out.below hb6)
  replace HOds := Lib.hid (HOds.out.below hb6)
  replace HOes := Lib.hid (HOes.out.below hb6)
  replace HOps := Lib.hid (HOps.out.below hb6)
  replace HOqs := Lib.hid (HOqs.out.below hb6)
  replace HOfs := Lib.hid (HOfs.out.below hb6)
  replace HB := Lib.hid (bthen HB.out hb6)
  clear hb6
  go_wp2_with fail
  refine (likeInts_any _ _ X.1 X.1 _ HOds.out.rd HOes.out.rd).mono ?_
  rw [heq]
  rintro e w7x ⟨rfl, hb7⟩
  replace HOxs := Lib.hid (HOxs.out.below hb7)
  replace HOys := Lib.hid (HOys.out.below hb7)
  replace HOds := Lib.hid (HOds.out.below hb7)
  replace HOes := Lib.hid (HOes.out.below hb7)
  replace HOps := Lib.hid (HOps.out.below hb7)
  replace HOqs := Lib.hid (HOqs.out.below hb7)
  replace HOfs := Lib.hid (HOfs.out.below hb7)
  replace HOgs := Lib.hid (HOgs.out.below hb7)
  replace HB := Lib.hid (bthen HB.out hb7)
  clear hb7
  go_wp2_with fail
  refine (likeInts_any _ _ Y.1 Y.1 _ HOfs.out.rd HOgs.out.rd).mono ?_
  rw [heq]
  rintro e w8x ⟨rfl, hb8⟩
  replace HOxs := Lib.hid (HOxs.out.below hb8)
  replace HOys := Lib.hid (HOys.out.below hb8)
  replace HOds := Lib.hid (HOds.out.below hb8)
  replace HOes := Lib.hid (HOes.out.below hb8)
  replace HOps := Lib.hid (HOps.out.below hb8)
  replace HOqs := Lib.hid (HOqs.out.below hb8)
  replace HOfs := Lib.hid (HOfs.out.below hb8)
  replace HOgs := Lib.hid (HOgs.out.below hb8)
  replace HB := Lib.hid (bthen HB.out hb8)
  clear hb8
  by_cases hok : X.2 = 0
  rotate_left
  · have hne : (X.2 != 0) = true := by simpa using hok
    clear hok
    go_wp2_with fail
    go_ret
    exact ⟨rfl, HB.out⟩
  have hne : (X.2 != 0) = false := by simp [hok]
  have hXe : X = (diffs xs ys, 0) ∧ twoCode xs ys = 0 := by
    have h := HX.out
    unfold diffB at h
    by_cases ht : twoCode xs ys = 0
    · rw [if_pos ht] at h; exact ⟨h, ht⟩
    · rw [if_neg ht] at h; rw [h] at hok; exact absurd hok ht
  have HXE := Lib.hid (show X.1 = diffs xs ys by rw [hXe.1])
  have HBK := Lib.hid (flip_back hXe.2)
  rw [← HXE.out] at HBK
  clear hok hXe
  go_wp2_with fail
  refine (flipBits_any _ _ xs X.1 _ HOxs.out.rd HOds.out.rd).mono ?_
  rw [HBK.out]
  rintro e w9x ⟨vi, rfl, hO9, hb9⟩
  have HOhs := Lib.hid (hO9.mono HB.out.size)
  clear hO9
  replace HOxs := Lib.hid (HOxs.out.below hb9)
  replace HOys := Lib.hid (HOys.out.below hb9)
  replace HOds := Lib.hid (HOds.out.below hb9)
  replace HOes := Lib.hid (HOes.out.below hb9)
  replace HOps := Lib.hid (HOps.out.below hb9)
  replace HOqs := Lib.hid (HOqs.out.below hb9)
  replace HOfs := Lib.hid (HOfs.out.below hb9)
  replace HOgs := Lib.hid (HOgs.out.below hb9)
  replace HB := Lib.hid (bthen HB.out hb9)
  clear hb9
  go_wp2_with fail
  refine (likeInts_any _ _ _ _ _ HOhs.out.rd HOys.out.rd).mono ?_
  rw [heq]
  rintro e w10x ⟨rfl, hb10⟩
  replace HOxs := Lib.hid (HOxs.out.below hb10)
  replace HOys := Lib.hid (HOys.out.below hb10)
  replace HOds := Lib.hid (HOds.out.below hb10)
  replace HOes := Lib.hid (HOes.out.below hb10)
  replace HOps := Lib.hid (HOps.out.below hb10)
  replace HOqs := Lib.hid (HOqs.out.below hb10)
  replace HOfs := Lib.hid (HOfs.out.below hb10)
  replace HOgs := Lib.hid (HOgs.out.below hb10)
  replace HOhs := Lib.hid (HOhs.out.below hb10)
  replace HB := Lib.hid (bthen HB.out hb10)
  clear hb10
  go_wp2_with fail
  go_ret
  exact ⟨rfl, HB.out⟩
end Go.Proofs.Ytmmgpgmjphjgnaa