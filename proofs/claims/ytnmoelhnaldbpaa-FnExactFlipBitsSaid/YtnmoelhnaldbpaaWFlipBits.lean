/- The walk of the law FlipBits: it returns true, and nothing that was there is written. -/
import Derived.Test.YtnmoelhnaldbpaaFlip
import Derived.Test.YtnmoelhnaldbpaaCopies
namespace Go.Proofs.Ytnmoelhnaldbpaa
open Go.RowKit
set_option linter.unusedVariables false

set_option maxHeartbeats 1000000 in
theorem fnExactFlipBits_walk {w : World} (a0 : Option Addr) (len0 cap0 : Nat) (z0 : List Int) (w0 : IsRow .i64 w a0 len0 cap0 z0) (a1 : Option Addr) (len1 cap1 : Nat) (z1 : List Int) (w1 : IsRow .i64 w a1 len1 cap1 z1) :
    Calls Try.prog 13 #[.slice a0 len0 cap0, .slice a1 len1 cap1] w fun e w' => e = .returned (.bool true) ∧ Below w.heap.size w w' := by
  obtain ⟨hl0, hr0⟩ := w0.rd
  obtain ⟨xs0, hx0⟩ : ∃ xs, xs = z0.take len0 := ⟨_, rfl⟩
  rw [← hx0] at hl0 hr0
  clear hx0 w0
  subst hl0
  obtain ⟨hl1, hr1⟩ := w1.rd
  obtain ⟨xs1, hx1⟩ : ∃ xs, xs = z1.take len1 := ⟨_, rfl⟩
  rw [← hx1] at hl1 hr1
  clear hx1 w1
  subst hl1
  have HA0 := Lib.hid hr0
  clear hr0
  have HA1 := Lib.hid hr1
  clear hr1
  by_cases hbig0 : 1048576 < xs0.length
  · go_enter Try.func13, Try.ntmps13
    go_wp2
    go_ret
    exact ⟨rfl, Below.refl _ _⟩
  by_cases hbig1 : 1048576 < xs1.length
  · go_enter Try.func13, Try.ntmps13
    go_wp2
    go_ret
    exact ⟨rfl, Below.refl _ _⟩
  have heqB := eqB_self
  go_enter Try.func13, Try.ntmps13
  go_wp2_with fail
  refine (toInt64S_any _ xs0 _ (HA0.out) (by omega)).mono ?_
  rintro e w1x ⟨v1, rfl, hO1, hb1⟩
  have HBW := Lib.hid hb1
  have HOs0 := Lib.hid hO1
  have HQs0 := Lib.hid (Own.between hO1)
  clear hO1
  have hz1 := hb1.size
  clear hb1
  go_wp2_with fail
  refine (toInt64S_any _ xs1 _ (HA1.out.below HBW.out) (by omega)).mono ?_
  rintro e w2x ⟨v2, rfl, hO2, hb2⟩
  replace HBW := Lib.hid (bthen HBW.out hb2)
  replace HOs0 := Lib.hid (HOs0.out.below hb2)
  have HOs1 := Lib.hid hO2
  have HQs1 := Lib.hid (Own.between hO2)
  clear hO2
  have hz2 := hb2.size
  clear hb2
  go_wp2_with fail
  refine (sFlipBits_any _ _ _ _ _ HOs0.out.rd HOs1.out.rd).mono ?_
  rintro e w3x ⟨v3, rfl, hO3, hb3⟩
  replace HBW := Lib.hid (bthen HBW.out hb3)
  replace HOs0 := Lib.hid (HOs0.out.below hb3)
  replace HOs1 := Lib.hid (HOs1.out.below hb3)
  have HOW := Lib.hid hO3
  have HQW := Lib.hid (Own.between hO3)
  clear hO3
  have hz3 := hb3.size
  clear hb3
  clear HOs0 HQs0
  clear HOs1 HQs1
  go_wp2_with fail
  refine (toInt64S_any _ xs0 _ (HA0.out.below HBW.out) (by omega)).mono ?_
  rintro e w4x ⟨v4, rfl, hO4, hb4⟩
  replace HBW := Lib.hid (bthen HBW.out hb4)
  replace HOW := Lib.hid (HOW.out.below hb4)
  have HOx0 := Lib.hid hO4
  have HQx0 := Lib.hid (Own.between hO4)
  clear hO4
  have hz4 := hb4.size
  clear hb4
  go_wp2_with fail
  refine (toInt64S_any _ xs1 _ (HA1.out.below HBW.out) (by omega)).mono ?_
  rintro e w5x ⟨v5, rfl, hO5, hb5⟩
  replace HBW := Lib.hid (bthen HBW.out hb5)
  replace HOW := Lib.hid (HOW.out.below hb5)
  replace HOx0 := Lib.hid (HOx0.out.below hb5)
  have HOx1 := Lib.hid hO5
  have HQx1 := Lib.hid (Own.between hO5)
  clear hO5
  have hz5 := hb5.size
  clear hb5
  go_wp2_with fail
  refine (flipBits_any _ _ _ _ _ HOx0.out.rd HOx1.out.rd).mono ?_
  rintro e w6x ⟨v6, rfl, hO6, hb6⟩
  replace HBW := Lib.hid (bthen HBW.out hb6)
  replace HOW := Lib.hid (HOW.out.below hb6)
  replace HOx0 := Lib.hid (HOx0.out.below hb6)
  replace HOx1 := Lib.hid (HOx1.out.below hb6)
  have HOG := Lib.hid hO6
  have HQG := Lib.hid (Own.between hO6)
  clear hO6
  have hz6 := hb6.size
  clear hb6
  go_wp2_with fail
  refine (eqInt64S_any _ _ _ _ _ HOG.out.rd HOW.out.rd).mono ?_
  rintro e w7x ⟨rfl, hb7⟩
  replace HBW := Lib.hid (bthen HBW.out hb7)
  replace HOW := Lib.hid (HOW.out.below hb7)
  replace HOx0 := Lib.hid (HOx0.out.below hb7)
  replace HOx1 := Lib.hid (HOx1.out.below hb7)
  replace HOG := Lib.hid (HOG.out.below hb7)
  have hz7 := hb7.size
  clear hb7
  go_wp2_with fail
  refine (toInt64S_any _ xs0 _ (HA0.out.below HBW.out) (by omega)).mono ?_
  rintro e w8x ⟨v8, rfl, hO8, hb8⟩
  replace HBW := Lib.hid (bthen HBW.out hb8)
  replace HOW := Lib.hid (HOW.out.below hb8)
  replace HOx0 := Lib.hid (HOx0.out.below hb8)
  replace HOx1 := Lib.hid (HOx1.out.below hb8)
  replace HOG := Lib.hid (HOG.out.below hb8)
  have HOt0 := Lib.hid hO8
  have HQt0 := Lib.hid (Own.between hO8)
  clear hO8
  have hz8 := hb8.size
  clear hb8
  go_wp2_with fail
  refine (eqInt64S_any _ _ _ _ _ HOx0.out.rd HOt0.out.rd).mono ?_
  rintro e w9x ⟨rfl, hb9⟩
  replace HBW := Lib.hid (bthen HBW.out hb9)
  replace HOW := Lib.hid (HOW.out.below hb9)
  replace HOx0 := Lib.hid (HOx0.out.below hb9)
  replace HOx1 := Lib.hid (HOx1.out.below hb9)
  replace HOG := Lib.hid (HOG.out.below hb9)
  replace HOt0 := Lib.hid (HOt0.out.below hb9)
  have hz9 := hb9.size
  clear hb9
  clear HOt0 HQt0
  go_wp2_with fail
  refine (toInt64S_any _ xs1 _ (HA1.out.below HBW.out) (by omega)).mono ?_
  rintro e w10x ⟨v10, rfl, hO10, hb10⟩
  replace HBW := Lib.hid (bthen HBW.out hb10)
  replace HOW := Lib.hid (HOW.out.below hb10)
  replace HOx0 := Lib.hid (HOx0.out.below hb10)
  replace HOx1 := Lib.hid (HOx1.out.below hb10)
  replace HOG := Lib.hid (HOG.out.below hb10)
  have HOt1 := Lib.hid hO10
  have HQt1 := Lib.hid (Own.between hO10)
  clear hO10
  have hz10 := hb10.size
  clear hb10
  go_wp2_with fail
  refine (eqInt64S_any _ _ _ _ _ HOx1.out.rd HOt1.out.rd).mono ?_
  rintro e w11x ⟨rfl, hb11⟩
  replace HBW := Lib.hid (bthen HBW.out hb11)
  replace HOW := Lib.hid (HOW.out.below hb11)
  replace HOx0 := Lib.hid (HOx0.out.below hb11)
  replace HOx1 := Lib.hid (HOx1.out.below hb11)
  replace HOG := Lib.hid (HOG.out.below hb11)
  replace HOt1 := Lib.hid (HOt1.out.below hb11)
  have hz11 := hb11.size
  clear hb11
  clear HOt1 HQt1
  go_wp2_with fail
  refine (markInt64S_any _ _ _ _ _ HOx0.out (by omega) (by omega) (by omega)).mono ?_
  rintro e w12x ⟨rfl, hO12, hg12⟩
  have hb12 := below_of_grown hg12 HBW.out.size (fun k hk => Nat.le_trans (by omega) (HQx0.out k hk).1)
  replace HBW := Lib.hid (HBW.out.trans hb12)
  replace HOW := Lib.hid (HOW.out.kept hg12 (Between.ne HQW.out HQx0.out (by omega)))
  replace HOx1 := Lib.hid (HOx1.out.kept hg12 (Between.ne HQx1.out HQx0.out (by omega)))
  replace HOG := Lib.hid (HOG.out.kept hg12 (Between.ne HQG.out HQx0.out (by omega)))
  replace HOx0 := Lib.hid hO12
  have hz12 := hg12.size
  clear hO12 hg12 hb12
  go_wp2_with fail
  refine (markInt64S_any _ _ _ _ _ HOx1.out (by omega) (by omega) (by omega)).mono ?_
  rintro e w13x ⟨rfl, hO13, hg13⟩
  have hb13 := below_of_grown hg13 HBW.out.size (fun k hk => Nat.le_trans (by omega) (HQx1.out k hk).1)
  replace HBW := Lib.hid (HBW.out.trans hb13)
  replace HOW := Lib.hid (HOW.out.kept hg13 (Between.ne HQW.out HQx1.out (by omega)))
  replace HOx0 := Lib.hid (HOx0.out.kept hg13 (Between.ne HQx0.out HQx1.out (by omega)))
  replace HOG := Lib.hid (HOG.out.kept hg13 (Between.ne HQG.out HQx1.out (by omega)))
  replace HOx1 := Lib.hid hO13
  have hz13 := hg13.size
  clear hO13 hg13 hb13
  go_wp2_with fail
  refine (eqInt64S_any _ _ _ _ _ HOG.out.rd HOW.out.rd).mono ?_
  rintro e w14x ⟨rfl, hb14⟩
  replace HBW := Lib.hid (bthen HBW.out hb14)
  replace HOW := Lib.hid (HOW.out.below hb14)
  replace HOx0 := Lib.hid (HOx0.out.below hb14)
  replace HOx1 := Lib.hid (HOx1.out.below hb14)
  replace HOG := Lib.hid (HOG.out.below hb14)
  have hz14 := hb14.size
  clear hb14
  go_wp2_with fail
  refine (markInt64S_any _ _ _ _ _ HOG.out (by omega) (by omega) (Nat.le_trans (flipA_len _ _) (by decide))).mono ?_
  rintro e w15x ⟨rfl, hO15, hg15⟩
  have hb15 := below_of_grown hg15 HBW.out.size (fun k hk => Nat.le_trans (by omega) (HQG.out k hk).1)
  replace HBW := Lib.hid (HBW.out.trans hb15)
  replace HOW := Lib.hid (HOW.out.kept hg15 (Between.ne HQW.out HQG.out (by omega)))
  replace HOx0 := Lib.hid (HOx0.out.kept hg15 (Between.ne HQx0.out HQG.out (by omega)))
  replace HOx1 := Lib.hid (HOx1.out.kept hg15 (Between.ne HQx1.out HQG.out (by omega)))
  replace HOG := Lib.hid hO15
  have hz15 := hg15.size
  clear hO15 hg15 hb15
  go_wp2_with fail
  refine (heldInt64S_any _ _ _ _ HOG.out.rd (by omega) (by omega) (Nat.le_trans (flipA_len _ _) (by decide))).mono ?_
  rintro e wn ⟨rfl, rfl⟩
  go_wp2_with fail
  refine (toInt64S_any _ xs0 _ (HA0.out.below HBW.out) (by omega)).mono ?_
  rintro e w17x ⟨v17, rfl, hO17, hb17⟩
  replace HBW := Lib.hid (bthen HBW.out hb17)
  replace HOW := Lib.hid (HOW.out.below hb17)
  replace HOx0 := Lib.hid (HOx0.out.below hb17)
  replace HOx1 := Lib.hid (HOx1.out.below hb17)
  replace HOG := Lib.hid (HOG.out.below hb17)
  have HOh0 := Lib.hid hO17
  have HQh0 := Lib.hid (Own.between hO17)
  clear hO17
  have hz17 := hb17.size
  clear hb17
  go_wp2_with fail
  refine (toInt64S_any _ xs1 _ (HA1.out.below HBW.out) (by omega)).mono ?_
  rintro e w18x ⟨v18, rfl, hO18, hb18⟩
  replace HBW := Lib.hid (bthen HBW.out hb18)
  replace HOW := Lib.hid (HOW.out.below hb18)
  replace HOx0 := Lib.hid (HOx0.out.below hb18)
  replace HOx1 := Lib.hid (HOx1.out.below hb18)
  replace HOG := Lib.hid (HOG.out.below hb18)
  replace HOh0 := Lib.hid (HOh0.out.below hb18)
  have HOh1 := Lib.hid hO18
  have HQh1 := Lib.hid (Own.between hO18)
  clear hO18
  have hz18 := hb18.size
  clear hb18
  go_wp2_with fail
  refine (flipBits_any _ _ _ _ _ HOh0.out.rd HOh1.out.rd).mono ?_
  rintro e w19x ⟨v19, rfl, hO19, hb19⟩
  replace HBW := Lib.hid (bthen HBW.out hb19)
  replace HOW := Lib.hid (HOW.out.below hb19)
  replace HOx0 := Lib.hid (HOx0.out.below hb19)
  replace HOx1 := Lib.hid (HOx1.out.below hb19)
  replace HOG := Lib.hid (HOG.out.below hb19)
  replace HOh0 := Lib.hid (HOh0.out.below hb19)
  replace HOh1 := Lib.hid (HOh1.out.below hb19)
  have HOH := Lib.hid hO19
  have HQH := Lib.hid (Own.between hO19)
  clear hO19
  have hz19 := hb19.size
  clear hb19
  go_wp2_with fail
  refine (eqInt64S_any _ _ _ _ _ HOH.out.rd HOW.out.rd).mono ?_
  rintro e w20x ⟨rfl, hb20⟩
  replace HBW := Lib.hid (bthen HBW.out hb20)
  replace HOW := Lib.hid (HOW.out.below hb20)
  replace HOx0 := Lib.hid (HOx0.out.below hb20)
  replace HOx1 := Lib.hid (HOx1.out.below hb20)
  replace HOG := Lib.hid (HOG.out.below hb20)
  replace HOh0 := Lib.hid (HOh0.out.below hb20)
  replace HOh1 := Lib.hid (HOh1.out.below hb20)
  replace HOH := Lib.hid (HOH.out.below hb20)
  have hz20 := hb20.size
  clear hb20
  go_wp2_with fail
  refine (heldInt64S_any _ _ _ _ HOG.out.rd (by omega) (by omega) (Nat.le_trans (flipA_len _ _) (by decide))).mono ?_
  rintro e wn ⟨rfl, rfl⟩
  go_wp2_with fail
  go_ret
  exact ⟨rfl, HBW.out⟩
end Go.Proofs.Ytnmoelhnaldbpaa
