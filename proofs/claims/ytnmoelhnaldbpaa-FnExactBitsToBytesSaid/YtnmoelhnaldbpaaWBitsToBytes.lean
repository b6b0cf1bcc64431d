/- The walk of the law BitsToBytes: it returns true, and nothing that was there is written. -/
import Derived.Test.YtnmoelhnaldbpaaBitBy
import Derived.Test.YtnmoelhnaldbpaaCopies
namespace Go.Proofs.Ytnmoelhnaldbpaa
open Go.RowKit
set_option linter.unusedVariables false

set_option maxHeartbeats 1000000 in
theorem fnExactBitsToBytes_walk {w : World} (a0 : Option Addr) (len0 cap0 : Nat) (z0 : List Int) (w0 : IsRow .i64 w a0 len0 cap0 z0) :
    Calls Try.prog 14 #[.slice a0 len0 cap0] w fun e w' => e = .returned (.bool true) ∧ Below w.heap.size w w' := by
  obtain ⟨hl0, hr0⟩ := w0.rd
  obtain ⟨xs0, hx0⟩ : ∃ xs, xs = z0.take len0 := ⟨_, rfl⟩
  rw [← hx0] at hl0 hr0
  clear hx0 w0
  subst hl0
  have HA0 := Lib.hid hr0
  clear hr0
  by_cases hbig0 : 1048576 < xs0.length
  · go_enter Try.func14, Try.ntmps14
    go_wp2
    go_ret
    exact ⟨rfl, Below.refl _ _⟩
  have heqB := eqB_self
  go_enter Try.func14, Try.ntmps14
  go_wp2_with fail
  refine (toInt64S_any _ xs0 _ (HA0.out) (by omega)).mono ?_
  rintro e w1x ⟨v1, rfl, hO1, hb1⟩
  have HBW := Lib.hid hb1
  have HOs0 := Lib.hid hO1
  have HQs0 := Lib.hid (Own.between hO1)
  clear hO1
  have hz1 := hb1.size
  clear hb1
  go_wp2_with fail
  refine (sBitsToBytes_any _ _ _ HOs0.out.rd).mono ?_
  rintro e w2x ⟨v2, rfl, hO2, hb2⟩
  replace HBW := Lib.hid (bthen HBW.out hb2)
  replace HOs0 := Lib.hid (HOs0.out.below hb2)
  have HOW := Lib.hid hO2
  have HQW := Lib.hid (Own.between hO2)
  clear hO2
  have hz2 := hb2.size
  clear hb2
  clear HOs0 HQs0
  go_wp2_with fail
  refine (toInt64S_any _ xs0 _ (HA0.out.below HBW.out) (by omega)).mono ?_
  rintro e w3x ⟨v3, rfl, hO3, hb3⟩
  replace HBW := Lib.hid (bthen HBW.out hb3)
  replace HOW := Lib.hid (HOW.out.below hb3)
  have HOx0 := Lib.hid hO3
  have HQx0 := Lib.hid (Own.between hO3)
  clear hO3
  have hz3 := hb3.size
  clear hb3
  go_wp2_with fail
  refine (bitsToBytes_any _ _ _ HOx0.out.rd).mono ?_
  rintro e w4x ⟨v4, rfl, hO4, hb4⟩
  replace HBW := Lib.hid (bthen HBW.out hb4)
  replace HOW := Lib.hid (HOW.out.below hb4)
  replace HOx0 := Lib.hid (HOx0.out.below hb4)
  have HOG := Lib.hid hO4
  have HQG := Lib.hid (Own.between hO4)
  clear hO4
  have hz4 := hb4.size
  clear hb4
  go_wp2_with fail
  refine (eqInt64S_any _ _ _ _ _ HOG.out.rd HOW.out.rd).mono ?_
  rintro e w5x ⟨rfl, hb5⟩
  replace HBW := Lib.hid (bthen HBW.out hb5)
  replace HOW := Lib.hid (HOW.out.below hb5)
  replace HOx0 := Lib.hid (HOx0.out.below hb5)
  replace HOG := Lib.hid (HOG.out.below hb5)
  have hz5 := hb5.size
  clear hb5
  go_wp2_with fail
  refine (toInt64S_any _ xs0 _ (HA0.out.below HBW.out) (by omega)).mono ?_
  rintro e w6x ⟨v6, rfl, hO6, hb6⟩
  replace HBW := Lib.hid (bthen HBW.out hb6)
  replace HOW := Lib.hid (HOW.out.below hb6)
  replace HOx0 := Lib.hid (HOx0.out.below hb6)
  replace HOG := Lib.hid (HOG.out.below hb6)
  have HOt0 := Lib.hid hO6
  have HQt0 := Lib.hid (Own.between hO6)
  clear hO6
  have hz6 := hb6.size
  clear hb6
  go_wp2_with fail
  refine (eqInt64S_any _ _ _ _ _ HOx0.out.rd HOt0.out.rd).mono ?_
  rintro e w7x ⟨rfl, hb7⟩
  replace HBW := Lib.hid (bthen HBW.out hb7)
  replace HOW := Lib.hid (HOW.out.below hb7)
  replace HOx0 := Lib.hid (HOx0.out.below hb7)
  replace HOG := Lib.hid (HOG.out.below hb7)
  replace HOt0 := Lib.hid (HOt0.out.below hb7)
  have hz7 := hb7.size
  clear hb7
  clear HOt0 HQt0
  go_wp2_with fail
  refine (markInt64S_any _ _ _ _ _ HOx0.out (by omega) (by omega) (by omega)).mono ?_
  rintro e w8x ⟨rfl, hO8, hg8⟩
  have hb8 := below_of_grown hg8 HBW.out.size (fun k hk => Nat.le_trans (by omega) (HQx0.out k hk).1)
  replace HBW := Lib.hid (HBW.out.trans hb8)
  replace HOW := Lib.hid (HOW.out.kept hg8 (Between.ne HQW.out HQx0.out (by omega)))
  replace HOG := Lib.hid (HOG.out.kept hg8 (Between.ne HQG.out HQx0.out (by omega)))
  replace HOx0 := Lib.hid hO8
  have hz8 := hg8.size
  clear hO8 hg8 hb8
  go_wp2_with fail
  refine (eqInt64S_any _ _ _ _ _ HOG.out.rd HOW.out.rd).mono ?_
  rintro e w9x ⟨rfl, hb9⟩
  replace HBW := Lib.hid (bthen HBW.out hb9)
  replace HOW := Lib.hid (HOW.out.below hb9)
  replace HOx0 := Lib.hid (HOx0.out.below hb9)
  replace HOG := Lib.hid (HOG.out.below hb9)
  have hz9 := hb9.size
  clear hb9
  go_wp2_with fail
  refine (markInt64S_any _ _ _ _ _ HOG.out (by omega) (by omega) (Nat.le_trans ((bitsBy_len _)) (by decide))).mono ?_
  rintro e w10x ⟨rfl, hO10, hg10⟩
  have hb10 := below_of_grown hg10 HBW.out.size (fun k hk => Nat.le_trans (by omega) (HQG.out k hk).1)
  replace HBW := Lib.hid (HBW.out.trans hb10)
  replace HOW := Lib.hid (HOW.out.kept hg10 (Between.ne HQW.out HQG.out (by omega)))
  replace HOx0 := Lib.hid (HOx0.out.kept hg10 (Between.ne HQx0.out HQG.out (by omega)))
  replace HOG := Lib.hid hO10
  have hz10 := hg10.size
  clear hO10 hg10 hb10
  go_wp2_with fail
  refine (heldInt64S_any _ _ _ _ HOG.out.rd (by omega) (by omega) (Nat.le_trans ((bitsBy_len _)) (by decide))).mono ?_
  rintro e wn ⟨rfl, rfl⟩
  go_wp2_with fail
  refine (toInt64S_any _ xs0 _ (HA0.out.below HBW.out) (by omega)).mono ?_
  rintro e w12x ⟨v12, rfl, hO12, hb12⟩
  replace HBW := Lib.hid (bthen HBW.out hb12)
  replace HOW := Lib.hid (HOW.out.below hb12)
  replace HOx0 := Lib.hid (HOx0.out.below hb12)
  replace HOG := Lib.hid (HOG.out.below hb12)
  have HOh0 := Lib.hid hO12
  have HQh0 := Lib.hid (Own.between hO12)
  clear hO12
  have hz12 := hb12.size
  clear hb12
  go_wp2_with fail
  refine (bitsToBytes_any _ _ _ HOh0.out.rd).mono ?_
  rintro e w13x ⟨v13, rfl, hO13, hb13⟩
  replace HBW := Lib.hid (bthen HBW.out hb13)
  replace HOW := Lib.hid (HOW.out.below hb13)
  replace HOx0 := Lib.hid (HOx0.out.below hb13)
  replace HOG := Lib.hid (HOG.out.below hb13)
  replace HOh0 := Lib.hid (HOh0.out.below hb13)
  have HOH := Lib.hid hO13
  have HQH := Lib.hid (Own.between hO13)
  clear hO13
  have hz13 := hb13.size
  clear hb13
  go_wp2_with fail
  refine (eqInt64S_any _ _ _ _ _ HOH.out.rd HOW.out.rd).mono ?_
  rintro e w14x ⟨rfl, hb14⟩
  replace HBW := Lib.hid (bthen HBW.out hb14)
  replace HOW := Lib.hid (HOW.out.below hb14)
  replace HOx0 := Lib.hid (HOx0.out.below hb14)
  replace HOG := Lib.hid (HOG.out.below hb14)
  replace HOh0 := Lib.hid (HOh0.out.below hb14)
  replace HOH := Lib.hid (HOH.out.below hb14)
  have hz14 := hb14.size
  clear hb14
  go_wp2_with fail
  refine (heldInt64S_any _ _ _ _ HOG.out.rd (by omega) (by omega) (Nat.le_trans ((bitsBy_len _)) (by decide))).mono ?_
  rintro e wn ⟨rfl, rfl⟩
  go_wp2_with fail
  go_ret
  exact ⟨rfl, HBW.out⟩
end Go.Proofs.Ytnmoelhnaldbpaa
