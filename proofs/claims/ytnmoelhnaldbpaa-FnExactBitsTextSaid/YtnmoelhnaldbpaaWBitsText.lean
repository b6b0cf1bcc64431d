/- The walk of the law BitsText: it returns true, and nothing that was there is written. -/
import Derived.Test.YtnmoelhnaldbpaaTxt
import Derived.Test.YtnmoelhnaldbpaaCopies
namespace Go.Proofs.Ytnmoelhnaldbpaa
open Go.RowKit
set_option linter.unusedVariables false

set_option maxHeartbeats 1000000 in
theorem fnExactBitsText_walk {w : World} (a0 : Option Addr) (len0 cap0 : Nat) (z0 : List Int) (w0 : IsRow .i64 w a0 len0 cap0 z0) :
    Calls Try.prog 6 #[.slice a0 len0 cap0] w fun e w' => e = .returned (.bool true) ∧ Below w.heap.size w w' := by
  obtain ⟨hl0, hr0⟩ := w0.rd
  obtain ⟨xs0, hx0⟩ : ∃ xs, xs = z0.take len0 := ⟨_, rfl⟩
  rw [← hx0] at hl0 hr0
  clear hx0 w0
  subst hl0
  have HA0 := Lib.hid hr0
  clear hr0
  by_cases hbig0 : 1048576 < xs0.length
  · go_enter Try.func6, Try.ntmps6
    go_wp2
    go_ret
    exact ⟨rfl, Below.refl _ _⟩
  have heqB := eqB_self
  go_enter Try.func6, Try.ntmps6
  go_wp2_with fail
  refine (toInt64S_any _ xs0 _ (HA0.out) (by omega)).mono ?_
  rintro e w1x ⟨v1, rfl, hO1, hb1⟩
  have HBW := Lib.hid hb1
  have HOs0 := Lib.hid hO1
  have HQs0 := Lib.hid (Own.between hO1)
  clear hO1
  have hz1 := hb1.size
  clear hb1
  go_wp2_with fail
  refine (sBitsText_any _ _ _ HOs0.out.rd).mono ?_
  rintro e w2x ⟨rfl, hb2⟩
  replace HBW := Lib.hid (bthen HBW.out hb2)
  replace HOs0 := Lib.hid (HOs0.out.below hb2)
  have hz2 := hb2.size
  clear hb2
  clear HOs0 HQs0
  go_wp2_with fail
  refine (toInt64S_any _ xs0 _ (HA0.out.below HBW.out) (by omega)).mono ?_
  rintro e w3x ⟨v3, rfl, hO3, hb3⟩
  replace HBW := Lib.hid (bthen HBW.out hb3)
  have HOx0 := Lib.hid hO3
  have HQx0 := Lib.hid (Own.between hO3)
  clear hO3
  have hz3 := hb3.size
  clear hb3
  go_wp2_with fail
  refine (bitsText_any _ _ _ HOx0.out.rd).mono ?_
  rintro e w4x ⟨rfl, hb4⟩
  replace HBW := Lib.hid (bthen HBW.out hb4)
  replace HOx0 := Lib.hid (HOx0.out.below hb4)
  have hz4 := hb4.size
  clear hb4
  go_wp2_with fail
  refine (toInt64S_any _ xs0 _ (HA0.out.below HBW.out) (by omega)).mono ?_
  rintro e w5x ⟨v5, rfl, hO5, hb5⟩
  replace HBW := Lib.hid (bthen HBW.out hb5)
  replace HOx0 := Lib.hid (HOx0.out.below hb5)
  have HOt0 := Lib.hid hO5
  have HQt0 := Lib.hid (Own.between hO5)
  clear hO5
  have hz5 := hb5.size
  clear hb5
  go_wp2_with fail
  refine (eqInt64S_any _ _ _ _ _ HOx0.out.rd HOt0.out.rd).mono ?_
  rintro e w6x ⟨rfl, hb6⟩
  replace HBW := Lib.hid (bthen HBW.out hb6)
  replace HOx0 := Lib.hid (HOx0.out.below hb6)
  replace HOt0 := Lib.hid (HOt0.out.below hb6)
  have hz6 := hb6.size
  clear hb6
  clear HOt0 HQt0
  go_wp2_with fail
  go_ret
  exact ⟨rfl, HBW.out⟩
end Go.Proofs.Ytnmoelhnaldbpaa
