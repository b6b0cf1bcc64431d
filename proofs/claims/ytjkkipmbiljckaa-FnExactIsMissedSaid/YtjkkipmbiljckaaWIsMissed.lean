/- The walk of the law IsMissed: it returns true, and nothing that was there is written. -/
import Derived.Test.YtjkkipmbiljckaaMiss
import Derived.Test.YtjkkipmbiljckaaCopies
namespace Go.Proofs.Ytjkkipmbiljckaa
open Go.RowKit
set_option linter.unusedVariables false

set_option maxHeartbeats 1000000 in
theorem fnExactIsMissed_walk {w : World} (a00 a01 : Int) (w00 : (Lit.int .i64 a00).wf = true) (w01 : (Lit.int .i64 a01).wf = true) (a1 : Option Addr) (len1 cap1 : Nat) (z1 : List Int) (w1 : IsRow .i64 w a1 len1 cap1 z1) :
    Calls Try.prog 4 #[.agg #[.int .i64 a00, .int .i64 a01], .slice a1 len1 cap1] w fun e w' => e = .returned (.bool true) ∧ Below w.heap.size w w' := by
  obtain ⟨hl1, hr1⟩ := w1.rd
  obtain ⟨xs1, hx1⟩ : ∃ xs, xs = z1.take len1 := ⟨_, rfl⟩
  rw [← hx1] at hl1 hr1
  clear hx1 w1
  subst hl1
  have HA1 := Lib.hid hr1
  clear hr1
  by_cases hbig1 : 1048576 < xs1.length
  · go_enter Try.func4, Try.ntmps4
    go_wp2
    go_ret
    exact ⟨rfl, by go_grown⟩
  have heqB := eqB_self
  have HBOX := Lib.hid ((Below.refl w.heap.size w).alloc (by simp) (.cells #[.int .i64 a00, .int .i64 a01] 23))
  go_enter Try.func4, Try.ntmps4
  go_wp2_with fail
  refine (toCrc_any _ _ _).mono ?_
  rintro e w1x ⟨rfl, hb1⟩
  have HBW := Lib.hid hb1
  obtain ⟨hc1, hf1⟩ := bcell HBW.out
  have hzb1 := HBW.out.size
  have hz1 := hb1.size
  clear hb1
  go_wp2_with fail
  refine (toInt64S_any _ xs1 _ ((HA1.out.below HBOX.out).below HBW.out) (by omega)).mono ?_
  rintro e w2x ⟨v2, rfl, hO2, hb2⟩
  replace HBW := Lib.hid (bthen HBW.out hb2)
  have HOs1 := Lib.hid hO2
  have HQs1 := Lib.hid (Own.between hO2)
  clear hO2
  clear hc1 hf1
  obtain ⟨hc2, hf2⟩ := bcell HBW.out
  have hzb2 := HBW.out.size
  have hz2 := hb2.size
  clear hb2
  go_wp2_with fail
  refine (sIsMissed_any _ _ _ _ _ HOs1.out.rd).mono ?_
  rintro e w3x ⟨rfl, hb3⟩
  replace HBW := Lib.hid (bthen HBW.out hb3)
  replace HOs1 := Lib.hid (HOs1.out.below hb3)
  clear hc2 hf2
  obtain ⟨hc3, hf3⟩ := bcell HBW.out
  have hzb3 := HBW.out.size
  have hz3 := hb3.size
  clear hb3
  clear HOs1 HQs1
  go_wp2_with fail
  refine (toInt64S_any _ xs1 _ ((HA1.out.below HBOX.out).below HBW.out) (by omega)).mono ?_
  rintro e w4x ⟨v4, rfl, hO4, hb4⟩
  replace HBW := Lib.hid (bthen HBW.out hb4)
  have HOx1 := Lib.hid hO4
  have HQx1 := Lib.hid (Own.between hO4)
  clear hO4
  clear hc3 hf3
  obtain ⟨hc4, hf4⟩ := bcell HBW.out
  have hzb4 := HBW.out.size
  have hz4 := hb4.size
  clear hb4
  go_wp2_with fail
  refine (toCrc_any _ _ _).mono ?_
  rintro e w5x ⟨rfl, hb5⟩
  replace HBW := Lib.hid (bthen HBW.out hb5)
  replace HOx1 := Lib.hid (HOx1.out.below hb5)
  clear hc4 hf4
  obtain ⟨hc5, hf5⟩ := bcell HBW.out
  have hzb5 := HBW.out.size
  have hz5 := hb5.size
  clear hb5
  go_wp2_with fail
  refine (isMissed_any _ _ _ _ _ HOx1.out.rd).mono ?_
  rintro e w6x ⟨rfl, hb6⟩
  replace HBW := Lib.hid (bthen HBW.out hb6)
  replace HOx1 := Lib.hid (HOx1.out.below hb6)
  clear hc5 hf5
  obtain ⟨hc6, hf6⟩ := bcell HBW.out
  have hzb6 := HBW.out.size
  have hz6 := hb6.size
  clear hb6
  go_wp2_with fail
  refine (toInt64S_any _ xs1 _ ((HA1.out.below HBOX.out).below HBW.out) (by omega)).mono ?_
  rintro e w7x ⟨v7, rfl, hO7, hb7⟩
  replace HBW := Lib.hid (bthen HBW.out hb7)
  replace HOx1 := Lib.hid (HOx1.out.below hb7)
  have HOt1 := Lib.hid hO7
  have HQt1 := Lib.hid (Own.between hO7)
  clear hO7
  clear hc6 hf6
  obtain ⟨hc7, hf7⟩ := bcell HBW.out
  have hzb7 := HBW.out.size
  have hz7 := hb7.size
  clear hb7
  go_wp2_with fail
  refine (eqInt64S_any _ _ _ _ _ HOx1.out.rd HOt1.out.rd).mono ?_
  rintro e w8x ⟨rfl, hb8⟩
  replace HBW := Lib.hid (bthen HBW.out hb8)
  replace HOx1 := Lib.hid (HOx1.out.below hb8)
  replace HOt1 := Lib.hid (HOt1.out.below hb8)
  clear hc7 hf7
  obtain ⟨hc8, hf8⟩ := bcell HBW.out
  have hzb8 := HBW.out.size
  have hz8 := hb8.size
  clear hb8
  clear HOt1 HQt1
  go_wp2_with fail
  go_ret
  exact ⟨rfl, (show Below w.heap.size w _ from (by go_grown)).trans (HBW.out.mono (by simp))⟩
end Go.Proofs.Ytjkkipmbiljckaa
