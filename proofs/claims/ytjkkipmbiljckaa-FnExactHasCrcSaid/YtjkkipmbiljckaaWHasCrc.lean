/- The walk of the law HasCrc: it returns true, and nothing that was there is written. -/
import Derived.Test.YtjkkipmbiljckaaHas
import Derived.Test.YtjkkipmbiljckaaCopies
namespace Go.Proofs.Ytjkkipmbiljckaa
open Go.RowKit
set_option linter.unusedVariables false

set_option maxHeartbeats 1000000 in
theorem fnExactHasCrc_walk {w : World} (a00 a01 : Int) (w00 : (Lit.int .i64 a00).wf = true) (w01 : (Lit.int .i64 a01).wf = true) (a1 : Int) (w1 : (Lit.int .i64 a1).wf = true) (a2 : Option Addr) (len2 cap2 : Nat) (z2 : List Int) (w2 : IsRow .i64 w a2 len2 cap2 z2) :
    Calls Try.prog 8 #[.agg #[.int .i64 a00, .int .i64 a01], .int .i64 a1, .slice a2 len2 cap2] w fun e w' => e = .returned (.bool true) ∧ Below w.heap.size w w' := by
  obtain ⟨hl2, hr2⟩ := w2.rd
  obtain ⟨xs2, hx2⟩ : ∃ xs, xs = z2.take len2 := ⟨_, rfl⟩
  rw [← hx2] at hl2 hr2
  clear hx2 w2
  subst hl2
  have HA2 := Lib.hid hr2
  clear hr2
  by_cases hbig2 : 1048576 < xs2.length
  · go_enter Try.func8, Try.ntmps8
    go_wp2
    go_ret
    exact ⟨rfl, by go_grown⟩
  have heqB := eqB_self
  have HBOX := Lib.hid ((Below.refl w.heap.size w).alloc (by simp) (.cells #[.int .i64 a00, .int .i64 a01] 23))
  go_enter Try.func8, Try.ntmps8
  go_wp2_with fail
  refine (toCrc_any _ _ _).mono ?_
  rintro e w1x ⟨rfl, hb1⟩
  have HBW := Lib.hid hb1
  obtain ⟨hc1, hf1⟩ := bcell HBW.out
  have hzb1 := HBW.out.size
  have hz1 := hb1.size
  clear hb1
  go_wp2_with fail
  refine (toInt64S_any _ xs2 _ ((HA2.out.below HBOX.out).below HBW.out) (by omega)).mono ?_
  rintro e w2x ⟨v2, rfl, hO2, hb2⟩
  replace HBW := Lib.hid (bthen HBW.out hb2)
  have HOs2 := Lib.hid hO2
  have HQs2 := Lib.hid (Own.between hO2)
  clear hO2
  clear hc1 hf1
  obtain ⟨hc2, hf2⟩ := bcell HBW.out
  have hzb2 := HBW.out.size
  have hz2 := hb2.size
  clear hb2
  go_wp2_with fail
  refine (sHasCrc_any _ _ _ _ _ _ HOs2.out.rd).mono ?_
  rintro e w3x ⟨rfl, hb3⟩
  replace HBW := Lib.hid (bthen HBW.out hb3)
  replace HOs2 := Lib.hid (HOs2.out.below hb3)
  clear hc2 hf2
  obtain ⟨hc3, hf3⟩ := bcell HBW.out
  have hzb3 := HBW.out.size
  have hz3 := hb3.size
  clear hb3
  clear HOs2 HQs2
  go_wp2_with fail
  refine (toInt64S_any _ xs2 _ ((HA2.out.below HBOX.out).below HBW.out) (by omega)).mono ?_
  rintro e w4x ⟨v4, rfl, hO4, hb4⟩
  replace HBW := Lib.hid (bthen HBW.out hb4)
  have HOx2 := Lib.hid hO4
  have HQx2 := Lib.hid (Own.between hO4)
  clear hO4
  clear hc3 hf3
  obtain ⟨hc4, hf4⟩ := bcell HBW.out
  have hzb4 := HBW.out.size
  have hz4 := hb4.size
  clear hb4
  go_wp2_with fail
  refine (toCrc_any _ _ _).mono ?_
  rintro e w5x ⟨rfl, hb5⟩
  replace HBW := Lib.hid (bthen HBW.out hb5)
  replace HOx2 := Lib.hid (HOx2.out.below hb5)
  clear hc4 hf4
  obtain ⟨hc5, hf5⟩ := bcell HBW.out
  have hzb5 := HBW.out.size
  have hz5 := hb5.size
  clear hb5
  go_wp2_with fail
  refine (hasCrc_any _ _ _ _ _ _ HOx2.out.rd).mono ?_
  rintro e w6x ⟨rfl, hb6⟩
  replace HBW := Lib.hid (bthen HBW.out hb6)
  replace HOx2 := Lib.hid (HOx2.out.below hb6)
  clear hc5 hf5
  obtain ⟨hc6, hf6⟩ := bcell HBW.out
  have hzb6 := HBW.out.size
  have hz6 := hb6.size
  clear hb6
  go_wp2_with fail
  refine (toInt64S_any _ xs2 _ ((HA2.out.below HBOX.out).below HBW.out) (by omega)).mono ?_
  rintro e w7x ⟨v7, rfl, hO7, hb7⟩
  replace HBW := Lib.hid (bthen HBW.out hb7)
  replace HOx2 := Lib.hid (HOx2.out.below hb7)
  have HOt2 := Lib.hid hO7
  have HQt2 := Lib.hid (Own.between hO7)
  clear hO7
  clear hc6 hf6
  obtain ⟨hc7, hf7⟩ := bcell HBW.out
  have hzb7 := HBW.out.size
  have hz7 := hb7.size
  clear hb7
  go_wp2_with fail
  refine (eqInt64S_any _ _ _ _ _ HOx2.out.rd HOt2.out.rd).mono ?_
  rintro e w8x ⟨rfl, hb8⟩
  replace HBW := Lib.hid (bthen HBW.out hb8)
  replace HOx2 := Lib.hid (HOx2.out.below hb8)
  replace HOt2 := Lib.hid (HOt2.out.below hb8)
  clear hc7 hf7
  obtain ⟨hc8, hf8⟩ := bcell HBW.out
  have hzb8 := HBW.out.size
  have hz8 := hb8.size
  clear hb8
  clear HOt2 HQt2
  go_wp2_with fail
  go_ret
  exact ⟨rfl, (show Below w.heap.size w _ from (by go_grown)).trans (HBW.out.mono (by simp))⟩
end Go.Proofs.Ytjkkipmbiljckaa
