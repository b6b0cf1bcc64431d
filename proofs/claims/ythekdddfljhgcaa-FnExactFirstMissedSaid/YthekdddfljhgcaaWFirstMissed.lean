/- The walk of the law FirstMissed: it returns true, and nothing that was there is written. -/
import Derived.Test.YthekdddfljhgcaaFst
import Derived.Test.YthekdddfljhgcaaCopies
namespace Go.Proofs.Ythekdddfljhgcaa
open Go.RowKit
set_option linter.unusedVariables false

set_option maxHeartbeats 1000000 in
theorem fnExactFirstMissed_walk {w : World} (a00 a01 : Int) (w00 : (Lit.int .i64 a00).wf = true) (w01 : (Lit.int .i64 a01).wf = true) (a1 : Int) (w1 : (Lit.int .i64 a1).wf = true) :
    Calls Try.prog 5 #[.agg #[.int .i64 a00, .int .i64 a01], .int .i64 a1] w fun e w' => e = .returned (.bool true) ∧ Below w.heap.size w w' := by
  have heqB := eqB_self
  go_enter Try.func5, Try.ntmps5
  go_wp2_with fail
  refine (toCrc_any _ _ _).mono ?_
  rintro e w1x ⟨rfl, hb1⟩
  have HBW := Lib.hid hb1
  obtain ⟨hc1, hf1⟩ := bcell HBW.out
  have hzb1 := HBW.out.size
  have hz1 := hb1.size
  clear hb1
  go_wp2_with fail
  refine (sFirstMissed_any _ _ _ _ ).mono ?_
  rintro e w2x ⟨v2, rfl, hO2, hb2⟩
  replace HBW := Lib.hid (bthen HBW.out hb2)
  have HOW := Lib.hid hO2
  have HQW := Lib.hid (Own.between hO2)
  clear hO2
  clear hc1 hf1
  obtain ⟨hc2, hf2⟩ := bcell HBW.out
  have hzb2 := HBW.out.size
  have hz2 := hb2.size
  clear hb2
  go_wp2_with fail
  refine (toCrc_any _ _ _).mono ?_
  rintro e w3x ⟨rfl, hb3⟩
  replace HBW := Lib.hid (bthen HBW.out hb3)
  replace HOW := Lib.hid (HOW.out.below hb3)
  clear hc2 hf2
  obtain ⟨hc3, hf3⟩ := bcell HBW.out
  have hzb3 := HBW.out.size
  have hz3 := hb3.size
  clear hb3
  go_wp2_with fail
  refine (firstMissedX_any _ _ _ _ ).mono ?_
  rintro e w4x ⟨v4, rfl, hO4, hb4⟩
  replace HBW := Lib.hid (bthen HBW.out hb4)
  replace HOW := Lib.hid (HOW.out.below hb4)
  have HOG := Lib.hid hO4
  have HQG := Lib.hid (Own.between hO4)
  clear hO4
  clear hc3 hf3
  obtain ⟨hc4, hf4⟩ := bcell HBW.out
  have hzb4 := HBW.out.size
  have hz4 := hb4.size
  clear hb4
  go_wp2_with fail
  refine (eqInt64S_any _ _ _ _ _ HOG.out.rd HOW.out.rd).mono ?_
  rintro e w5x ⟨rfl, hb5⟩
  replace HBW := Lib.hid (bthen HBW.out hb5)
  replace HOW := Lib.hid (HOW.out.below hb5)
  replace HOG := Lib.hid (HOG.out.below hb5)
  clear hc4 hf4
  obtain ⟨hc5, hf5⟩ := bcell HBW.out
  have hzb5 := HBW.out.size
  have hz5 := hb5.size
  clear hb5
  go_wp2_with fail
  refine (markInt64S_any _ _ _ _ _ HOG.out (by omega) (by omega) (Nat.le_trans (firstA_len _ _ _) (by decide))).mono ?_
  rintro e w6x ⟨rfl, hO6, hg6⟩
  have hb6 := below_of_grown hg6 HBW.out.size (fun k hk => Nat.le_trans (by omega) (HQG.out k hk).1)
  replace HBW := Lib.hid (HBW.out.trans hb6)
  replace HOW := Lib.hid (HOW.out.kept hg6 (Between.ne HQW.out HQG.out (by omega)))
  replace HOG := Lib.hid hO6
  clear hc5 hf5
  obtain ⟨hc6, hf6⟩ := bcell HBW.out
  have hzb6 := HBW.out.size
  have hz6 := hg6.size
  clear hO6 hg6 hb6
  go_wp2_with fail
  refine (heldInt64S_any _ _ _ _ HOG.out.rd (by omega) (by omega) (Nat.le_trans (firstA_len _ _ _) (by decide))).mono ?_
  rintro e wn ⟨rfl, rfl⟩
  go_wp2_with fail
  refine (toCrc_any _ _ _).mono ?_
  rintro e w8x ⟨rfl, hb8⟩
  replace HBW := Lib.hid (bthen HBW.out hb8)
  replace HOW := Lib.hid (HOW.out.below hb8)
  replace HOG := Lib.hid (HOG.out.below hb8)
  clear hc6 hf6
  obtain ⟨hc8, hf8⟩ := bcell HBW.out
  have hzb8 := HBW.out.size
  have hz8 := hb8.size
  clear hb8
  go_wp2_with fail
  refine (firstMissedX_any _ _ _ _ ).mono ?_
  rintro e w9x ⟨v9, rfl, hO9, hb9⟩
  replace HBW := Lib.hid (bthen HBW.out hb9)
  replace HOW := Lib.hid (HOW.out.below hb9)
  replace HOG := Lib.hid (HOG.out.below hb9)
  have HOH := Lib.hid hO9
  have HQH := Lib.hid (Own.between hO9)
  clear hO9
  clear hc8 hf8
  obtain ⟨hc9, hf9⟩ := bcell HBW.out
  have hzb9 := HBW.out.size
  have hz9 := hb9.size
  clear hb9
  go_wp2_with fail
  refine (eqInt64S_any _ _ _ _ _ HOH.out.rd HOW.out.rd).mono ?_
  rintro e w10x ⟨rfl, hb10⟩
  replace HBW := Lib.hid (bthen HBW.out hb10)
  replace HOW := Lib.hid (HOW.out.below hb10)
  replace HOG := Lib.hid (HOG.out.below hb10)
  replace HOH := Lib.hid (HOH.out.below hb10)
  clear hc9 hf9
  obtain ⟨hc10, hf10⟩ := bcell HBW.out
  have hzb10 := HBW.out.size
  have hz10 := hb10.size
  clear hb10
  go_wp2_with fail
  refine (heldInt64S_any _ _ _ _ HOG.out.rd (by omega) (by omega) (Nat.le_trans (firstA_len _ _ _) (by decide))).mono ?_
  rintro e wn ⟨rfl, rfl⟩
  go_wp2_with fail
  go_ret
  exact ⟨rfl, (show Below w.heap.size w _ from (by go_grown)).trans (HBW.out.mono (by simp))⟩
end Go.Proofs.Ythekdddfljhgcaa
