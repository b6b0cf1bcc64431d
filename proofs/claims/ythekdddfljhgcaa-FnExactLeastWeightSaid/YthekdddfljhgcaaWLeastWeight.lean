/- The walk of the law LeastWeight: it returns true, and nothing that was there is written. -/
import Derived.Test.YthekdddfljhgcaaFst
import Derived.Test.YthekdddfljhgcaaCopies
namespace Go.Proofs.Ythekdddfljhgcaa
open Go.RowKit
set_option linter.unusedVariables false

set_option maxHeartbeats 1000000 in
theorem fnExactLeastWeight_walk {w : World} (a00 a01 : Int) (w00 : (Lit.int .i64 a00).wf = true) (w01 : (Lit.int .i64 a01).wf = true) (a1 : Int) (w1 : (Lit.int .i64 a1).wf = true) :
    Calls Try.prog 4 #[.agg #[.int .i64 a00, .int .i64 a01], .int .i64 a1] w fun e w' => e = .returned (.bool true) ∧ Below w.heap.size w w' := by
  skip
  go_enter Try.func4, Try.ntmps4
  go_wp2_with fail
  refine (toCrc_any _ _ _).mono ?_
  rintro e w1x ⟨rfl, hb1⟩
  have HBW := Lib.hid hb1
  obtain ⟨hc1, hf1⟩ := bcell HBW.out
  have hzb1 := HBW.out.size
  have hz1 := hb1.size
  clear hb1
  go_wp2_with fail
  refine (sLeastWeight_any _ _ _ _ ).mono ?_
  rintro e w2x ⟨rfl, hb2⟩
  replace HBW := Lib.hid (bthen HBW.out hb2)
  clear hc1 hf1
  obtain ⟨hc2, hf2⟩ := bcell HBW.out
  have hzb2 := HBW.out.size
  have hz2 := hb2.size
  clear hb2
  go_wp2_with fail
  refine (toCrc_any _ _ _).mono ?_
  rintro e w3x ⟨rfl, hb3⟩
  replace HBW := Lib.hid (bthen HBW.out hb3)
  clear hc2 hf2
  obtain ⟨hc3, hf3⟩ := bcell HBW.out
  have hzb3 := HBW.out.size
  have hz3 := hb3.size
  clear hb3
  go_wp2_with fail
  refine (leastWeight_any _ _ _ _ ).mono ?_
  rintro e w4x ⟨rfl, hb4⟩
  replace HBW := Lib.hid (bthen HBW.out hb4)
  clear hc3 hf3
  obtain ⟨hc4, hf4⟩ := bcell HBW.out
  have hzb4 := HBW.out.size
  have hz4 := hb4.size
  clear hb4
  go_wp2_with fail
  go_ret
  exact ⟨rfl, (show Below w.heap.size w _ from (by go_grown)).trans (HBW.out.mono (by simp))⟩
end Go.Proofs.Ythekdddfljhgcaa
