/- The walk of the law FnExactStateText: it returns true, and nothing that was there is written. -/
import Derived.Test.YtkhmnkpdlodepaaDoorStT
namespace Go.Proofs.YtkhmnkpdlodepaaDoor
open Go.RowKit
set_option linter.unusedVariables false

set_option maxRecDepth 100000 in
set_option maxHeartbeats 1000000 in
theorem fnExactStateText_walk {w : World} (ht : TabP w) (a00 a01 a02 a03 a04 : Int) (w00 : (Lit.int .i64 a00).wf = true) (w01 : (Lit.int .i64 a01).wf = true) (w02 : (Lit.int .i64 a02).wf = true) (w03 : (Lit.int .i64 a03).wf = true) (w04 : (Lit.int .i64 a04).wf = true) :
    Calls Tryd.prog 5 #[.agg #[.int .i64 a00, .int .i64 a01, .int .i64 a02, .int .i64 a03, .int .i64 a04]] w fun e w' => e = .returned (.bool true) ∧ Below w.heap.size w w' := by
  have HB := Lib.hid ((Below.refl w.heap.size w).alloc (Nat.le_refl _) (.cells #[.int .i64 a00, .int .i64 a01, .int .i64 a02, .int .i64 a03, .int .i64 a04] 41))
  have HX := Lib.hid (Below.refl (w.heap.size + 1) (w.alloc (.cells #[.int .i64 a00, .int .i64 a01, .int .i64 a02, .int .i64 a03, .int .i64 a04] 41)))
  have HT := Lib.hid ht
  have hz0 : w.heap.size + 1 ≤ (w.alloc (.cells #[.int .i64 a00, .int .i64 a01, .int .i64 a02, .int .i64 a03, .int .i64 a04] 41)).heap.size := by simp
  obtain ⟨T, hT⟩ : ∃ T, T = stT a00 a01 a02 a03 a04 := ⟨_, rfl⟩
  have HS := Lib.hid hT
  clear hT ht w00 w01 w02 w03 w04
  go_enter Tryd.func5, Tryd.ntmps5
  go_wp2_with fail
  refine (toState_any _ _ _ _ _ _).mono ?_
  rintro e w1 ⟨rfl, hb1⟩
  replace HX := Lib.hid (HX.out.trans (hb1.mono hz0))
  replace HB := Lib.hid (bthen HB.out hb1)
  obtain ⟨c0, c1, c2, c3, c4⟩ := box5 HX.out
  have hz1 := Nat.le_trans hz0 hb1.size
  clear hb1
  go_wp2_with fail
  refine (sStateText_any _ _ _ _ _ _).mono ?_
  rw [← HS.out]
  rintro e w2 ⟨rfl, hb2⟩
  replace HX := Lib.hid (HX.out.trans (hb2.mono hz1))
  replace HB := Lib.hid (bthen HB.out hb2)
  clear c0 c1 c2 c3 c4
  obtain ⟨c0, c1, c2, c3, c4⟩ := box5 HX.out
  have hz2 := Nat.le_trans hz1 hb2.size
  clear hb2
  go_wp2_with fail
  refine (toState_any _ _ _ _ _ _).mono ?_
  rintro e w3 ⟨rfl, hb3⟩
  replace HB := Lib.hid (bthen HB.out hb3)
  clear hb3 c0 c1 c2 c3 c4
  go_wp2_with fail
  refine (stateText_any _ _ _ _ _ _ (HT.out.below HB.out)).mono ?_
  rw [← HS.out]
  rintro e w4 ⟨rfl, hb4⟩
  replace HB := Lib.hid (bthen HB.out hb4)
  clear hb4
  go_wp2_with fail
  go_ret
  exact ⟨rfl, HB.out⟩
end Go.Proofs.YtkhmnkpdlodepaaDoor
