/- The walk of the law ReadBits: it returns true, and nothing that was there is written. -/
import Derived.Test.YtnmoelhnaldbpaaReadB
import Derived.Test.YtnmoelhnaldbpaaCopies
namespace Go.Proofs.Ytnmoelhnaldbpaa
open Go.RowKit
set_option linter.unusedVariables false

set_option maxHeartbeats 1000000 in
theorem fnExactReadBits_walk {w : World} (a0 : ByteArray) (w0 : a0.size ≤ maxLen) :
    Calls Try.prog 5 #[.string a0] w fun e w' => e = .returned (.bool true) ∧ Below w.heap.size w w' := by
  by_cases hbig0 : 1048576 < a0.size
  · go_enter Try.func5, Try.ntmps5
    go_wp2
    go_ret
    exact ⟨rfl, Below.refl _ _⟩
  have heqB := eqB_self
  go_enter Try.func5, Try.ntmps5
  go_wp2_with fail
  refine (sReadBits_any _ _ (by omega)).mono ?_
  rintro e w1x ⟨v1, rfl, hO1, hb1⟩
  have HBW := Lib.hid hb1
  have HOW := Lib.hid hO1
  have HQW := Lib.hid (Own.between hO1)
  clear hO1
  have hz1 := hb1.size
  clear hb1
  go_wp2_with fail
  refine (readBits_any _ _ (by omega)).mono ?_
  rintro e w2x ⟨v2, rfl, hO2, hb2⟩
  replace HBW := Lib.hid (bthen HBW.out hb2)
  replace HOW := Lib.hid (HOW.out.below hb2)
  have HOG := Lib.hid hO2
  have HQG := Lib.hid (Own.between hO2)
  clear hO2
  have hz2 := hb2.size
  clear hb2
  go_wp2_with fail
  refine (eqInt64S_any _ _ _ _ _ HOG.out.rd HOW.out.rd).mono ?_
  rintro e w3x ⟨rfl, hb3⟩
  replace HBW := Lib.hid (bthen HBW.out hb3)
  replace HOW := Lib.hid (HOW.out.below hb3)
  replace HOG := Lib.hid (HOG.out.below hb3)
  have hz3 := hb3.size
  clear hb3
  go_wp2_with fail
  refine (markInt64S_any _ _ _ _ _ HOG.out (by omega) (by omega) (Nat.le_trans (readB_len _) (by decide))).mono ?_
  rintro e w4x ⟨rfl, hO4, hg4⟩
  have hb4 := below_of_grown hg4 HBW.out.size (fun k hk => Nat.le_trans (by omega) (HQG.out k hk).1)
  replace HBW := Lib.hid (HBW.out.trans hb4)
  replace HOW := Lib.hid (HOW.out.kept hg4 (Between.ne HQW.out HQG.out (by omega)))
  replace HOG := Lib.hid hO4
  have hz4 := hg4.size
  clear hO4 hg4 hb4
  go_wp2_with fail
  refine (heldInt64S_any _ _ _ _ HOG.out.rd (by omega) (by omega) (Nat.le_trans (readB_len _) (by decide))).mono ?_
  rintro e wn ⟨rfl, rfl⟩
  go_wp2_with fail
  refine (readBits_any _ _ (by omega)).mono ?_
  rintro e w6x ⟨v6, rfl, hO6, hb6⟩
  replace HBW := Lib.hid (bthen HBW.out hb6)
  replace HOW := Lib.hid (HOW.out.below hb6)
  replace HOG := Lib.hid (HOG.out.below hb6)
  have HOH := Lib.hid hO6
  have HQH := Lib.hid (Own.between hO6)
  clear hO6
  have hz6 := hb6.size
  clear hb6
  go_wp2_with fail
  refine (eqInt64S_any _ _ _ _ _ HOH.out.rd HOW.out.rd).mono ?_
  rintro e w7x ⟨rfl, hb7⟩
  replace HBW := Lib.hid (bthen HBW.out hb7)
  replace HOW := Lib.hid (HOW.out.below hb7)
  replace HOG := Lib.hid (HOG.out.below hb7)
  replace HOH := Lib.hid (HOH.out.below hb7)
  have hz7 := hb7.size
  clear hb7
  go_wp2_with fail
  refine (heldInt64S_any _ _ _ _ HOG.out.rd (by omega) (by omega) (Nat.le_trans (readB_len _) (by decide))).mono ?_
  rintro e wn ⟨rfl, rfl⟩
  go_wp2_with fail
  go_ret
  exact ⟨rfl, HBW.out⟩
end Go.Proofs.Ytnmoelhnaldbpaa
