/- The walks of the laws IsCrc, IsState, HasMember: each returns true. -/
import Derived.Test.YtcnoopbjeclekaaCrc
import Derived.Test.YtcnoopbjeclekaaState
import Derived.Test.YtcnoopbjeclekaaMem
namespace Go.Proofs.Ytcnoopbjeclekaa
open Go.RowKit
set_option linter.unusedVariables false

theorem fnExactIsCrc_walk (a b : Int) (wa : (Lit.int .i64 a).wf = true) (wb : (Lit.int .i64 b).wf = true) (w : World) :
    Calls Try.prog 6 #[.agg #[.int .i64 a, .int .i64 b]] w fun e w' => e = .returned (.bool true) ∧ Below w.heap.size w w' := by
  go_enter Try.func6, Try.ntmps6
  go_wp2_with fail
  refine (toCrc_any _ _ _).mono ?_
  rintro e w1 ⟨rfl, hb1⟩
  go_wp2_with fail
  refine (sIsCrc_any _ _ _).mono ?_
  rintro e w2 ⟨rfl, hb2⟩
  have h2 := bthen hb1 hb2
  obtain ⟨hc2, hf2⟩ := bcell h2
  have hz2 := h2.size
  go_wp2_with fail
  refine (toCrc_any _ _ _).mono ?_
  rintro e w3 ⟨rfl, hb3⟩
  go_wp2_with fail
  refine (isCrc_any _ _ _).mono ?_
  rintro e w4 ⟨rfl, hb4⟩
  have h4 := bthen (bthen h2 hb3) hb4
  go_wp2_with fail
  go_ret
  exact ⟨rfl, ((Below.refl _ _).alloc (Nat.le_refl _) _).trans (h4.mono (by simp))⟩
theorem fnExactIsState_walk (a b c d f : Int) (wa : (Lit.int .i64 a).wf = true) (wb : (Lit.int .i64 b).wf = true) (wc : (Lit.int .i64 c).wf = true) (wd : (Lit.int .i64 d).wf = true) (wf : (Lit.int .i64 f).wf = true) (w : World) :
    Calls Try.prog 7 #[.agg #[.int .i64 a, .int .i64 b, .int .i64 c, .int .i64 d, .int .i64 f]] w fun e w' => e = .returned (.bool true) ∧ Below w.heap.size w w' := by
  go_enter Try.func7, Try.ntmps7
  go_wp2_with fail
  refine (toState_any _ _ _ _ _ _).mono ?_
  rintro e w1 ⟨rfl, hb1⟩
  go_wp2_with fail
  refine (sIsState_any _ _ _ _ _ _).mono ?_
  rintro e w2 ⟨rfl, hb2⟩
  have h2 := bthen hb1 hb2
  obtain ⟨hc2, hf2⟩ := bcell h2
  have hz2 := h2.size
  go_wp2_with fail
  refine (toState_any _ _ _ _ _ _).mono ?_
  rintro e w3 ⟨rfl, hb3⟩
  go_wp2_with fail
  refine (isState_any _ _ _ _ _ _).mono ?_
  rintro e w4 ⟨rfl, hb4⟩
  have h4 := bthen (bthen h2 hb3) hb4
  go_wp2_with fail
  go_ret
  exact ⟨rfl, ((Below.refl _ _).alloc (Nat.le_refl _) _).trans (h4.mono (by simp))⟩
theorem fnExactHasMember_walk (a0 : Int) (w0 : (Lit.int .i64 a0).wf = true) (a1 : Int) (w1 : (Lit.int .i64 a1).wf = true) (w : World) :
    Calls Try.prog 8 #[.int .i64 a0, .int .i64 a1] w fun e w' => e = .returned (.bool true) ∧ Below w.heap.size w w' := by
  go_enter Try.func8, Try.ntmps8
  go_wp2_with fail
  refine (sHasMember_any _ _ _).mono ?_
  rintro e w1 ⟨rfl, hb1⟩
  go_wp2_with fail
  refine (hasMember_any _ _ _).mono ?_
  rintro e w2 ⟨rfl, rfl⟩
  go_wp2_with fail
  go_ret
  exact ⟨rfl, hb1⟩
end Go.Proofs.Ytcnoopbjeclekaa
