/- The walk of the law AdvanceState: it returns true, and nothing that was there is written. -/
import Derived.Test.YtmjccemocffefaaEqSt
namespace Go.Proofs.Ytmjccemocffefaa
open Go.RowKit
set_option linter.unusedVariables false
set_option linter.unusedSimpArgs false

set_option maxHeartbeats 2000000 in
theorem fnExactAdvanceState_walk {w : World} (a00 a01 a02 a03 a04 : Int) (w00 : (Lit.int .i64 a00).wf = true) (w01 : (Lit.int .i64 a01).wf = true) (w02 : (Lit.int .i64 a02).wf = true) (w03 : (Lit.int .i64 a03).wf = true) (w04 : (Lit.int .i64 a04).wf = true) (a1 : Int) (w1 : (Lit.int .i64 a1).wf = true) (a2 : Int) (w2 : (Lit.int .i64 a2).wf = true) (a3 : Int) (w3 : (Lit.int .i64 a3).wf = true) :
    Calls Try.prog 7 #[.agg #[.int .i64 a00, .int .i64 a01, .int .i64 a02, .int .i64 a03, .int .i64 a04], .int .i64 a1, .int .i64 a2, .int .i64 a3] w fun e w' => e = .returned (.bool true) ∧ Below w.heap.size w w' := by
  clear w00 w01 w02 w03 w04 w1 w2 w3
  obtain ⟨X, hX⟩ : ∃ X, X = advB a00 a01 a02 a03 a04 a1 a2 a3 := ⟨_, rfl⟩
  have HX := Lib.hid hX
  clear hX
  have HA0 := Lib.hid ((Below.refl w.heap.size w).alloc (Nat.le_refl _) (.cells #[.int .i64 a00, .int .i64 a01, .int .i64 a02, .int .i64 a03, .int .i64 a04] 26))
  go_enter Try.func7, Try.ntmps7
  go_wp2_with fail
  refine (toState_any _ _ _ _ _ _).mono ?_
  rintro e w1x ⟨rfl, hb1⟩
  have HB1 := Lib.hid (HA0.out.trans (hb1.mono (by simp)))
  have hz1 := hb1.size
  simp only [World.size_alloc] at hz1
  obtain ⟨hc1, hf1⟩ := bcell hb1
  have ha0 : w1x.cell? ⟨w.heap.size, 0, none⟩ = some (.int .i64 a00) := (hc1 _ _ (by simp)).trans (by simp)
  have ha1 : w1x.cell? ⟨w.heap.size, 1, none⟩ = some (.int .i64 a01) := (hc1 _ _ (by simp)).trans (by simp)
  have ha2 : w1x.cell? ⟨w.heap.size, 2, none⟩ = some (.int .i64 a02) := (hc1 _ _ (by simp)).trans (by simp)
  have ha3 : w1x.cell? ⟨w.heap.size, 3, none⟩ = some (.int .i64 a03) := (hc1 _ _ (by simp)).trans (by simp)
  have ha4 : w1x.cell? ⟨w.heap.size, 4, none⟩ = some (.int .i64 a04) := (hc1 _ _ (by simp)).trans (by simp)
  clear hb1 hc1 hf1
  go_wp2_with fail
  refine (sAdvanceState_any _ _ _ _ _ _ _ _ _).mono ?_
  rw [← HX.out]
  rintro e w2x ⟨rfl, hb2⟩
  have HB2 := Lib.hid (bthen HB1.out hb2)
  have hz2 := hb2.size
  obtain ⟨hc2, hf2⟩ := bcell hb2
  have hb0 := (hc2 _ _ (by omega)).trans ha0
  have hb1 := (hc2 _ _ (by omega)).trans ha1
  have hb2' := (hc2 _ _ (by omega)).trans ha2
  have hb3 := (hc2 _ _ (by omega)).trans ha3
  have hb4 := (hc2 _ _ (by omega)).trans ha4
  clear hb2 hc2 hf2 ha0 ha1 ha2 ha3 ha4
  unfold St.val
  have hd0 := keepA hb0
  have hd1 := keepA hb1
  have hd2 := keepA hb2'
  have hd3 := keepA hb3
  have hd4 := keepA hb4
  clear hb0 hb1 hb2' hb3 hb4
  go_wp2_with fail
  refine (toState_any _ _ _ _ _ _).mono ?_
  rintro e w3x ⟨rfl, hb3⟩
  have hz3 := hb3.size
  simp only [World.size_alloc] at hz3
  have HB3 := Lib.hid ((HB2.out.alloc HB2.out.size (.cells #[.int .i64 X.1.t, .int .i64 X.1.m, .int .i64 X.1.r, .int .i64 X.1.s, .int .i64 X.1.v] 28)).trans (hb3.mono (by simp; omega)))
  obtain ⟨hc3, hf3⟩ := bcell hb3
  have he0 : w3x.cell? ⟨w2x.heap.size, 0, none⟩ = some (.int .i64 X.1.t) := (hc3 _ _ (by simp)).trans (by simp)
  have he1 : w3x.cell? ⟨w2x.heap.size, 1, none⟩ = some (.int .i64 X.1.m) := (hc3 _ _ (by simp)).trans (by simp)
  have he2 : w3x.cell? ⟨w2x.heap.size, 2, none⟩ = some (.int .i64 X.1.r) := (hc3 _ _ (by simp)).trans (by simp)
  have he3 : w3x.cell? ⟨w2x.heap.size, 3, none⟩ = some (.int .i64 X.1.s) := (hc3 _ _ (by simp)).trans (by simp)
  have he4 : w3x.cell? ⟨w2x.heap.size, 4, none⟩ = some (.int .i64 X.1.v) := (hc3 _ _ (by simp)).trans (by simp)
  clear hb3 hc3 hf3 hd0 hd1 hd2 hd3 hd4
  go_wp2_with fail
  refine (advanceState_any _ _ _ _ _ _ _ _ _).mono ?_
  rw [← HX.out]
  rintro e w4x ⟨rfl, hb4⟩
  have hz4 := hb4.size
  have HB4 := Lib.hid (bthen HB3.out hb4)
  obtain ⟨hc4, hf4⟩ := bcell hb4
  have hg0 := keepA ((hc4 _ _ (by omega)).trans he0)
  have hg1 := keepA ((hc4 _ _ (by omega)).trans he1)
  have hg2 := keepA ((hc4 _ _ (by omega)).trans he2)
  have hg3 := keepA ((hc4 _ _ (by omega)).trans he3)
  have hg4 := keepA ((hc4 _ _ (by omega)).trans he4)
  clear hb4 hc4 hf4 he0 he1 he2 he3 he4
  unfold St.val
  go_wp2_with fail
  refine (eqState_self _ _).mono ?_
  rintro e w5x ⟨rfl, hb5⟩
  have HB5 := Lib.hid ((HB4.out.alloc HB4.out.size (.cells #[.int .i64 X.1.t, .int .i64 X.1.m, .int .i64 X.1.r, .int .i64 X.1.s, .int .i64 X.1.v] 28)).trans (hb5.mono (by simp; omega)))
  clear hb5 hg0 hg1 hg2 hg3 hg4
  go_wp2_with fail
  go_ret
  exact ⟨rfl, HB5.out⟩
end Go.Proofs.Ytmjccemocffefaa
