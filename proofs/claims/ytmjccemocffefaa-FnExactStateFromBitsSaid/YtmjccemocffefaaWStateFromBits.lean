/- The walk of the law StateFromBits: it returns true, and nothing that was there is written. -/
import Derived.Test.YtmjccemocffefaaStF
import Derived.Test.YtmjccemocffefaaEqSt
import Derived.Test.YtmjccemocffefaaCopies
namespace Go.Proofs.Ytmjccemocffefaa
open Go.RowKit
set_option linter.unusedVariables false
set_option linter.unusedSimpArgs false

set_option maxHeartbeats 2000000 in
theorem fnExactStateFromBits_walk {w : World} (a0 : Option Addr) (len0 cap0 : Nat) (z0 : List Int) (w0 : IsRow .i64 w a0 len0 cap0 z0) :
    Calls Try.prog 10 #[.slice a0 len0 cap0] w fun e w' => e = .returned (.bool true) ∧ Below w.heap.size w w' := by
  obtain ⟨hl0, hr0⟩ := w0.rd
  obtain ⟨xs0, hx0⟩ : ∃ xs, xs = z0.take len0 := ⟨_, rfl⟩
  rw [← hx0] at hl0 hr0
  clear hx0 w0
  subst hl0
  have HA0 := Lib.hid hr0
  clear hr0
  by_cases hbig0 : 1048576 < xs0.length
  · go_enter Try.func10, Try.ntmps10
    go_wp2
    go_ret
    exact ⟨rfl, Below.refl _ _⟩
  have heqB := eqB_self
  obtain ⟨X, hX⟩ : ∃ X, X = stFromB xs0 := ⟨_, rfl⟩
  have HX := Lib.hid hX
  clear hX
  go_enter Try.func10, Try.ntmps10
  go_wp2_with fail
  refine (toInt64S_any _ xs0 _ HA0.out (by omega)).mono ?_
  rintro e w1x ⟨v1, rfl, hO1, hb1⟩
  have HB1 := Lib.hid hb1
  have HO1 := Lib.hid hO1
  clear hO1 hb1
  go_wp2_with fail
  refine (sStateFromBits_any _ xs0 _ HO1.out.rd).mono ?_
  rw [← HX.out]
  rintro e w2x ⟨rfl, hb2⟩
  have HB2 := Lib.hid (bthen HB1.out hb2)
  have hz2 := HB2.out.size
  clear hb2 HO1
  unfold St.val
  have HAL := (fun (o : Obj) => Lib.hid (HB2.out.alloc HB2.out.size o) : ∀ o, Hid (Below w.heap.size w (w2x.alloc o)))
  go_wp2_with fail
  refine (toInt64S_any _ xs0 _ (HA0.out.below (HAL _).out) (by omega)).mono ?_
  rintro e w3x ⟨v3, rfl, hO3, hb3⟩
  have HB3 := Lib.hid (bthen (HAL _).out hb3)
  have HO3 := Lib.hid hO3
  have hz3 := hb3.size
  simp only [World.size_alloc] at hz3
  obtain ⟨hc3, hf3⟩ := bcell hb3
  have he0 : w3x.cell? ⟨w2x.heap.size, 0, none⟩ = some (.int .i64 X.1.t) := (hc3 _ _ (by simp)).trans (by simp)
  have he1 : w3x.cell? ⟨w2x.heap.size, 1, none⟩ = some (.int .i64 X.1.m) := (hc3 _ _ (by simp)).trans (by simp)
  have he2 : w3x.cell? ⟨w2x.heap.size, 2, none⟩ = some (.int .i64 X.1.r) := (hc3 _ _ (by simp)).trans (by simp)
  have he3 : w3x.cell? ⟨w2x.heap.size, 3, none⟩ = some (.int .i64 X.1.s) := (hc3 _ _ (by simp)).trans (by simp)
  have he4 : w3x.cell? ⟨w2x.heap.size, 4, none⟩ = some (.int .i64 X.1.v) := (hc3 _ _ (by simp)).trans (by simp)
  clear hO3 hb3 hc3 hf3 HAL
  go_wp2_with fail
  refine (stateFromBits_any _ xs0 _ HO3.out.rd).mono ?_
  rw [← HX.out]
  rintro e w4x ⟨rfl, hb4⟩
  have hz4 := hb4.size
  have HB4 := Lib.hid (bthen HB3.out hb4)
  have HO4 := Lib.hid (HO3.out.below hb4)
  obtain ⟨hc4, hf4⟩ := bcell hb4
  have hg0 := keepA ((hc4 _ _ (by omega)).trans he0)
  have hg1 := keepA ((hc4 _ _ (by omega)).trans he1)
  have hg2 := keepA ((hc4 _ _ (by omega)).trans he2)
  have hg3 := keepA ((hc4 _ _ (by omega)).trans he3)
  have hg4 := keepA ((hc4 _ _ (by omega)).trans he4)
  clear hb4 hc4 hf4 he0 he1 he2 he3 he4 HO3
  unfold St.val
  have HAL := (fun (o : Obj) => Lib.hid (HB4.out.alloc HB4.out.size o) : ∀ o, Hid (Below w.heap.size w (w4x.alloc o)))
  have HOL := (fun (o : Obj) => Lib.hid (HO4.out.alloc o) : ∀ o, Hid (Own 2 (w4x.alloc o) _ v3 xs0))
  go_wp2_with fail
  refine (eqState_self _ _).mono ?_
  rintro e w5x ⟨rfl, hb5⟩
  have HB5 := Lib.hid (bthen (HAL _).out hb5)
  have HO5 := Lib.hid ((HOL _).out.below hb5)
  clear hb5 hg0 hg1 hg2 hg3 hg4 HAL HOL
  go_wp2_with fail
  refine (toInt64S_any _ xs0 _ (HA0.out.below HB5.out) (by omega)).mono ?_
  rintro e w6x ⟨v6, rfl, hO6, hb6⟩
  have HB6 := Lib.hid (bthen HB5.out hb6)
  have HO6 := Lib.hid hO6
  have HO7 := Lib.hid (HO5.out.below hb6)
  clear hO6 hb6
  go_wp2_with fail
  refine (eqInt64S_any _ _ _ _ _ HO7.out.rd HO6.out.rd).mono ?_
  rintro e w7x ⟨rfl, hb7⟩
  have HB7 := Lib.hid (bthen HB6.out hb7)
  clear hb7
  go_wp2_with fail
  go_ret
  exact ⟨rfl, HB7.out⟩
end Go.Proofs.Ytmjccemocffefaa
