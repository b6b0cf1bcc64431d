/- The walk of the law FnLeastMissed: it returns true, and nothing that was there is written. -/
import Derived.Test.YtmlingcnbdpbmaaDrL
import Derived.Test.YtmlingcnbdpbmaaLeastL
import Derived.Test.YtmlingcnbdpbmaaFst
import Derived.Test.YtmlingcnbdpbmaaFlip
import Derived.Test.YtmlingcnbdpbmaaMiss
import Derived.Test.YtmlingcnbdpbmaaLike
namespace Go.Proofs.Ytmlingcnbdpbmaa
open Go.RowKit
set_option linter.unusedVariables false
set_option linter.unusedSimpArgs false

set_option maxHeartbeats 8000000 in
theorem fnLeastMissed_walk {w : World} (a0 : Option Addr) (len0 cap0 : Nat) (z0 : List Int) (w0 : IsRow .u8 w a0 len0 cap0 z0) :
    Calls Try.prog 6 #[.slice a0 len0 cap0] w fun e w' => e = .returned (.bool true) ∧ Below w.heap.size w w' := by
  obtain ⟨hl0, hr0⟩ := w0.rd
  have ho0 := w0.bytes
  obtain ⟨cs, hcs⟩ : ∃ cs, cs = z0.take len0 := ⟨_, rfl⟩
  rw [← hcs] at hl0 hr0 ho0
  clear hcs w0
  subst hl0
  have HR := Lib.hid hr0
  have HO8 := Lib.hid ho0
  clear hr0 ho0
  by_cases hbig : 4096 < cs.length
  · have hd : decide ((4096 : Int) < (cs.length : Int)) = true := decide_eq_true (by omega)
    go_enter Try.func6, Try.ntmps6
    go_wp2_with (go_at_call 7; refine (big_any _ cs _ HR.out).mono ?_; rw [hd]; rintro e w' ⟨rfl, rfl⟩)
    go_ret
    exact ⟨rfl, Below.refl _ _⟩
  have hd : decide ((4096 : Int) < (cs.length : Int)) = false := decide_eq_false (by omega)
  have hcl : cs.length ≤ 4096 := by omega
  have HB := Lib.hid (Below.refl w.heap.size w)
  go_enter Try.func6, Try.ntmps6
  go_wp2_with fail
  refine (big_any _ cs _ HR.out).mono ?_
  rw [hd]
  rintro e w' ⟨rfl, rfl⟩
  go_wp2_with fail
  refine (drawFirstMissed_any _ cs _ (HR.out.below HB.out) hcl HO8.out).mono ?_
  rintro e w1x ⟨wd, po, n, rfl, hb1⟩
  replace HB := Lib.hid (bthen HB.out hb1)
  clear hb1
  obtain ⟨X, hX⟩ : ∃ X, X = firstA wd po n := ⟨_, rfl⟩
  have HX := Lib.hid hX
  clear hX
  obtain ⟨Y, hY⟩ : ∃ Y, Y = leastA wd po n := ⟨_, rfl⟩
  have HY := Lib.hid hY
  clear hY
  have hzG := HB.out.size
  have HG := Lib.hid (Cell2.new w1x wd po 25)
  replace HB := Lib.hid (HB.out.alloc HB.out.size (.cells #[.int .i64 wd, .int .i64 po] 25))
  obtain ⟨W, hW⟩ : ∃ W, W = w1x.alloc (.cells #[.int .i64 wd, .int .i64 po] 25) := ⟨_, rfl⟩
  obtain ⟨G, hG⟩ : ∃ G, G = w1x.heap.size := ⟨_, rfl⟩
  have hsW : W.heap.size = G + 1 := by rw [hW, hG]; simp
  rw [← hG] at HG hzG
  rw [← hW] at HB HG 
  obtain ⟨c0G, c1G, f0G, f1G⟩ := HG.out
  go_wp2_with fail
  rw [← hW, ← hG]
  clear hW hG
  clear c0G c1G f0G f1G
  refine (firstMissedX_any wd po n _).mono ?_
  rw [← HX.out]
  rintro e w2x ⟨va, rfl, hO2, hb2⟩
  have HOxs := Lib.hid (hO2.mono HB.out.size)
  clear hO2
  replace HG := Lib.hid (HG.out.next hb2)
  replace HB := Lib.hid (bthen HB.out hb2)
  clear hb2
  obtain ⟨c0G, c1G, f0G, f1G⟩ := HG.out
  go_wp2_with fail
  clear c0G c1G f0G f1G
  refine (sFirstMissed_any wd po n _).mono ?_
  rw [← HX.out]
  rintro e w3x ⟨vb, rfl, hO3, hb3⟩
  have HOys := Lib.hid (hO3.mono HB.out.size)
  clear hO3
  replace HG := Lib.hid (HG.out.next hb3)
  replace HOxs := Lib.hid (HOxs.out.below hb3)
  replace HB := Lib.hid (bthen HB.out hb3)
  clear hb3
  obtain ⟨c0G, c1G, f0G, f1G⟩ := HG.out
  go_wp2_with fail
  clear c0G c1G f0G f1G
  refine (leastWeight_any wd po n _).mono ?_
  rw [← HY.out]
  rintro e w4x ⟨rfl, hb4⟩
  replace HG := Lib.hid (HG.out.next hb4)
  replace HOxs := Lib.hid (HOxs.out.below hb4)
  replace HOys := Lib.hid (HOys.out.below hb4)
  replace HB := Lib.hid (bthen HB.out hb4)
  clear hb4
  obtain ⟨c0G, c1G, f0G, f1G⟩ := HG.out
  go_wp2_with fail
  clear c0G c1G f0G f1G
  refine (sLeastWeight_any wd po n _).mono ?_
  rw [← HY.out]
  rintro e w5x ⟨rfl, hb5⟩
  replace HG := Lib.hid (HG.out.next hb5)
  replace HOxs := Lib.hid (HOxs.out.below hb5)
  replace HOys := Lib.hid (HOys.out.below hb5)
  replace HB := Lib.hid (bthen HB.out hb5)
  clear hb5
  have heq := eqB_self X.1
  have hb1 : (X.2 != X.2) = false := by simp
  have hb2 : (Y.1 != Y.1) = false := by simp
  have hb3 : (Y.2 != Y.2) = false := by simp
  obtain ⟨aa, ca, rfl⟩ := HOxs.out.slice
  obtain ⟨c0G, c1G, f0G, f1G⟩ := HG.out
  go_wp2_with fail
  clear c0G c1G f0G f1G
  refine (likeInts_any _ _ X.1 X.1 _ HOxs.out.rd HOys.out.rd).mono ?_
  rw [heq]
  rintro e w6x ⟨rfl, hb6⟩
  replace HG := Lib.hid (HG.out.next hb6)
  replace HOxs := Lib.hid (HOxs.out.below hb6)
  replace HOys := Lib.hid (HOys.out.below hb6)
  replace HB := Lib.hid (bthen HB.out hb6)
  clear hb6
  clear HOys heq
  by_cases hok : X.2 = 0
  rotate_left
  · have hne : (X.2 != 0) = true := by simpa using hok
    have hln : X.2 ≠ 4 ∨ Y.1 = 4 := by rw [HX.out, HY.out]; exact least_none (by rw [← HX.out]; exact hok)
    by_cases h4 : X.2 = 4
    · have h4b : (X.2 != 4) = false := by simp [h4]
      have hy4 : (Y.1 == 4) = true := by
        rcases hln with h | h
        · exact absurd h4 h
        · simp [h]
      clear hok hln h4
      go_wp2_with fail
      go_ret
      exact ⟨rfl, HB.out⟩
    · have h4b : (X.2 != 4) = true := by simpa using h4
      clear hok hln h4
      go_wp2_with fail
      go_ret
      exact ⟨rfl, HB.out⟩
  have hne : (X.2 != 0) = false := by simp [hok]
  obtain ⟨N, wt, q0, q1, q2, q3, q4, ⟨es, q5, q6⟩, q7⟩ := least_law (HX.out ▸ hok)
  subst q0
  have hYe : Y = (wt, 0) := by rw [HY.out, q3]
  subst hYe
  rw [← HX.out] at q4 q5
  have HQ5 := Lib.hid q5
  have HQ6 := Lib.hid q6
  have HQ7 := Lib.hid q7
  have hlw : ((X.1.length : Int) != wt) = false := by simp [q4]
  clear hok q3 q4 q5 q6 q7 hb2 hb3
  obtain ⟨i0, hi, hz0, hz1, hz2⟩ := info_parts infoD
  go_wp2_with (at_make; refine wpList_make_full _ rfl _ _ 26 rfl w6x.heap.size 2 i0 (.int .i64 0) 1 Try.underlying26 hi hz0 hz1 .i64 .i64 (N : Int) (N : Int) N rfl rfl (by omega) (by omega) (by rw [hz2]; omega) (by unfold maxLen; omega) (Nat.le_refl _) ?_)
  intro w7x hown hgrow
  have HOz := Lib.hid (own_zeros hown)
  have hb7 := below_of_grown hgrow (Nat.le_refl _) (fun k h => by cases h)
  clear hown hgrow
  replace HG := Lib.hid (HG.out.next hb7)
  replace HOxs := Lib.hid (HOxs.out.below hb7)
  replace HB := Lib.hid (bthen HB.out hb7)
  clear hb7
  obtain ⟨c0G, c1G, f0G, f1G⟩ := HG.out
  go_wp2_with fail
  clear c0G c1G f0G f1G
  refine (flipBits_any _ _ (List.replicate N 0) X.1 _ (by have h := HOz.out.rd; exact h) HOxs.out.rd).mono ?_
  rw [HQ5.out]
  rintro e w8x ⟨ve, rfl, hO8, hb8⟩
  have HOes := Lib.hid (hO8.mono HB.out.size)
  clear hO8
  replace HG := Lib.hid (HG.out.next hb8)
  replace HOxs := Lib.hid (HOxs.out.below hb8)
  replace HB := Lib.hid (bthen HB.out hb8)
  clear hb8
  clear HOz
  obtain ⟨c0G, c1G, f0G, f1G⟩ := HG.out
  go_wp2_with fail
  clear c0G c1G f0G f1G
  refine (isMissed_any wd po _ es _ HOes.out.rd).mono ?_
  rw [HQ6.out]
  rintro e w9x ⟨rfl, hb9⟩
  replace HG := Lib.hid (HG.out.next hb9)
  replace HOxs := Lib.hid (HOxs.out.below hb9)
  replace HOes := Lib.hid (HOes.out.below hb9)
  replace HB := Lib.hid (bthen HB.out hb9)
  clear hb9
  by_cases hN2 : N < 2
  · have hd2 : (N : Int) < 2 := by omega
    go_wp2_with fail
    go_ret
    exact ⟨rfl, HB.out⟩
  have hd2 : ¬ ((N : Int) < 2) := by omega
  have hd3 : decide ((N : Int) < 2) = false := decide_eq_false hd2
  have hs1 : IntKind.i64.wrap ((N : Int) - 1) = (N : Int) - 1 := IntWalk.i64_in _ (by omega)
  obtain ⟨less, r1, r2⟩ := HQ7.out (by omega)
  have HR1 := Lib.hid r1
  have hdl : decide (wt ≤ less) = true := decide_eq_true r2
  have hge : wt ≤ less := r2
  clear r1 r2
  obtain ⟨c0G, c1G, f0G, f1G⟩ := HG.out
  go_wp2_with fail
  clear c0G c1G f0G f1G
  refine (leastWeight_any wd po ((N : Int) - 1) _).mono ?_
  rw [HR1.out]
  rintro e w10x ⟨rfl, hb10⟩
  replace HG := Lib.hid (HG.out.next hb10)
  replace HOxs := Lib.hid (HOxs.out.below hb10)
  replace HOes := Lib.hid (HOes.out.below hb10)
  replace HB := Lib.hid (bthen HB.out hb10)
  clear hb10
  go_wp2_with fail
  go_ret
  exact ⟨rfl, HB.out⟩
end Go.Proofs.Ytmlingcnbdpbmaa