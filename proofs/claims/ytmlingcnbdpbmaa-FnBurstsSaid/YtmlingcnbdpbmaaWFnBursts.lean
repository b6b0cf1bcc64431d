/- The walk of the law FnBursts: it returns true, and nothing that was there is written. -/
import Derived.Test.YtmlingcnbdpbmaaDrO
import Derived.Test.YtmlingcnbdpbmaaDrI
import Derived.Test.YtmlingcnbdpbmaaSumL
import Derived.Test.YtmlingcnbdpbmaaSum
import Derived.Test.YtmlingcnbdpbmaaBurst
import Derived.Test.YtmlingcnbdpbmaaLike
namespace Go.Proofs.Ytmlingcnbdpbmaa
open Go.RowKit
set_option linter.unusedVariables false
set_option linter.unusedSimpArgs false

set_option maxHeartbeats 8000000 in
theorem fnBursts_walk {w : World} (a0 : Option Addr) (len0 cap0 : Nat) (z0 : List Int) (w0 : IsRow .u8 w a0 len0 cap0 z0) :
    Calls Try.prog 5 #[.slice a0 len0 cap0] w fun e w' => e = .returned (.bool true) ∧ Below w.heap.size w w' := by
  obtain ⟨hl0, hr0⟩ := w0.rd
  have ho0 := w0.bytes
  obtain ⟨cs, hcs⟩ : ∃ cs, cs = z0.take len0 := ⟨_, rfl⟩
  rw [← hcs] at hl0 hr0 ho0
  clear hcs w0
  subst hl0
  have HR := Lib.hid hr0
  have HO8 := Lib.hid ho0
  clear hr0 ho0
  by_cases hbig : 4096 < cs.length
  · have hd : decide ((4096 : Int) < (cs.length : Int)) = true := decide_eq_true (by omega)
    go_enter Try.func5, Try.ntmps5
    go_wp2_with (go_at_call 7; refine (big_any _ cs _ HR.out).mono ?_; rw [hd]; rintro e w' ⟨rfl, rfl⟩)
    go_ret
    exact ⟨rfl, Below.refl _ _⟩
  have hd : decide ((4096 : Int) < (cs.length : Int)) = false := decide_eq_false (by omega)
  have hcl : cs.length ≤ 4096 := by omega
  have HB := Lib.hid (Below.refl w.heap.size w)
  go_enter Try.func5, Try.ntmps5
  go_wp2_with fail
  refine (big_any _ cs _ HR.out).mono ?_
  rw [hd]
  rintro e w' ⟨rfl, rfl⟩
  go_wp2_with fail
  refine (drawBurstOf_any _ cs _ (HR.out.below HB.out) hcl HO8.out).mono ?_
  rintro e w1x ⟨ve, xs, rfl, hOxs, hshx, hb1⟩
  have HOxs := Lib.hid (hOxs.mono HB.out.size)
  clear hOxs
  replace HB := Lib.hid (bthen HB.out hb1)
  clear hb1
  obtain ⟨Y, hY⟩ : ∃ Y, Y = burstA xs := ⟨_, rfl⟩
  have HY := Lib.hid hY
  clear hY hshx
  go_wp2_with fail
  refine (burstOfX_any _ xs _ HOxs.out.rd).mono ?_
  rw [← HY.out]
  rintro e wn ⟨rfl, rfl⟩
  go_wp2_with fail
  refine (sBurstOf_any _ xs _ HOxs.out.rd).mono ?_
  rw [← HY.out]
  rintro e wn ⟨rfl, rfl⟩
  go_wp2_with fail
  refine (drawSumErrors_any _ cs _ (HR.out.below HB.out) hcl HO8.out).mono ?_
  rintro e w2x ⟨vu, vv, qs, ps, rfl, hOqs, hOps, hlq, hlp, hb2⟩
  have HOqs := Lib.hid (hOqs.mono HB.out.size)
  clear hOqs
  have HOps := Lib.hid (hOps.mono HB.out.size)
  clear hOps
  replace HOxs := Lib.hid (HOxs.out.below hb2)
  replace HB := Lib.hid (bthen HB.out hb2)
  clear hb2
  obtain ⟨Z, hZ⟩ : ∃ Z, Z = sumE qs ps := ⟨_, rfl⟩
  have HZ := Lib.hid hZ
  clear hZ hlq hlp
  go_wp2_with fail
  refine (sumErrors_any _ _ qs ps _ HOqs.out.rd HOps.out.rd).mono ?_
  rw [← HZ.out]
  rintro e w3x ⟨vs, rfl, hO3, hb3⟩
  have HOss := Lib.hid (hO3.mono HB.out.size)
  clear hO3
  replace HOxs := Lib.hid (HOxs.out.below hb3)
  replace HOqs := Lib.hid (HOqs.out.below hb3)
  replace HOps := Lib.hid (HOps.out.below hb3)
  replace HB := Lib.hid (bthen HB.out hb3)
  clear hb3
  go_wp2_with fail
  refine (sSumErrors_any _ _ qs ps _ HOqs.out.rd HOps.out.rd).mono ?_
  rw [← HZ.out]
  rintro e w4x ⟨vr, rfl, hO4, hb4⟩
  have HOrs := Lib.hid (hO4.mono HB.out.size)
  clear hO4
  replace HOxs := Lib.hid (HOxs.out.below hb4)
  replace HOqs := Lib.hid (HOqs.out.below hb4)
  replace HOps := Lib.hid (HOps.out.below hb4)
  replace HOss := Lib.hid (HOss.out.below hb4)
  replace HB := Lib.hid (bthen HB.out hb4)
  clear hb4
  have heq := eqB_self
  have hb1 : (Y.1 != Y.1) = false := by simp
  have hb2 : (Y.2.1 != Y.2.1) = false := by simp
  have hb3 : (Y.2.2 != Y.2.2) = false := by simp
  have hb4 : (Z.2 != Z.2) = false := by simp
  obtain ⟨aa, ca, rfl⟩ := HOxs.out.slice
  go_wp2_with fail
  refine (likeInts_any _ _ Z.1 Z.1 _ HOss.out.rd HOrs.out.rd).mono ?_
  rw [heq]
  rintro e w5x ⟨rfl, hb5⟩
  replace HOxs := Lib.hid (HOxs.out.below hb5)
  replace HOqs := Lib.hid (HOqs.out.below hb5)
  replace HOps := Lib.hid (HOps.out.below hb5)
  replace HOss := Lib.hid (HOss.out.below hb5)
  replace HOrs := Lib.hid (HOrs.out.below hb5)
  replace HB := Lib.hid (bthen HB.out hb5)
  clear hb5
  clear HOrs
  by_cases hzk : Z.2 = 0
  rotate_left
  · have hnz : (Z.2 == 0) = false := by simpa using hzk
    clear hzk
    by_cases hbk : Y.2.2 = 0
    rotate_left
    · have hne : (Y.2.2 != 0) = true := by simpa using hbk
      clear hbk
      go_wp2_with fail
      go_ret
      exact ⟨rfl, HB.out⟩
    have hne : (Y.2.2 != 0) = false := by simp [hbk]
    obtain ⟨f, n, q1, q2, q3, q4, q5, q6, q7, q8, q9⟩ := burst_law (HY.out ▸ hbk)
    rw [← HY.out] at q1 q2
    have HQ7 := Lib.hid q7
    rw [q1, q2]
    obtain ⟨i0, hi, hz0, hz1, hz2⟩ := info_parts infoD
    have hrd := HOxs.out.rd
    obtain ⟨a', cap', hv, h1, h2, h3, hc⟩ := id hrd
    cases hv
    obtain ⟨T, hT, hRT⟩ := part_of Try.underlying26 hi hz1 h1 h2 h3 hc f n q4
    obtain ⟨b, off, haa, hcf⟩ := hc f (by omega)
    obtain ⟨b2, off2, haa2, hcl⟩ := hc (f + n - 1) (by omega)
    rw [haa] at haa2
    obtain ⟨rfl, rfl⟩ : b = b2 ∧ off = off2 := by simpa using haa2
    subst haa
    rw [q8] at hcf
    rw [q9] at hcl
    have HRT := Lib.hid hRT
    have HRX := Lib.hid hrd
    have HALL := Lib.hid q6
    obtain ⟨L, hL⟩ : ∃ L, L = f + n - 1 := ⟨_, rfl⟩
    rw [← hL] at hcl
    have hfL : (f : Int) < (xs.length : Int) := by omega
    have hf0 : (0 : Int) ≤ (f : Int) := by omega
    have hLL : (L : Int) < (xs.length : Int) := by omega
    have hL0 : (0 : Int) ≤ (L : Int) := by omega
    have hs1 : IntKind.i64.wrap ((f : Int) + (n : Int)) = (f : Int) + (n : Int) := IntWalk.i64_in _ (by omega)
    have hs2 : IntKind.i64.wrap ((f : Int) + (n : Int) - 1) = (L : Int) := by rw [IntWalk.i64_in _ (by omega)]; omega
    obtain ⟨wz, hwz⟩ : ∃ wz, wz = w5x := ⟨_, rfl⟩
    rw [← hwz] at HRT HRX hcf hcl HB ⊢
    have hk0 : ∀ x : BW wz.heap.size wz, x.w.cell? ⟨b, off + f, none⟩ = some (.int .i64 1) := fun x => (x.h.cell (p := ⟨b, off + f, none⟩) (World.block_lt_of_cell? wz _ hcf)).trans hcf
    have hk1 : ∀ x : BW wz.heap.size wz, x.w.cell? ⟨b, off + L, none⟩ = some (.int .i64 1) := fun x => (x.h.cell (p := ⟨b, off + L, none⟩) (World.block_lt_of_cell? wz _ hcl)).trans hcl
    have hls : ((xs.drop f).take n).length ≤ 16777216 := by rw [List.length_take, List.length_drop]; omega
    have HLS := Lib.hid hls
    have hlx : xs.length ≤ 16777216 := by omega
    have HS1 : ∀ x : BW wz.heap.size wz, Hid (Calls Try.prog 25 #[.slice (some ⟨b, off, none⟩) xs.length ca] x.w fun e w' => e = .returned (.int .i64 (sumL xs)) ∧ x.w = w') := fun x => Lib.hid (sum_any _ xs _ (HRX.out.bw rfl x) HALL.out hlx)
    have HS2 : ∀ x : BW wz.heap.size wz, Hid (Calls Try.prog 25 #[T] x.w fun e w' => e = .returned (.int .i64 (sumL xs)) ∧ x.w = w') := fun x => Lib.hid (by rw [HQ7.out]; exact sum_any _ _ _ (HRT.out.bw rfl x) (allIn_take _ (allIn_drop _ HALL.out)) HLS.out)
    have hss : (sumL xs == sumL xs) = true := by simp
    obtain ⟨SX, hSX⟩ : ∃ SX, SX = sumL xs := ⟨_, rfl⟩
    rw [← hSX] at HS1 HS2 hss
    clear hwz hcf hcl hls hrd hc h1 h2 h3 hRT q1 q2 q6 q7 q8 q9 hL haa2 hbk hSX
    go_wp2_with fail
    refine wp_region_bw wz.heap.size wz (Below.refl _ _) (by kernel_rfl) (by kernel_rfl) ?_
    repeat (first | go_big_quiet_step (first | (go_at_call 25; with_reducible exact bw_same (HS1 _).out) | (go_at_call 25; with_reducible exact bw_same (HS2 _).out) | fail))
    refine wpQuiet_nil ?_
    rintro _ ⟨xw, rfl⟩
    replace HB := Lib.hid (HB.out.trans (xw.h.mono HB.out.size))
    go_wp2_with fail
    go_ret
    exact ⟨rfl, HB.out⟩
  have hnz : (Z.2 == 0) = true := by simpa using hzk
  have hback := sum_back (HZ.out ▸ hzk)
  rw [← HZ.out] at hback
  have HBK := Lib.hid hback
  clear hback hzk
  go_wp2_with fail
  refine (sumErrors_any _ _ Z.1 ps _ HOss.out.rd HOps.out.rd).mono ?_
  rw [HBK.out]
  rintro e w6x ⟨vb, rfl, hO6, hb6⟩
  have HObs := Lib.hid (hO6.mono HB.out.size)
  clear hO6
  replace HOxs := Lib.hid (HOxs.out.below hb6)
  replace HOqs := Lib.hid (HOqs.out.below hb6)
  replace HOps := Lib.hid (HOps.out.below hb6)
  replace HOss := Lib.hid (HOss.out.below hb6)
  replace HB := Lib.hid (bthen HB.out hb6)
  clear hb6
  go_wp2_with fail
  refine (likeInts_any _ _ qs qs _ HObs.out.rd HOqs.out.rd).mono ?_
  rw [heq]
  rintro e w7x ⟨rfl, hb7⟩
  replace HOxs := Lib.hid (HOxs.out.below hb7)
  replace HOqs := Lib.hid (HOqs.out.below hb7)
  replace HOps := Lib.hid (HOps.out.below hb7)
  replace HOss := Lib.hid (HOss.out.below hb7)
  replace HObs := Lib.hid (HObs.out.below hb7)
  replace HB := Lib.hid (bthen HB.out hb7)
  clear hb7
  by_cases hbk : Y.2.2 = 0
  rotate_left
  · have hne : (Y.2.2 != 0) = true := by simpa using hbk
    clear hbk
    go_wp2_with fail
    go_ret
    exact ⟨rfl, HB.out⟩
  have hne : (Y.2.2 != 0) = false := by simp [hbk]
  obtain ⟨f, n, q1, q2, q3, q4, q5, q6, q7, q8, q9⟩ := burst_law (HY.out ▸ hbk)
  rw [← HY.out] at q1 q2
  have HQ7 := Lib.hid q7
  rw [q1, q2]
  obtain ⟨i0, hi, hz0, hz1, hz2⟩ := info_parts infoD
  have hrd := HOxs.out.rd
  obtain ⟨a', cap', hv, h1, h2, h3, hc⟩ := id hrd
  cases hv
  obtain ⟨T, hT, hRT⟩ := part_of Try.underlying26 hi hz1 h1 h2 h3 hc f n q4
  obtain ⟨b, off, haa, hcf⟩ := hc f (by omega)
  obtain ⟨b2, off2, haa2, hcl⟩ := hc (f + n - 1) (by omega)
  rw [haa] at haa2
  obtain ⟨rfl, rfl⟩ : b = b2 ∧ off = off2 := by simpa using haa2
  subst haa
  rw [q8] at hcf
  rw [q9] at hcl
  have HRT := Lib.hid hRT
  have HRX := Lib.hid hrd
  have HALL := Lib.hid q6
  obtain ⟨L, hL⟩ : ∃ L, L = f + n - 1 := ⟨_, rfl⟩
  rw [← hL] at hcl
  have hfL : (f : Int) < (xs.length : Int) := by omega
  have hf0 : (0 : Int) ≤ (f : Int) := by omega
  have hLL : (L : Int) < (xs.length : Int) := by omega
  have hL0 : (0 : Int) ≤ (L : Int) := by omega
  have hs1 : IntKind.i64.wrap ((f : Int) + (n : Int)) = (f : Int) + (n : Int) := IntWalk.i64_in _ (by omega)
  have hs2 : IntKind.i64.wrap ((f : Int) + (n : Int) - 1) = (L : Int) := by rw [IntWalk.i64_in _ (by omega)]; omega
  obtain ⟨wz, hwz⟩ : ∃ wz, wz = w7x := ⟨_, rfl⟩
  rw [← hwz] at HRT HRX hcf hcl HB ⊢
  have hk0 : ∀ x : BW wz.heap.size wz, x.w.cell? ⟨b, off + f, none⟩ = some (.int .i64 1) := fun x => (x.h.cell (p := ⟨b, off + f, none⟩) (World.block_lt_of_cell? wz _ hcf)).trans hcf
  have hk1 : ∀ x : BW wz.heap.size wz, x.w.cell? ⟨b, off + L, none⟩ = some (.int .i64 1) := fun x => (x.h.cell (p := ⟨b, off + L, none⟩) (World.block_lt_of_cell? wz _ hcl)).trans hcl
  have hls : ((xs.drop f).take n).length ≤ 16777216 := by rw [List.length_take, List.length_drop]; omega
  have HLS := Lib.hid hls
  have hlx : xs.length ≤ 16777216 := by omega
  have HS1 : ∀ x : BW wz.heap.size wz, Hid (Calls Try.prog 25 #[.slice (some ⟨b, off, none⟩) xs.length ca] x.w fun e w' => e = .returned (.int .i64 (sumL xs)) ∧ x.w = w') := fun x => Lib.hid (sum_any _ xs _ (HRX.out.bw rfl x) HALL.out hlx)
  have HS2 : ∀ x : BW wz.heap.size wz, Hid (Calls Try.prog 25 #[T] x.w fun e w' => e = .returned (.int .i64 (sumL xs)) ∧ x.w = w') := fun x => Lib.hid (by rw [HQ7.out]; exact sum_any _ _ _ (HRT.out.bw rfl x) (allIn_take _ (allIn_drop _ HALL.out)) HLS.out)
  have hss : (sumL xs == sumL xs) = true := by simp
  obtain ⟨SX, hSX⟩ : ∃ SX, SX = sumL xs := ⟨_, rfl⟩
  rw [← hSX] at HS1 HS2 hss
  clear hwz hcf hcl hls hrd hc h1 h2 h3 hRT q1 q2 q6 q7 q8 q9 hL haa2 hbk hSX
  go_wp2_with fail
  refine wp_region_bw wz.heap.size wz (Below.refl _ _) (by kernel_rfl) (by kernel_rfl) ?_
  repeat (first | go_big_quiet_step (first | (go_at_call 25; with_reducible exact bw_same (HS1 _).out) | (go_at_call 25; with_reducible exact bw_same (HS2 _).out) | fail))
  refine wpQuiet_nil ?_
  rintro _ ⟨xw, rfl⟩
  replace HB := Lib.hid (HB.out.trans (xw.h.mono HB.out.size))
  go_wp2_with fail
  go_ret
  exact ⟨rfl, HB.out⟩
end Go.Proofs.Ytmlingcnbdpbmaa