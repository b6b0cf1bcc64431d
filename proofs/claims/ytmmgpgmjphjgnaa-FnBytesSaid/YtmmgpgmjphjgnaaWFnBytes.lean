/- The walk of the law FnBytes: it returns true, and nothing that was there is written. -/
import Derived.Test.YtmmgpgmjphjgnaaDrY
import Derived.Test.YtmmgpgmjphjgnaaByL
import Derived.Test.YtmmgpgmjphjgnaaLike
import Derived.Test.YtmmgpgmjphjgnaaLists
namespace Go.Proofs.Ytmmgpgmjphjgnaa
open Go.RowKit
set_option linter.unusedVariables false
set_option linter.unusedSimpArgs false

set_option maxHeartbeats 4000000 in
theorem fnBytes_walk {w : World} (a0 : Option Addr) (len0 cap0 : Nat) (z0 : List Int) (w0 : IsRow .u8 w a0 len0 cap0 z0) :
    Calls Try.prog 6 #[.slice a0 len0 cap0] w fun e w' => e = .returned (.bool true) ∧ Below w.heap.size w w' := by
  obtain ⟨hl0, hr0⟩ := w0.rd
  have ho0 := w0.bytes
  obtain ⟨cs, hcs⟩ : ∃ cs, cs = z0.take len0 := ⟨_, rfl⟩
  rw [← hcs] at hl0 hr0 ho0
  clear hcs w0
  subst hl0
  have HR := Lib.hid hr0
  have HO8 := Lib.hid ho0
  clear hr0 ho0
  by_cases hbig : 4096 < cs.length
  · have hd : decide ((4096 : Int) < (cs.length : Int)) = true := decide_eq_true (by omega)
    go_enter Try.func6, Try.ntmps6
    go_wp2_with (go_at_call 8; refine (big_any _ cs _ HR.out).mono ?_; rw [hd]; rintro e w' ⟨rfl, rfl⟩)
    go_ret
    exact ⟨rfl, Below.refl _ _⟩
  have hd : decide ((4096 : Int) < (cs.length : Int)) = false := decide_eq_false (by omega)
  have hcl : cs.length ≤ 4096 := by omega
  have HB := Lib.hid (Below.refl w.heap.size w)
  go_enter Try.func6, Try.ntmps6
  go_wp2_with fail
  refine (big_any _ cs _ HR.out).mono ?_
  rw [hd]
  rintro e w' ⟨rfl, rfl⟩
  go_wp2_with fail
  refine (drawBytesToBits_any _ cs _ (HR.out.below HB.out) hcl HO8.out).mono ?_
  rintro e w1x ⟨vl, xs, rfl, hOxs, hb1⟩
  have HOxs := Lib.hid (hOxs.mono HB.out.size)
  clear hOxs
  replace HB := Lib.hid (bthen HB.out hb1)
  clear hb1
  obtain ⟨Y, hY⟩ : ∃ Y, Y = byBits xs := ⟨_, rfl⟩
  have HY := Lib.hid hY
  clear hY
  go_wp2_with fail
  refine (bytesToBits_any _ xs _ HOxs.out.rd).mono ?_
  rw [← HY.out]
  rintro e w2x ⟨vb, rfl, hO2, hb2⟩
  have HObs := Lib.hid (hO2.mono HB.out.size)
  clear hO2
  replace HOxs := Lib.hid (HOxs.out.below hb2)
  replace HB := Lib.hid (bthen HB.out hb2)
  clear hb2
  go_wp2_with fail
  refine (sBytesToBits_any _ xs _ HOxs.out.rd).mono ?_
  rw [← HY.out]
  rintro e w3x ⟨vm, rfl, hO3, hb3⟩
  have HOms := Lib.hid (hO3.mono HB.out.size)
  clear hO3
  replace HOxs := Lib.hid (HOxs.out.below hb3)
  replace HObs := Lib.hid (HObs.out.below hb3)
  replace HB := Lib.hid (bthen HB.out hb3)
  clear hb3
  go_wp2_with fail
  refine (drawBitsToBytes_any _ cs _ (HR.out.below HB.out) hcl HO8.out).mono ?_
  rintro e w4x ⟨vo, us, rfl, hOus, hb4⟩
  have HOus := Lib.hid (hOus.mono HB.out.size)
  clear hOus
  replace HOxs := Lib.hid (HOxs.out.below hb4)
  replace HObs := Lib.hid (HObs.out.below hb4)
  replace HOms := Lib.hid (HOms.out.below hb4)
  replace HB := Lib.hid (bthen HB.out hb4)
  clear hb4
  obtain ⟨Z, hZ⟩ : ∃ Z, Z = bitsBy us := ⟨_, rfl⟩
  have HZ := Lib.hid hZ
  clear hZ
  go_wp2_with fail
  refine (bitsToBytes_any _ us _ HOus.out.rd).mono ?_
  rw [← HZ.out]
  rintro e w5x ⟨va, rfl, hO5, hb5⟩
  have HOqs := Lib.hid (hO5.mono HB.out.size)
  clear hO5
  replace HOxs := Lib.hid (HOxs.out.below hb5)
  replace HObs := Lib.hid (HObs.out.below hb5)
  replace HOms := Lib.hid (HOms.out.below hb5)
  replace HOus := Lib.hid (HOus.out.below hb5)
  replace HB := Lib.hid (bthen HB.out hb5)
  clear hb5
  go_wp2_with fail
  refine (sBitsToBytes_any _ us _ HOus.out.rd).mono ?_
  rw [← HZ.out]
  rintro e w6x ⟨vr, rfl, hO6, hb6⟩
  have HOrs := Lib.hid (hO6.mono HB.out.size)
  clear hO6
  replace HOxs := Lib.hid (HOxs.out.below hb6)
  replace HObs := Lib.hid (HObs.out.below hb6)
  replace HOms := Lib.hid (HOms.out.below hb6)
  replace HOus := Lib.hid (HOus.out.below hb6)
  replace HOqs := Lib.hid (HOqs.out.below hb6)
  replace HB := Lib.hid (bthen HB.out hb6)
  clear hb6
  have heq := eqB_self
  have hyy : (Y.2 != Y.2) = false := by simp
  have hzz : (Z.2 != Z.2) = false := by simp
  obtain ⟨ax, cx, rfl⟩ := HOxs.out.slice
  obtain ⟨ab, cb, rfl⟩ := HObs.out.slice
  go_wp2_with fail
  refine (likeInts_any _ _ Y.1 Y.1 _ HObs.out.rd HOms.out.rd).mono ?_
  rw [heq]
  rintro e w7x ⟨rfl, hb7⟩
  replace HOxs := Lib.hid (HOxs.out.below hb7)
  replace HObs := Lib.hid (HObs.out.below hb7)
  replace HOms := Lib.hid (HOms.out.below hb7)
  replace HOus := Lib.hid (HOus.out.below hb7)
  replace HOqs := Lib.hid (HOqs.out.below hb7)
  replace HOrs := Lib.hid (HOrs.out.below hb7)
  replace HB := Lib.hid (bthen HB.out hb7)
  clear hb7
  go_wp2_with fail
  refine (likeInts_any _ _ Z.1 Z.1 _ HOqs.out.rd HOrs.out.rd).mono ?_
  rw [heq]
  rintro e w8x ⟨rfl, hb8⟩
  replace HOxs := Lib.hid (HOxs.out.below hb8)
  replace HObs := Lib.hid (HObs.out.below hb8)
  replace HOms := Lib.hid (HOms.out.below hb8)
  replace HOus := Lib.hid (HOus.out.below hb8)
  replace HOqs := Lib.hid (HOqs.out.below hb8)
  replace HOrs := Lib.hid (HOrs.out.below hb8)
  replace HB := Lib.hid (bthen HB.out hb8)
  clear hb8
  obtain ⟨g, hg⟩ : ∃ g, g = isBytesB xs := ⟨_, rfl⟩
  have HG := Lib.hid hg
  clear hg
  have hgg : (g != g) = false := by simp
  have hgg2 : (g == g) = true := by simp
  go_wp2_with fail
  refine (isBytes_any _ xs _ HOxs.out.rd).mono ?_
  rw [← HG.out]
  rintro e wn ⟨rfl, rfl⟩
  go_wp2_with fail
  refine (sIsBytes_any _ xs _ HOxs.out.rd).mono ?_
  rw [← HG.out]
  rintro e wn ⟨rfl, rfl⟩
  by_cases hbk : Y.2 = 0
  rotate_left
  · have hne : (Y.2 != 0) = true := by simpa using hbk
    clear hbk
    go_wp2_with fail
    go_ret
    exact ⟨rfl, HB.out⟩
  have hne : (Y.2 != 0) = false := by simp [hbk]
  obtain ⟨q1, q2, q3⟩ := by_law (HY.out ▸ hbk)
  rw [← HY.out] at q1 q2
  clear hbk HY
  have HQ := Lib.hid q1
  have HQ2 := Lib.hid q2
  have HQ3 := Lib.hid q3
  clear q1 q2 q3
  go_wp2_with fail
  refine (bitsToBytes_any _ Y.1 _ HObs.out.rd).mono ?_
  rw [HQ.out]
  rintro e w9x ⟨vk, rfl, hO9, hb9⟩
  have HOks := Lib.hid (hO9.mono HB.out.size)
  clear hO9
  replace HOxs := Lib.hid (HOxs.out.below hb9)
  replace HObs := Lib.hid (HObs.out.below hb9)
  replace HOms := Lib.hid (HOms.out.below hb9)
  replace HOus := Lib.hid (HOus.out.below hb9)
  replace HOqs := Lib.hid (HOqs.out.below hb9)
  replace HOrs := Lib.hid (HOrs.out.below hb9)
  replace HB := Lib.hid (bthen HB.out hb9)
  clear hb9
  go_wp2_with fail
  refine (likeInts_any _ _ xs xs _ HOks.out.rd HOxs.out.rd).mono ?_
  rw [heq]
  rintro e w10x ⟨rfl, hb10⟩
  replace HOxs := Lib.hid (HOxs.out.below hb10)
  replace HObs := Lib.hid (HObs.out.below hb10)
  replace HOms := Lib.hid (HOms.out.below hb10)
  replace HOus := Lib.hid (HOus.out.below hb10)
  replace HOqs := Lib.hid (HOqs.out.below hb10)
  replace HOrs := Lib.hid (HOrs.out.below hb10)
  replace HOks := Lib.hid (HOks.out.below hb10)
  replace HB := Lib.hid (bthen HB.out hb10)
  clear hb10
  have hlen : ((Y.1.length : Int) == wrap64 (8 * (xs.length : Int))) = true := by have h3 := HQ3.out; rw [HQ2.out, IntWalk.wrap64_in _ (by omega)]; simp
  go_wp2_with fail
  go_ret
  exact ⟨rfl, HB.out⟩
end Go.Proofs.Ytmmgpgmjphjgnaa