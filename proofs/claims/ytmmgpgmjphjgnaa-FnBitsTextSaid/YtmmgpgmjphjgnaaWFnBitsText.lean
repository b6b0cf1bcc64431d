/- The walk of the law FnBitsText: it returns true, and nothing that was there is written. -/
import Derived.Test.YtmmgpgmjphjgnaaDrT
import Derived.Test.YtmmgpgmjphjgnaaLike
import Derived.Test.YtmmgpgmjphjgnaaLists
namespace Go.Proofs.Ytmmgpgmjphjgnaa
open Go.RowKit
set_option linter.unusedVariables false
set_option linter.unusedSimpArgs false

set_option maxHeartbeats 4000000 in
theorem fnBitsText_walk {w : World} (a0 : Option Addr) (len0 cap0 : Nat) (z0 : List Int) (w0 : IsRow .u8 w a0 len0 cap0 z0) :
    Calls Try.prog 3 #[.slice a0 len0 cap0] w fun e w' => e = .returned (.bool true) ∧ Below w.heap.size w w' := by
  obtain ⟨hl0, hr0⟩ := w0.rd
  have ho0 := w0.bytes
  obtain ⟨cs, hcs⟩ : ∃ cs, cs = z0.take len0 := ⟨_, rfl⟩
  rw [← hcs] at hl0 hr0 ho0
  clear hcs w0
  subst hl0
  have HR := Lib.hid hr0
  have HO8 := Lib.hid ho0
  clear hr0 ho0
  by_cases hbig : 4096 < cs.length
  · have hd : decide ((4096 : Int) < (cs.length : Int)) = true := decide_eq_true (by omega)
    go_enter Try.func3, Try.ntmps3
    go_wp2_with (go_at_call 8; refine (big_any _ cs _ HR.out).mono ?_; rw [hd]; rintro e w' ⟨rfl, rfl⟩)
    go_ret
    exact ⟨rfl, Below.refl _ _⟩
  have hd : decide ((4096 : Int) < (cs.length : Int)) = false := decide_eq_false (by omega)
  have hcl : cs.length ≤ 4096 := by omega
  have HB := Lib.hid (Below.refl w.heap.size w)
  go_enter Try.func3, Try.ntmps3
  go_wp2_with fail
  refine (big_any _ cs _ HR.out).mono ?_
  rw [hd]
  rintro e w' ⟨rfl, rfl⟩
  go_wp2_with fail
  refine (drawBitsText_any _ cs _ (HR.out.below HB.out) hcl HO8.out).mono ?_
  rintro e w1x ⟨vl, xs, rfl, hOxs, hshx, hb1⟩
  have HOxs := Lib.hid (hOxs.mono HB.out.size)
  clear hOxs
  replace HB := Lib.hid (bthen HB.out hb1)
  clear hb1
  obtain ⟨t, ht⟩ : ∃ t, t = txtB xs := ⟨_, rfl⟩
  have HT := Lib.hid ht
  have hts : t.size ≤ 8192 := by rw [ht]; exact txtB_size xs
  have hrb : readB t = (if isBitsB xs = true then xs else [], true) := by rw [ht]; exact readB_txt xs
  have HRB := Lib.hid hrb
  clear ht hrb hshx
  go_wp2_with fail
  refine (bitsText_any _ xs _ HOxs.out.rd).mono ?_
  rw [← HT.out]
  rintro e w2x ⟨rfl, hb2⟩
  replace HOxs := Lib.hid (HOxs.out.below hb2)
  replace HB := Lib.hid (bthen HB.out hb2)
  clear hb2
  obtain ⟨ys, hys⟩ : ∃ ys, ys = (if isBitsB xs = true then xs else []) := ⟨_, rfl⟩
  rw [← hys] at HRB
  have HYS := Lib.hid hys
  clear hys
  go_wp2_with fail
  refine (readBits_any t _ (by omega)).mono ?_
  rw [HRB.out]
  rintro e w3x ⟨vx, rfl, hO3, hb3⟩
  have HOys := Lib.hid (hO3.mono HB.out.size)
  clear hO3
  replace HOxs := Lib.hid (HOxs.out.below hb3)
  replace HB := Lib.hid (bthen HB.out hb3)
  clear hb3
  go_wp2_with fail
  refine (drawReadBits_any _ cs _ (HR.out.below HB.out) hcl HO8.out).mono ?_
  rintro e w4x ⟨u, rfl, hus, hb4⟩
  replace HOxs := Lib.hid (HOxs.out.below hb4)
  replace HOys := Lib.hid (HOys.out.below hb4)
  replace HB := Lib.hid (bthen HB.out hb4)
  clear hb4
  obtain ⟨Z, hZ⟩ : ∃ Z, Z = readB u := ⟨_, rfl⟩
  have HZ := Lib.hid hZ
  clear hZ
  go_wp2_with fail
  refine (readBits_any u _ (by omega)).mono ?_
  rw [← HZ.out]
  rintro e w5x ⟨vy, rfl, hO5, hb5⟩
  have HOus := Lib.hid (hO5.mono HB.out.size)
  clear hO5
  replace HOxs := Lib.hid (HOxs.out.below hb5)
  replace HOys := Lib.hid (HOys.out.below hb5)
  replace HB := Lib.hid (bthen HB.out hb5)
  clear hb5
  go_wp2_with fail
  refine (sReadBits_any u _ (by omega)).mono ?_
  rw [← HZ.out]
  rintro e w6x ⟨vz, rfl, hO6, hb6⟩
  have HOws := Lib.hid (hO6.mono HB.out.size)
  clear hO6
  replace HOxs := Lib.hid (HOxs.out.below hb6)
  replace HOys := Lib.hid (HOys.out.below hb6)
  replace HOus := Lib.hid (HOus.out.below hb6)
  replace HB := Lib.hid (bthen HB.out hb6)
  clear hb6
  go_wp2_with fail
  refine (sBitsText_any _ xs _ HOxs.out.rd).mono ?_
  rw [← HT.out]
  rintro e w7x ⟨rfl, hb7⟩
  replace HOxs := Lib.hid (HOxs.out.below hb7)
  replace HOys := Lib.hid (HOys.out.below hb7)
  replace HOus := Lib.hid (HOus.out.below hb7)
  replace HOws := Lib.hid (HOws.out.below hb7)
  replace HB := Lib.hid (bthen HB.out hb7)
  clear hb7
  have heq := eqB_self
  have hzz : (Z.2 == Z.2) = true := by simp
  cases hib : isBitsB xs
  · clear HYS HRB HT
    go_wp2_with fail
    refine (sIsBits_any _ xs _ HOxs.out.rd).mono ?_
    rw [hib]
    rintro e wn ⟨rfl, rfl⟩
    have hbb : (false == false) = true := rfl
    go_wp2_with fail
    refine (likeInts_any _ _ Z.1 Z.1 _ HOus.out.rd HOws.out.rd).mono ?_
    rw [heq]
    rintro e w8x ⟨rfl, hb8⟩
    replace HOxs := Lib.hid (HOxs.out.below hb8)
    replace HOys := Lib.hid (HOys.out.below hb8)
    replace HOus := Lib.hid (HOus.out.below hb8)
    replace HOws := Lib.hid (HOws.out.below hb8)
    replace HB := Lib.hid (bthen HB.out hb8)
    clear hb8
    go_wp2_with fail
    refine (isBits_any _ xs _ HOxs.out.rd).mono ?_
    rw [hib]
    rintro e wn ⟨rfl, rfl⟩
    go_wp2_with fail
    refine (sIsBits_any _ xs _ HOxs.out.rd).mono ?_
    rw [hib]
    rintro e wn ⟨rfl, rfl⟩
    go_wp2_with fail
    go_ret
    exact ⟨rfl, HB.out⟩
  have hye : ys = xs := by rw [HYS.out, hib]; rfl
  subst hye
  clear HYS HRB HT
  go_wp2_with fail
  refine (sIsBits_any _ ys _ HOxs.out.rd).mono ?_
  rw [hib]
  rintro e wn ⟨rfl, rfl⟩
  go_wp2_with fail
  refine (likeInts_any _ _ ys ys _ HOys.out.rd HOxs.out.rd).mono ?_
  rw [heq]
  rintro e w8x ⟨rfl, hb8⟩
  replace HOxs := Lib.hid (HOxs.out.below hb8)
  replace HOys := Lib.hid (HOys.out.below hb8)
  replace HOus := Lib.hid (HOus.out.below hb8)
  replace HOws := Lib.hid (HOws.out.below hb8)
  replace HB := Lib.hid (bthen HB.out hb8)
  clear hb8
  have hbb : (true == true) = true := rfl
  go_wp2_with fail
  refine (likeInts_any _ _ Z.1 Z.1 _ HOus.out.rd HOws.out.rd).mono ?_
  rw [heq]
  rintro e w9x ⟨rfl, hb9⟩
  replace HOxs := Lib.hid (HOxs.out.below hb9)
  replace HOys := Lib.hid (HOys.out.below hb9)
  replace HOus := Lib.hid (HOus.out.below hb9)
  replace HOws := Lib.hid (HOws.out.below hb9)
  replace HB := Lib.hid (bthen HB.out hb9)
  clear hb9
  go_wp2_with fail
  refine (isBits_any _ ys _ HOxs.out.rd).mono ?_
  rw [hib]
  rintro e wn ⟨rfl, rfl⟩
  go_wp2_with fail
  refine (sIsBits_any _ ys _ HOxs.out.rd).mono ?_
  rw [hib]
  rintro e wn ⟨rfl, rfl⟩
  go_wp2_with fail
  go_ret
  exact ⟨rfl, HB.out⟩
end Go.Proofs.Ytmmgpgmjphjgnaa