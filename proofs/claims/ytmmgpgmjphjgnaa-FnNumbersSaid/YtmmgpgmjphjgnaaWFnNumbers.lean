/- The walk of the law FnNumbers: it returns true, and nothing that was there is written. -/
import Derived.Test.YtmmgpgmjphjgnaaDrN
import Derived.Test.YtmmgpgmjphjgnaaNumOps
import Derived.Test.YtmmgpgmjphjgnaaNumApp
import Derived.Test.YtmmgpgmjphjgnaaNumL
import Derived.Test.YtmmgpgmjphjgnaaLike
namespace Go.Proofs.Ytmmgpgmjphjgnaa
open Go.RowKit
set_option linter.unusedVariables false
set_option linter.unusedSimpArgs false

theorem appNum_ok {xs : List Int} {x n : Int} (h : (appNum xs x n).2 = 0) : isBitsB xs = true ∧ 0 ≤ n ∧ n ≤ 40 ∧ 0 ≤ x ∧ x < p2 n ∧ (xs.length : Int) + n ≤ 8192 ∧ (appNum xs x n).1 = xs ++ bitsOf x n.toNat := by
  unfold appNum at h ⊢
  cases h1 : isBitsB xs
  · simp [h1] at h
  · cases h2 : inB n 0 40
    · simp [h1, h2] at h
    · cases h3 : inB x 0 (p2 n - 1)
      · simp [h1, h2, h3] at h
      · by_cases h4 : 8192 < (xs.length : Int) + n
        · simp [h1, h2, h3, h4] at h
        · have := inB_yes h2
          have := inB_yes h3
          refine ⟨rfl, by omega, by omega, by omega, by omega, by omega, by simp [h4]⟩
theorem numAt_back {xs : List Int} {x : Int} {N : Nat} (h : isBitsB xs = true) (hN : N ≤ 40) (h0 : 0 ≤ x) (h1 : x < p2 (N : Int)) (hl : xs.length + N ≤ 8192) : numAt (xs ++ bitsOf x N) (xs.length : Int) (N : Int) = (x, 0) := by
  obtain ⟨hlen, hbt⟩ := isBitsB_yes h
  have g1 : isBitsB (xs ++ bitsOf x N) = true := isBitsB_mk (by rw [List.length_append, length_bitsOf]; omega) (by rw [allIn_append, hbt, allIn_bitsOf]; rfl)
  have g2 : inB (N : Int) 0 40 = true := inB_mk (by omega)
  have g3 : inB (xs.length : Int) 0 (((xs ++ bitsOf x N).length : Int) - (N : Int)) = true := inB_mk (by rw [List.length_append, length_bitsOf]; omega)
  have e : ((xs ++ bitsOf x N).drop xs.length).take N = bitsOf x N := by
    rw [List.drop_left]
    exact List.take_of_length_le (by rw [length_bitsOf]; exact Nat.le_refl _)
  unfold numAt
  rw [g1, g2, g3]
  simp only [Bool.true_eq_false, if_false, Int.toNat_natCast, e, numOf_bitsOf N x h0 h1]

set_option maxHeartbeats 4000000 in
theorem fnNumbers_walk {w : World} (a0 : Option Addr) (len0 cap0 : Nat) (z0 : List Int) (w0 : IsRow .u8 w a0 len0 cap0 z0) :
    Calls Try.prog 5 #[.slice a0 len0 cap0] w fun e w' => e = .returned (.bool true) ∧ Below w.heap.size w w' := by
  obtain ⟨hl0, hr0⟩ := w0.rd
  have ho0 := w0.bytes
  obtain ⟨cs, hcs⟩ : ∃ cs, cs = z0.take len0 := ⟨_, rfl⟩
  rw [← hcs] at hl0 hr0 ho0
  clear hcs w0
  subst hl0
  have HR := Lib.hid hr0
  have HO8 := Lib.hid ho0
  clear hr0 ho0
  by_cases hbig : 4096 < cs.length
  · have hd : decide ((4096 : Int) < (cs.length : Int)) = true := decide_eq_true (by omega)
    go_enter Try.func5, Try.ntmps5
    go_wp2_with (go_at_call 8; refine (big_any _ cs _ HR.out).mono ?_; rw [hd]; rintro e w' ⟨rfl, rfl⟩)
    go_ret
    exact ⟨rfl, Below.refl _ _⟩
  have hd : decide ((4096 : Int) < (cs.length : Int)) = false := decide_eq_false (by omega)
  have hcl : cs.length ≤ 4096 := by omega
  have HB := Lib.hid (Below.refl w.heap.size w)
  go_enter Try.func5, Try.ntmps5
  go_wp2_with fail
  refine (big_any _ cs _ HR.out).mono ?_
  rw [hd]
  rintro e w' ⟨rfl, rfl⟩
  go_wp2_with fail
  refine (drawAppendNumber_any _ cs _ (HR.out.below HB.out) hcl HO8.out).mono ?_
  rintro e w1x ⟨v, xs, val, n, rfl, hOxs, hxl, hb1⟩
  have HOxs := Lib.hid (hOxs.mono HB.out.size)
  clear hOxs
  replace HB := Lib.hid (bthen HB.out hb1)
  clear hb1
  obtain ⟨aa, ca, rfl⟩ := HOxs.out.slice
  obtain ⟨X, hX⟩ : ∃ X, X = appNum xs val n := ⟨_, rfl⟩
  have HX := Lib.hid hX
  clear hX
  have heq := eqB_self
  go_wp2_with fail
  refine (appendNumberX_any _ xs _ _ _ HOxs.out.rd).mono ?_
  rw [← HX.out]
  rintro e w2x ⟨v2, rfl, hO2, hb2⟩
  have HOys := Lib.hid (hO2.mono HB.out.size)
  clear hO2
  replace HOxs := Lib.hid (HOxs.out.below hb2)
  replace HB := Lib.hid (bthen HB.out hb2)
  clear hb2
  go_wp2_with fail
  refine (sAppendNumber_any _ xs _ _ _ HOxs.out.rd).mono ?_
  rw [← HX.out]
  rintro e w3x ⟨v3, rfl, hO3, hb3⟩
  have HOzs := Lib.hid (hO3.mono HB.out.size)
  clear hO3
  replace HOxs := Lib.hid (HOxs.out.below hb3)
  replace HOys := Lib.hid (HOys.out.below hb3)
  replace HB := Lib.hid (bthen HB.out hb3)
  clear hb3
  obtain ⟨ab, cb, rfl⟩ := HOys.out.slice
  go_wp2_with fail
  refine (likeInts_any _ _ X.1 X.1 _ HOys.out.rd HOzs.out.rd).mono ?_
  rw [heq]
  rintro e w4x ⟨rfl, hb4⟩
  replace HOxs := Lib.hid (HOxs.out.below hb4)
  replace HOys := Lib.hid (HOys.out.below hb4)
  replace HOzs := Lib.hid (HOzs.out.below hb4)
  replace HB := Lib.hid (bthen HB.out hb4)
  clear hb4
  by_cases hok : X.2 = 0
  rotate_left
  · have hne : (X.2 != 0) = true := by simpa using hok
    clear hok
    go_wp2_with fail
    go_ret
    exact ⟨rfl, HB.out⟩
  have hok2 := appNum_ok (HX.out ▸ hok)
  obtain ⟨hbt, hn0, hn1, hv0, hv1, hlm, hXe⟩ := hok2
  rw [← HX.out] at hXe
  obtain ⟨N, rfl⟩ := Int.eq_ofNat_of_zero_le hn0
  simp only [Int.toNat_natCast] at hXe
  have HBK := Lib.hid (numAt_back hbt (by omega) hv0 hv1 (by omega))
  rw [← hXe] at HBK
  have hne : (X.2 != 0) = false := by simp [hok]
  obtain ⟨i0, hi, hz0, hz1, hz2⟩ := info_parts infoD
  have hrd := HOys.out.rd
  obtain ⟨a', cap', hv, h1, h2, h3, hc⟩ := id hrd
  cases hv
  have hlen : xs.length ≤ X.1.length := by rw [hXe, List.length_append]; omega
  obtain ⟨S, hS, hRS⟩ := part_to Try.underlying24 hi hz1 h1 h2 h3 hc xs.length hlen
  have e : X.1.take xs.length = xs := by rw [hXe]; exact List.take_left
  rw [e] at hRS
  have HRS := Lib.hid hRS
  have hvv : (val == val) = true := by simp
  clear hok hbt hXe hrd h1 h2 h3 hc hRS hn0 e hv0 hv1 hlen
  go_wp2_with fail
  refine (numberAt_any _ X.1 _ _ _ HOys.out.rd).mono ?_
  rw [HBK.out]
  rintro e wn ⟨rfl, rfl⟩
  go_wp2_with fail
  refine (likeInts_any _ _ _ _ _ HRS.out HOxs.out.rd).mono ?_
  rw [heq]
  rintro e w5x ⟨rfl, hb5⟩
  replace HOxs := Lib.hid (HOxs.out.below hb5)
  replace HOys := Lib.hid (HOys.out.below hb5)
  replace HOzs := Lib.hid (HOzs.out.below hb5)
  replace HRS := Lib.hid (HRS.out.below hb5)
  replace HB := Lib.hid (bthen HB.out hb5)
  clear hb5
  go_wp2_with fail
  go_ret
  exact ⟨rfl, HB.out⟩
end Go.Proofs.Ytmmgpgmjphjgnaa