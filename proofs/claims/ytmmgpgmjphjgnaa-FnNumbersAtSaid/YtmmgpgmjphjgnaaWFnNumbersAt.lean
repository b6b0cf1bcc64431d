/- The walk of the law FnNumbersAt: it returns true, and nothing that was there is written. -/
import Derived.Test.YtmmgpgmjphjgnaaDrN
import Derived.Test.YtmmgpgmjphjgnaaNumOps
import Derived.Test.YtmmgpgmjphjgnaaNumApp
import Derived.Test.YtmmgpgmjphjgnaaNumL
import Derived.Test.YtmmgpgmjphjgnaaLike
namespace Go.Proofs.Ytmmgpgmjphjgnaa
open Go.RowKit
set_option linter.unusedVariables false
set_option linter.unusedSimpArgs false

theorem numAt_ok {xs : List Int} {lo n : Int} (h : (numAt xs lo n).2 = 0) : isBitsB xs = true ∧ 0 ≤ n ∧ n ≤ 40 ∧ 0 ≤ lo ∧ lo + n ≤ xs.length ∧ (numAt xs lo n).1 = numOf ((xs.drop lo.toNat).take n.toNat) := by
  unfold numAt at h ⊢
  cases h1 : isBitsB xs
  · simp [h1] at h
  · cases h2 : inB n 0 40
    · simp [h1, h2] at h
    · cases h3 : inB lo 0 ((xs.length : Int) - n)
      · simp [h1, h2, h3] at h
      · have := inB_yes h2
        have := inB_yes h3
        refine ⟨rfl, by omega, by omega, by omega, by omega, by simp⟩
theorem appNum_back {xs : List Int} {L N : Nat} (h : isBitsB xs = true) (hN : N ≤ 40) (hl : L + N ≤ xs.length) : appNum (xs.take L) (numOf ((xs.drop L).take N)) (N : Int) = (xs.take (L + N), 0) := by
  obtain ⟨hlen, hbt⟩ := isBitsB_yes h
  have h1 : isBitsB (xs.take L) = true := isBitsB_mk (by rw [List.length_take]; omega) (allIn_take _ hbt)
  have hm := allIn_take N (allIn_drop L hbt)
  have hml : ((xs.drop L).take N).length = N := by rw [List.length_take, List.length_drop]; omega
  have hb := numOf_bound _ hm
  rw [hml] at hb
  have h2 : inB (N : Int) 0 40 = true := inB_mk (by omega)
  have h3 : inB (numOf ((xs.drop L).take N)) 0 (p2 (N : Int) - 1) = true := inB_mk (by omega)
  have h4 : ¬ (8192 < ((xs.take L).length : Int) + (N : Int)) := by rw [List.length_take]; omega
  unfold appNum
  rw [h1, h2, h3]
  have e := bitsOf_numOf _ hm
  rw [hml] at e
  simp only [Bool.true_eq_false, if_false, Int.toNat_natCast, e]
  rw [if_neg h4, ← List.take_add]

set_option maxHeartbeats 4000000 in
theorem fnNumbersAt_walk {w : World} (a0 : Option Addr) (len0 cap0 : Nat) (z0 : List Int) (w0 : IsRow .u8 w a0 len0 cap0 z0) :
    Calls Try.prog 4 #[.slice a0 len0 cap0] w fun e w' => e = .returned (.bool true) ∧ Below w.heap.size w w' := by
  obtain ⟨hl0, hr0⟩ := w0.rd
  have ho0 := w0.bytes
  obtain ⟨cs, hcs⟩ : ∃ cs, cs = z0.take len0 := ⟨_, rfl⟩
  rw [← hcs] at hl0 hr0 ho0
  clear hcs w0
  subst hl0
  have HR := Lib.hid hr0
  have HO8 := Lib.hid ho0
  clear hr0 ho0
  by_cases hbig : 4096 < cs.length
  · have hd : decide ((4096 : Int) < (cs.length : Int)) = true := decide_eq_true (by omega)
    go_enter Try.func4, Try.ntmps4
    go_wp2_with (go_at_call 8; refine (big_any _ cs _ HR.out).mono ?_; rw [hd]; rintro e w' ⟨rfl, rfl⟩)
    go_ret
    exact ⟨rfl, Below.refl _ _⟩
  have hd : decide ((4096 : Int) < (cs.length : Int)) = false := decide_eq_false (by omega)
  have hcl : cs.length ≤ 4096 := by omega
  have HB := Lib.hid (Below.refl w.heap.size w)
  go_enter Try.func4, Try.ntmps4
  go_wp2_with fail
  refine (big_any _ cs _ HR.out).mono ?_
  rw [hd]
  rintro e w' ⟨rfl, rfl⟩
  go_wp2_with fail
  refine (drawNumberAt_any _ cs _ (HR.out.below HB.out) hcl HO8.out).mono ?_
  rintro e w1x ⟨v, xs, lo, n, rfl, hOxs, hxl, hb1⟩
  have HOxs := Lib.hid (hOxs.mono HB.out.size)
  clear hOxs
  replace HB := Lib.hid (bthen HB.out hb1)
  clear hb1
  obtain ⟨aa, ca, rfl⟩ := HOxs.out.slice
  obtain ⟨X, hX⟩ : ∃ X, X = numAt xs lo n := ⟨_, rfl⟩
  have HX := Lib.hid hX
  clear hX
  go_wp2_with fail
  refine (numberAt_any _ xs _ _ _ HOxs.out.rd).mono ?_
  rw [← HX.out]
  rintro e wn ⟨rfl, rfl⟩
  go_wp2_with fail
  refine (sNumberAt_any _ xs _ _ _ HOxs.out.rd).mono ?_
  rw [← HX.out]
  rintro e wn ⟨rfl, rfl⟩
  by_cases hok : X.2 = 0
  rotate_left
  · have hne : (X.2 != 0) = true := by simpa using hok
    clear hok
    go_wp2_with fail
    go_ret
    exact ⟨rfl, HB.out⟩
  have hok2 := numAt_ok (HX.out ▸ hok)
  obtain ⟨hbt, hn0, hn1, hlo0, hlo1, hXe⟩ := hok2
  rw [← HX.out] at hXe
  obtain ⟨N, rfl⟩ := Int.eq_ofNat_of_zero_le hn0
  obtain ⟨L, rfl⟩ := Int.eq_ofNat_of_zero_le hlo0
  simp only [Int.toNat_natCast] at hXe
  have hLN : L + N ≤ xs.length := by omega
  have HBK := Lib.hid (appNum_back hbt (by omega) hLN)
  rw [← hXe] at HBK
  have hne : (X.2 != 0) = false := by simp [hok]
  obtain ⟨i0, hi, hz0, hz1, hz2⟩ := info_parts infoD
  have hrd := HOxs.out.rd
  obtain ⟨a', cap', hv, h1, h2, h3, hc⟩ := id hrd
  cases hv
  obtain ⟨S, hS, hRS⟩ := part_to Try.underlying24 hi hz1 h1 h2 h3 hc L (by omega)
  obtain ⟨T, hT, hRT⟩ := part_to Try.underlying24 hi hz1 h1 h2 h3 hc (L + N) (by omega)
  have hT2 : ∀ wx, (Instr.slice 24 (.slice aa xs.length ca) none (some (.int .i64 ((L : Int) + (N : Int)))) none).run Try.prog wx = .ok T wx := by
    have e : ((L + N : Nat) : Int) = (L : Int) + (N : Int) := by omega
    rw [← e]; exact hT
  have HRS := Lib.hid hRS
  have HRT := Lib.hid hRT
  have heq := eqB_self
  clear hok hbt hXe hrd h1 h2 h3 hc hRS hRT hlo0 hn0 hT
  go_wp2_with fail
  refine (appendNumberX_any _ (xs.take L) _ _ _ HRS.out).mono ?_
  rw [HBK.out]
  rintro e w2x ⟨v2, rfl, hO2, hb2⟩
  have HOys := Lib.hid (hO2.mono HB.out.size)
  clear hO2
  replace HOxs := Lib.hid (HOxs.out.below hb2)
  replace HRT := Lib.hid (HRT.out.below hb2)
  replace HB := Lib.hid (bthen HB.out hb2)
  clear hb2
  go_wp2_with fail
  refine (likeInts_any _ _ _ _ _ HOys.out.rd HRT.out).mono ?_
  rw [heq]
  rintro e w3x ⟨rfl, hb3⟩
  replace HOxs := Lib.hid (HOxs.out.below hb3)
  replace HOys := Lib.hid (HOys.out.below hb3)
  replace HRT := Lib.hid (HRT.out.below hb3)
  replace HB := Lib.hid (bthen HB.out hb3)
  clear hb3
  go_wp2_with fail
  go_ret
  exact ⟨rfl, HB.out⟩
end Go.Proofs.Ytmmgpgmjphjgnaa