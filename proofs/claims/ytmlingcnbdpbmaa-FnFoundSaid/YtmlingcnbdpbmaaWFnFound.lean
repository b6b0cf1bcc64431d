/- The walk of the law FnFound: it returns true, and nothing that was there is written. -/
import Derived.Test.YtmlingcnbdpbmaaDrIM
import Derived.Test.YtmlingcnbdpbmaaFnd
import Derived.Test.YtmlingcnbdpbmaaLike
import Derived.Deep.RegionHeld3
namespace Go.Proofs.Ytmlingcnbdpbmaa
open Go.RowKit
set_option linter.unusedVariables false
set_option linter.unusedSimpArgs false

theorem foundA_law {wd po : Int} {xs : List Int} (h0 : (foundA wd po xs).2 = 0) (h1 : (foundA wd po xs).1 = true) : missB wd po xs = false := by
  unfold foundA at h0 h1
  cases c1 : crcB wd po
  · rw [c1] at h0; simp at h0
  cases c2 : isBitsB xs
  · rw [c1, c2] at h0; simp at h0
  cases c3 : hasY xs 1
  · rw [c1, c2, c3] at h0; simp at h0
  rw [c1, c2, c3] at h1
  exact found_law c1 c2 c3 (by simpa using h1)
set_option maxHeartbeats 4000000 in
theorem fnFound_walk {w : World} (a0 : Option Addr) (len0 cap0 : Nat) (z0 : List Int) (w0 : IsRow .u8 w a0 len0 cap0 z0) :
    Calls Try.prog 3 #[.slice a0 len0 cap0] w fun e w' => e = .returned (.bool true) ∧ Below w.heap.size w w' := by
  obtain ⟨hl0, hr0⟩ := w0.rd
  have ho0 := w0.bytes
  obtain ⟨cs, hcs⟩ : ∃ cs, cs = z0.take len0 := ⟨_, rfl⟩
  rw [← hcs] at hl0 hr0 ho0
  clear hcs w0
  subst hl0
  have HR := Lib.hid hr0
  have HO8 := Lib.hid ho0
  clear hr0 ho0
  by_cases hbig : 4096 < cs.length
  · have hd : decide ((4096 : Int) < (cs.length : Int)) = true := decide_eq_true (by omega)
    go_enter Try.func3, Try.ntmps3
    go_wp2_with (go_at_call 7; refine (big_any _ cs _ HR.out).mono ?_; rw [hd]; rintro e w' ⟨rfl, rfl⟩)
    go_ret
    exact ⟨rfl, Below.refl _ _⟩
  have hd : decide ((4096 : Int) < (cs.length : Int)) = false := decide_eq_false (by omega)
  have hcl : cs.length ≤ 4096 := by omega
  have HB := Lib.hid (Below.refl w.heap.size w)
  go_enter Try.func3, Try.ntmps3
  go_wp2_with fail
  refine (big_any _ cs _ HR.out).mono ?_
  rw [hd]
  rintro e w' ⟨rfl, rfl⟩
  go_wp2_with fail
  refine (drawIsFound_any _ cs _ (HR.out.below HB.out) hcl HO8.out).mono ?_
  rintro e w1x ⟨wd, po, ve, xs, rfl, hOxs, hbr, hb1⟩
  have HOxs := Lib.hid (hOxs.mono HB.out.size)
  clear hOxs
  replace HB := Lib.hid (bthen HB.out hb1)
  clear hb1
  have HBR := Lib.hid hbr
  clear hbr
  obtain ⟨Y, hY⟩ : ∃ Y, Y = foundA wd po xs := ⟨_, rfl⟩
  have HY := Lib.hid hY
  clear hY
  have hzG := HB.out.size
  have HG := Lib.hid (Cell2.new w1x wd po 25)
  replace HOxs := Lib.hid (HOxs.out.alloc (.cells #[.int .i64 wd, .int .i64 po] 25))
  replace HB := Lib.hid (HB.out.alloc HB.out.size (.cells #[.int .i64 wd, .int .i64 po] 25))
  obtain ⟨W, hW⟩ : ∃ W, W = w1x.alloc (.cells #[.int .i64 wd, .int .i64 po] 25) := ⟨_, rfl⟩
  obtain ⟨G, hG⟩ : ∃ G, G = w1x.heap.size := ⟨_, rfl⟩
  have hsW : W.heap.size = G + 1 := by rw [hW, hG]; simp
  rw [← hG] at HG hzG
  rw [← hW] at HB HG HOxs
  obtain ⟨c0G, c1G, f0G, f1G⟩ := HG.out
  go_wp2_with fail
  rw [← hW, ← hG]
  clear hW hG
  clear c0G c1G f0G f1G
  refine (isFound_any wd po _ xs _ HOxs.out.rd HBR.out).mono ?_
  rw [← HY.out]
  rintro e w2x ⟨rfl, hb2⟩
  replace HG := Lib.hid (HG.out.next hb2)
  replace HOxs := Lib.hid (HOxs.out.below hb2)
  replace HB := Lib.hid (bthen HB.out hb2)
  clear hb2
  obtain ⟨c0G, c1G, f0G, f1G⟩ := HG.out
  go_wp2_with fail
  clear c0G c1G f0G f1G
  refine (sIsFound_any wd po _ xs _ HOxs.out.rd HBR.out).mono ?_
  rw [← HY.out]
  rintro e w3x ⟨rfl, hb3⟩
  replace HG := Lib.hid (HG.out.next hb3)
  replace HOxs := Lib.hid (HOxs.out.below hb3)
  replace HB := Lib.hid (bthen HB.out hb3)
  clear hb3
  obtain ⟨M, hM⟩ : ∃ M, M = missB wd po xs := ⟨_, rfl⟩
  have HM := Lib.hid hM
  clear hM
  have hyy : (Y.2 != Y.2) = false := by simp
  have hy1 : (Y.1 != Y.1) = false := by simp
  have hmm : (M != M) = false := by simp
  have HGd := Lib.hid HG.out.drew
  have HBd := Lib.hid HB.out.drew
  have HOd := Lib.hid HOxs.out.drew
  obtain ⟨c0, c1, f0, f1⟩ := HGd.out
  go_wp2_with fail
  go_region_held3 (fun w' => w'.cell? ⟨G, 0, none⟩ = some (.int .i64 wd) ∧ w'.cell? ⟨G, 1, none⟩ = some (.int .i64 po)) (go_keep)
    ((first | (go_at_call 11; (with_reducible refine (isMissed_any wd po _ xs _ HOd.out.rd).mono ?_); rw [← HM.out]; rintro e w7x ⟨rfl, hb7⟩; have HG7 := Lib.hid (HGd.out.next hb7); have HB7 := Lib.hid (bthen HBd.out hb7); have HO7 := Lib.hid (HOd.out.below hb7); obtain ⟨d0, d1, e0, e1⟩ := HG7.out; clear hb7) | (go_at_call 12; (with_reducible refine (sIsMissed_any wd po _ xs _ HO7.out.rd).mono ?_); rw [← HM.out]; rintro e w8x ⟨rfl, hb8⟩; have HG8 := Lib.hid (HG7.out.next hb8); have HB8 := Lib.hid (bthen HB7.out hb8); have HO8x := Lib.hid (HO7.out.below hb8); obtain ⟨k0, k1, l0, l1⟩ := HG8.out; clear hb8) | fail))
  clear HG HB HOxs HGd HBd HOd HG7 HB7 HO7
  have HG := Lib.hid HG8.out
  have HB := Lib.hid HB8.out
  have HOxs := Lib.hid HO8x.out
  clear HG8 HB8 HO8x
  by_cases hb0 : Y.2 = 0
  rotate_left
  · have hne : (Y.2 != 0) = true := by simpa using hb0
    clear hb0
    obtain ⟨c0G, c1G, f0G, f1G⟩ := HG.out
    go_wp2_with fail
    clear c0G c1G f0G f1G
    go_ret
    exact ⟨rfl, HB.out⟩
  have hne : (Y.2 != 0) = false := by simp [hb0]
  cases hy : Y.1
  · clear hb0
    obtain ⟨c0G, c1G, f0G, f1G⟩ := HG.out
    go_wp2_with fail
    clear c0G c1G f0G f1G
    go_ret
    exact ⟨rfl, HB.out⟩
  have hmf : M = false := by rw [HM.out]; exact foundA_law (HY.out ▸ hb0) (HY.out ▸ hy)
  subst hmf
  clear hb0
  obtain ⟨c0G, c1G, f0G, f1G⟩ := HG.out
  go_wp2_with fail
  clear c0G c1G f0G f1G
  refine (isMissed_any wd po _ xs _ HOxs.out.rd).mono ?_
  rw [← HM.out]
  rintro e w4x ⟨rfl, hb4⟩
  replace HG := Lib.hid (HG.out.next hb4)
  replace HOxs := Lib.hid (HOxs.out.below hb4)
  replace HB := Lib.hid (bthen HB.out hb4)
  clear hb4
  obtain ⟨c0G, c1G, f0G, f1G⟩ := HG.out
  go_wp2_with fail
  clear c0G c1G f0G f1G
  go_ret
  exact ⟨rfl, HB.out⟩
end Go.Proofs.Ytmlingcnbdpbmaa