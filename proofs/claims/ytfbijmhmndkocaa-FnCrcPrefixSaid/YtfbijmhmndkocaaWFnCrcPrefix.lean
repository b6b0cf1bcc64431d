/- The walk of the law FnCrcPrefix: it returns true, and nothing that was there is written. -/
import Derived.Test.YtfbijmhmndkocaaDrQ
import Derived.Test.YtfbijmhmndkocaaCrcL
import Derived.Test.YtfbijmhmndkocaaDice
import Derived.Test.YtfbijmhmndkocaaLike
import Derived.Test.YtfbijmhmndkocaaNumOps
namespace Go.Proofs.Ytfbijmhmndkocaa
open Go.RowKit
set_option linter.unusedVariables false
set_option linter.unusedSimpArgs false

set_option maxHeartbeats 4000000 in
theorem fnCrcPrefix_walk {w : World} (a0 : Option Addr) (len0 cap0 : Nat) (z0 : List Int) (w0 : IsRow .u8 w a0 len0 cap0 z0) :
    Calls Try.prog 3 #[.slice a0 len0 cap0] w fun e w' => e = .returned (.bool true) ∧ Below w.heap.size w w' := by
  obtain ⟨hl0, hr0⟩ := w0.rd
  have ho0 := w0.bytes
  obtain ⟨cs, hcs⟩ : ∃ cs, cs = z0.take len0 := ⟨_, rfl⟩
  rw [← hcs] at hl0 hr0 ho0
  clear hcs w0
  subst hl0
  have HR := Lib.hid hr0
  have HO8 := Lib.hid ho0
  clear hr0 ho0
  by_cases hbig : 4096 < cs.length
  · have hd : decide ((4096 : Int) < (cs.length : Int)) = true := decide_eq_true (by omega)
    go_enter Try.func3, Try.ntmps3
    go_wp2_with (go_at_call 7; refine (big_any _ cs _ HR.out).mono ?_; rw [hd]; rintro e w' ⟨rfl, rfl⟩)
    go_ret
    exact ⟨rfl, Below.refl _ _⟩
  have hd : decide ((4096 : Int) < (cs.length : Int)) = false := decide_eq_false (by omega)
  have hcl : cs.length ≤ 4096 := by omega
  have HB := Lib.hid (Below.refl w.heap.size w)
  go_enter Try.func3, Try.ntmps3
  go_wp2_with fail
  refine (big_any _ cs _ HR.out).mono ?_
  rw [hd]
  rintro e w' ⟨rfl, rfl⟩
  go_wp2_with fail
  refine (drawSeedAfter_any _ cs _ (HR.out.below HB.out) hcl HO8.out).mono ?_
  rintro e w1x ⟨wd, po, sd, va, xs, rfl, hOxs, hshx, hb1⟩
  have HOxs := Lib.hid (hOxs.mono HB.out.size)
  clear hOxs
  replace HB := Lib.hid (bthen HB.out hb1)
  clear hb1
  obtain ⟨X, hX⟩ : ∃ X, X = crcBits wd po sd xs := ⟨_, rfl⟩
  have HX := Lib.hid hX
  clear hX hshx
  have hzG := HB.out.size
  have HG := Lib.hid (Cell2.new w1x wd po 25)
  replace HOxs := Lib.hid (HOxs.out.alloc (.cells #[.int .i64 wd, .int .i64 po] 25))
  replace HB := Lib.hid (HB.out.alloc HB.out.size (.cells #[.int .i64 wd, .int .i64 po] 25))
  obtain ⟨W, hW⟩ : ∃ W, W = w1x.alloc (.cells #[.int .i64 wd, .int .i64 po] 25) := ⟨_, rfl⟩
  obtain ⟨G, hG⟩ : ∃ G, G = w1x.heap.size := ⟨_, rfl⟩
  have hsW : W.heap.size = G + 1 := by rw [hW, hG]; simp
  rw [← hG] at HG hzG
  rw [← hW] at HB HG HOxs
  obtain ⟨aa, ca, rfl⟩ := HOxs.out.slice
  obtain ⟨c0G, c1G, f0G, f1G⟩ := HG.out
  go_wp2_with fail
  rw [← hW, ← hG]
  clear hW hG
  clear c0G c1G f0G f1G
  refine (seedAfter_any wd po sd _ xs _ HOxs.out.rd).mono ?_
  rw [← HX.out]
  rintro e w2x ⟨rfl, hb2⟩
  replace HG := Lib.hid (HG.out.next hb2)
  replace HOxs := Lib.hid (HOxs.out.below hb2)
  replace HB := Lib.hid (bthen HB.out hb2)
  clear hb2
  obtain ⟨c0G, c1G, f0G, f1G⟩ := HG.out
  go_wp2_with fail
  clear c0G c1G f0G f1G
  refine (sSeedAfter_any wd po sd _ xs _ HOxs.out.rd).mono ?_
  rw [← HX.out]
  rintro e w3x ⟨rfl, hb3⟩
  replace HG := Lib.hid (HG.out.next hb3)
  replace HOxs := Lib.hid (HOxs.out.below hb3)
  replace HB := Lib.hid (bthen HB.out hb3)
  clear hb3
  obtain ⟨c0G, c1G, f0G, f1G⟩ := HG.out
  go_wp2_with fail
  clear c0G c1G f0G f1G
  refine (crcOfBits_any wd po sd _ xs _ HOxs.out.rd).mono ?_
  rw [← HX.out]
  rintro e w4x ⟨rfl, hb4⟩
  replace HG := Lib.hid (HG.out.next hb4)
  replace HOxs := Lib.hid (HOxs.out.below hb4)
  replace HB := Lib.hid (bthen HB.out hb4)
  clear hb4
  obtain ⟨c0G, c1G, f0G, f1G⟩ := HG.out
  go_wp2_with fail
  clear c0G c1G f0G f1G
  refine (sCrcOfBits_any wd po sd _ xs _ HOxs.out.rd).mono ?_
  rw [← HX.out]
  rintro e w5x ⟨rfl, hb5⟩
  replace HG := Lib.hid (HG.out.next hb5)
  replace HOxs := Lib.hid (HOxs.out.below hb5)
  replace HB := Lib.hid (bthen HB.out hb5)
  clear hb5
  have hb1 : (X.1 != X.1) = false := by simp
  have hb2 : (X.2 != X.2) = false := by simp
  by_cases hok : X.2 = 0
  rotate_left
  · have hne : (X.2 != 0) = true := by simpa using hok
    clear hok
    obtain ⟨c0G, c1G, f0G, f1G⟩ := HG.out
    go_wp2_with fail
    clear c0G c1G f0G f1G
    go_ret
    exact ⟨rfl, HB.out⟩
  have hne : (X.2 != 0) = false := by simp [hok]
  have hln : xs.length ≤ 8192 := (isBitsB_yes (crcBits_ok (HX.out ▸ hok)).2.2.2).1
  have HOK := Lib.hid hok
  clear hok
  have HP := Lib.hid (fun k : Nat => crc_prefix (HX.out ▸ HOK.out) k)
  obtain ⟨W5, hW5⟩ : ∃ W5, W5 = w5x := ⟨_, rfl⟩
  subst hW5
  go_wp2_with fail
  refine (roll_any _ cs _ _ (HR.out.below HB.out) hcl HO8.out).mono ?_
  rintro e w6x ⟨rfl, hD, hb6⟩
  have HD := Lib.hid hD
  have HBD := Lib.hid hb6
  clear hD hb6
  have hln1 : IntKind.i64.wrap ((xs.length : Int) + 1) = (xs.length : Int) + 1 := IntWalk.i64_in _ (by omega)
  go_wp2_with fail
  refine (dieBelow_any _ _ _ HD.out (by omega)).mono ?_
  rintro e w7x ⟨k, rfl, hk0, hk1, hD, hg⟩
  replace HBD := Lib.hid (HBD.out.trans (grown_below hg (Nat.le_refl _) HBD.out.size))
  clear hD hg HD hln1
  obtain ⟨K, rfl⟩ := Int.eq_ofNat_of_zero_le hk0
  have hK : K ≤ xs.length := by omega
  obtain ⟨sa, hp1, hp2⟩ := HP.out K
  have HP1 := Lib.hid hp1
  have HP2 := Lib.hid hp2
  clear hk0 hk1 hp1 hp2
  replace HB := Lib.hid (HB.out.trans (HBD.out.mono HB.out.size))
  have hrd := HOxs.out.rd.below HBD.out
  replace HG := Lib.hid (HG.out.next HBD.out)
  obtain ⟨i0, hi, hz0, hz1, hz2⟩ := info_parts infoD
  obtain ⟨a', cap', hv, h1, h2, h3, hc⟩ := id hrd
  cases hv
  obtain ⟨S, hS, hRS⟩ := part_to Try.underlying26 hi hz1 h1 h2 h3 hc K (by omega)
  obtain ⟨T, hT, hRT⟩ := part_from Try.underlying26 hi hz1 h1 h2 h3 hc K (by omega)
  have HRS := Lib.hid hRS
  have HRT := Lib.hid hRT
  clear hrd h1 h2 h3 hc hRS hRT HBD HOxs
  have hk0 : ∀ x : BW w7x.heap.size w7x, x.w.cell? ⟨G, 0, none⟩ = some (.int .i64 wd) := fun x => (HG.out.next x.h).c0
  have hk1 : ∀ x : BW w7x.heap.size w7x, x.w.cell? ⟨G, 1, none⟩ = some (.int .i64 po) := fun x => (HG.out.next x.h).c1
  have HS1 : ∀ x : BW w7x.heap.size w7x, Hid (Calls Try.prog 9 #[.agg #[.int .i64 wd, .int .i64 po], .int .i64 sd, S] x.w fun e w' => e = .returned (.tuple #[.int .i64 sa, .int .i64 0]) ∧ Below x.w.heap.size x.w w') := fun x => Lib.hid (by have h := seedAfter_any wd po sd _ (xs.take K) _ (HRS.out.bw rfl x); rwa [HP1.out] at h)
  go_wp2_with fail
  refine wp_region_bw w7x.heap.size w7x (Below.refl _ _) (by kernel_rfl) (by kernel_rfl) ?_
  repeat (go_big_quiet_step ((go_at_call 9; exact bw_of (Nat.le_refl _) (HS1 _).out)))
  refine wpQuiet_nil ?_
  rintro _ ⟨xw, rfl⟩
  clear hk0 hk1 HS1
  replace HB := Lib.hid (HB.out.trans (xw.h.mono HB.out.size))
  replace HG := Lib.hid (HG.out.next xw.h)
  replace HRT := Lib.hid (HRT.out.bw rfl xw)
  obtain ⟨w8x, hw8⟩ : ∃ w8x, w8x = xw.w := ⟨_, rfl⟩
  rw [← hw8] at HB HG HRT ⊢
  clear hw8 HRS
  have hk0 : ∀ x : BW w8x.heap.size w8x, x.w.cell? ⟨G, 0, none⟩ = some (.int .i64 wd) := fun x => (HG.out.next x.h).c0
  have hk1 : ∀ x : BW w8x.heap.size w8x, x.w.cell? ⟨G, 1, none⟩ = some (.int .i64 po) := fun x => (HG.out.next x.h).c1
  have HS1 : ∀ x : BW w8x.heap.size w8x, Hid (Calls Try.prog 11 #[.agg #[.int .i64 wd, .int .i64 po], .int .i64 sa, T] x.w fun e w' => e = .returned (.tuple #[.int .i64 X.1, .int .i64 X.2]) ∧ Below x.w.heap.size x.w w') := fun x => Lib.hid (by have h := crcOfBits_any wd po sa _ (xs.drop K) _ (HRT.out.bw rfl x); rwa [HP2.out, ← HX.out] at h)
  go_wp2_with fail
  refine wp_region_bw w8x.heap.size w8x (Below.refl _ _) (by kernel_rfl) (by kernel_rfl) ?_
  repeat (go_big_quiet_step ((go_at_call 11; exact bw_of (Nat.le_refl _) (HS1 _).out)))
  refine wpQuiet_nil ?_
  rintro _ ⟨xv, rfl⟩
  clear hk0 hk1 HS1
  replace HB := Lib.hid (HB.out.trans (xv.h.mono HB.out.size))
  have hne2 : (X.2 == 0) = true := by simp [HOK.out]
  have hxx : (X.1 == X.1) = true := by simp
  go_wp2_with fail
  go_ret
  exact ⟨rfl, HB.out⟩
end Go.Proofs.Ytfbijmhmndkocaa