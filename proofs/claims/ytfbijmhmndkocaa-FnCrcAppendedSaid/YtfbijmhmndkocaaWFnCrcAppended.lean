/- The walk of the law FnCrcAppended: it returns true, and nothing that was there is written. -/
import Derived.Test.YtfbijmhmndkocaaDrH
import Derived.Test.YtfbijmhmndkocaaAppL
import Derived.Test.YtfbijmhmndkocaaLike
namespace Go.Proofs.Ytfbijmhmndkocaa
open Go.RowKit
set_option linter.unusedVariables false
set_option linter.unusedSimpArgs false

set_option maxHeartbeats 4000000 in
theorem fnCrcAppended_walk {w : World} (a0 : Option Addr) (len0 cap0 : Nat) (z0 : List Int) (w0 : IsRow .u8 w a0 len0 cap0 z0) :
    Calls Try.prog 6 #[.slice a0 len0 cap0] w fun e w' => e = .returned (.bool true) ∧ Below w.heap.size w w' := by
  obtain ⟨hl0, hr0⟩ := w0.rd
  have ho0 := w0.bytes
  obtain ⟨cs, hcs⟩ : ∃ cs, cs = z0.take len0 := ⟨_, rfl⟩
  rw [← hcs] at hl0 hr0 ho0
  clear hcs w0
  subst hl0
  have HR := Lib.hid hr0
  have HO8 := Lib.hid ho0
  clear hr0 ho0
  by_cases hbig : 4096 < cs.length
  · have hd : decide ((4096 : Int) < (cs.length : Int)) = true := decide_eq_true (by omega)
    go_enter Try.func6, Try.ntmps6
    go_wp2_with (go_at_call 7; refine (big_any _ cs _ HR.out).mono ?_; rw [hd]; rintro e w' ⟨rfl, rfl⟩)
    go_ret
    exact ⟨rfl, Below.refl _ _⟩
  have hd : decide ((4096 : Int) < (cs.length : Int)) = false := decide_eq_false (by omega)
  have hcl : cs.length ≤ 4096 := by omega
  have HB := Lib.hid (Below.refl w.heap.size w)
  go_enter Try.func6, Try.ntmps6
  go_wp2_with fail
  refine (big_any _ cs _ HR.out).mono ?_
  rw [hd]
  rintro e w' ⟨rfl, rfl⟩
  go_wp2_with fail
  refine (drawAppendCrc_any _ cs _ (HR.out.below HB.out) hcl HO8.out).mono ?_
  rintro e w1x ⟨wd, po, sd, va, xs, rfl, hOxs, hshx, hb1⟩
  have HOxs := Lib.hid (hOxs.mono HB.out.size)
  clear hOxs
  replace HB := Lib.hid (bthen HB.out hb1)
  clear hb1
  obtain ⟨X, hX⟩ : ∃ X, X = appCrc wd po sd xs := ⟨_, rfl⟩
  have HX := Lib.hid hX
  clear hX hshx
  have heq := eqB_self
  have hzG := HB.out.size
  have HG := Lib.hid (Cell2.new w1x wd po 25)
  replace HOxs := Lib.hid (HOxs.out.alloc (.cells #[.int .i64 wd, .int .i64 po] 25))
  replace HB := Lib.hid (HB.out.alloc hzG (.cells #[.int .i64 wd, .int .i64 po] 25))
  obtain ⟨W, hW⟩ : ∃ W, W = w1x.alloc (.cells #[.int .i64 wd, .int .i64 po] 25) := ⟨_, rfl⟩
  obtain ⟨G, hG⟩ : ∃ G, G = w1x.heap.size := ⟨_, rfl⟩
  have hsW : W.heap.size = G + 1 := by rw [hW, hG]; simp
  rw [← hG] at HG hzG
  rw [← hW] at HB HOxs HG
  obtain ⟨c0, c1, f0, f1⟩ := HG.out
  go_wp2_with fail
  rw [← hW, ← hG]
  clear hW hG c0 c1 f0 f1
  refine (appendCrc_any wd po sd _ xs _ HOxs.out.rd).mono ?_
  rw [← HX.out]
  rintro e w2x ⟨vb, rfl, hO2, hb2⟩
  have HOys := Lib.hid (hO2.mono HB.out.size)
  clear hO2
  replace HG := Lib.hid (HG.out.next hb2)
  replace HOxs := Lib.hid (HOxs.out.below hb2)
  replace HB := Lib.hid (bthen HB.out hb2)
  clear hb2
  obtain ⟨c0, c1, f0, f1⟩ := HG.out
  go_wp2_with fail
  clear c0 c1 f0 f1
  refine (sAppendCrc_any wd po sd _ xs _ HOxs.out.rd).mono ?_
  rw [← HX.out]
  rintro e w3x ⟨vc, rfl, hO3, hb3⟩
  have HOzs := Lib.hid (hO3.mono HB.out.size)
  clear hO3
  replace HG := Lib.hid (HG.out.next hb3)
  replace HOxs := Lib.hid (HOxs.out.below hb3)
  replace HOys := Lib.hid (HOys.out.below hb3)
  replace HB := Lib.hid (bthen HB.out hb3)
  clear hb3
  go_wp2_with fail
  refine (drawHasCrc_any _ cs _ (HR.out.below HB.out) hcl HO8.out).mono ?_
  rintro e w4x ⟨we, pe, se, vd, rs, rfl, hOrs, hb4⟩
  have HOrs := Lib.hid (hOrs.mono HB.out.size)
  clear hOrs
  replace HG := Lib.hid (HG.out.next hb4)
  replace HOxs := Lib.hid (HOxs.out.below hb4)
  replace HOys := Lib.hid (HOys.out.below hb4)
  replace HOzs := Lib.hid (HOzs.out.below hb4)
  replace HB := Lib.hid (bthen HB.out hb4)
  clear hb4
  have hzF := HB.out.size
  have HF := Lib.hid (Cell2.new w4x we pe 25)
  replace HOxs := Lib.hid (HOxs.out.alloc (.cells #[.int .i64 we, .int .i64 pe] 25))
  replace HOys := Lib.hid (HOys.out.alloc (.cells #[.int .i64 we, .int .i64 pe] 25))
  replace HOzs := Lib.hid (HOzs.out.alloc (.cells #[.int .i64 we, .int .i64 pe] 25))
  replace HOrs := Lib.hid (HOrs.out.alloc (.cells #[.int .i64 we, .int .i64 pe] 25))
  replace HG := Lib.hid (HG.out.alloc (.cells #[.int .i64 we, .int .i64 pe] 25))
  replace HB := Lib.hid (HB.out.alloc hzF (.cells #[.int .i64 we, .int .i64 pe] 25))
  obtain ⟨V, hV⟩ : ∃ V, V = w4x.alloc (.cells #[.int .i64 we, .int .i64 pe] 25) := ⟨_, rfl⟩
  obtain ⟨F, hF⟩ : ∃ F, F = w4x.heap.size := ⟨_, rfl⟩
  have hsV : V.heap.size = F + 1 := by rw [hV, hF]; simp
  rw [← hV] at HB HOxs HOys HOzs HOrs HF HG
  obtain ⟨ax, cx, rfl⟩ := HOxs.out.slice
  obtain ⟨ay, cy, rfl⟩ := HOys.out.slice
  have hbn : (X.2 != X.2) = false := by simp
  obtain ⟨bh, hbh⟩ : ∃ bh, bh = hasC we pe se rs := ⟨_, rfl⟩
  have HBH := Lib.hid hbh
  clear hbh
  have hhn : (bh != bh) = false := by simp
  have heX := heq X.1
  have HYS : ∀ x : BW V.heap.size V, Hid (Rd .i64 x.w (.slice ay X.1.length cy) X.1) := fun x => Lib.hid (HOys.out.rd.bw rfl x)
  have HZS : ∀ x : BW V.heap.size V, Hid (Rd .i64 x.w vc X.1) := fun x => Lib.hid (HOzs.out.rd.bw rfl x)
  have HRS : ∀ x : BW V.heap.size V, Hid (Rd .i64 x.w vd rs) := fun x => Lib.hid (HOrs.out.rd.bw rfl x)
  have HF2 : ∀ x : BW V.heap.size V, Hid (Cell2 x.w w4x.heap.size we pe) := fun x => Lib.hid (HF.out.below x.h (by omega))
  have hk0 : ∀ x : BW V.heap.size V, x.w.cell? ⟨w4x.heap.size, 0, none⟩ = some (.int .i64 we) := fun x => (HF2 x).out.c0
  have hk1 : ∀ x : BW V.heap.size V, x.w.cell? ⟨w4x.heap.size, 1, none⟩ = some (.int .i64 pe) := fun x => (HF2 x).out.c1
  have HL : ∀ x : BW V.heap.size V, Hid (Calls Try.prog 23 #[.slice ay X.1.length cy, vc] x.w fun e w' => e = .returned (.bool true) ∧ Below x.w.heap.size x.w w') := fun x => Lib.hid (by have h := likeInts_any _ _ X.1 X.1 _ (HYS x).out (HZS x).out; rwa [heX] at h)
  have HH1 : ∀ x : BW V.heap.size V, Hid (Calls Try.prog 31 #[.agg #[.int .i64 we, .int .i64 pe], .int .i64 se, vd] x.w fun e w' => e = .returned (.bool bh) ∧ Below x.w.heap.size x.w w') := fun x => Lib.hid (by rw [HBH.out]; exact hasCrc_any we pe se vd rs _ (HRS x).out)
  have HH2 : ∀ x : BW V.heap.size V, Hid (Calls Try.prog 32 #[.agg #[.int .i64 we, .int .i64 pe], .int .i64 se, vd] x.w fun e w' => e = .returned (.bool bh) ∧ Below x.w.heap.size x.w w') := fun x => Lib.hid (by rw [HBH.out]; exact sHasCrc_any we pe se vd rs _ (HRS x).out)
  go_wp2_with fail
  rw [← hV]
  refine wp_region_bw V.heap.size V (Below.refl _ _) (by kernel_rfl) (by kernel_rfl) ?_
  repeat (first | go_big_quiet_step (first | (go_at_call 23; exact bw_of (Nat.le_refl _) (HL _).out) | (go_at_call 31; exact bw_of (Nat.le_refl _) (HH1 _).out) | (go_at_call 32; exact bw_of (Nat.le_refl _) (HH2 _).out)))
  refine wpQuiet_nil ?_
  rintro _ ⟨xw, rfl⟩
  clear hk0 hk1 HH1 HH2 HL HYS HZS HRS HF2 HF
  have HBX : Hid (Below w.heap.size w xw.w) := Lib.hid (HB.out.trans (xw.h.mono HB.out.size))
  replace HB := HBX
  clear HBX
  have HYX : Hid (Rd .i64 xw.w (.slice ay X.1.length cy) X.1) := Lib.hid (HOys.out.rd.bw rfl xw)
  have HXX : Hid (Rd .i64 xw.w (.slice ax xs.length cx) xs) := Lib.hid (HOxs.out.rd.bw rfl xw)
  replace HG := Lib.hid (HG.out.below xw.h (HG.out.lt))
  by_cases hok : X.2 = 0
  rotate_left
  · have hne : (X.2 != 0) = true := by simpa using hok
    clear hok
    go_wp2_with fail
    go_ret
    exact ⟨rfl, HB.out⟩
  have hne : (X.2 != 0) = false := by simp [hok]
  obtain ⟨q1, q2, q3, q4, q5, q6⟩ := app_has (by rw [← HX.out]; exact hok)
  rw [← HX.out] at q1 q2 q3
  have HQ1 := Lib.hid q1
  have HQ2 := Lib.hid q2
  have hle : ((X.1.length : Int) == (xs.length : Int) + wd) = true := by rw [q3]; simp
  clear q1 q2 hok
  obtain ⟨c0, c1, f0, f1⟩ := HG.out
  go_wp2_with fail
  clear c0 c1 f0 f1
  refine (crcOfBits_any wd po sd _ X.1 _ HYX.out).mono ?_
  rw [HQ1.out]
  rintro e w6x ⟨rfl, hb6⟩
  replace HG := Lib.hid (HG.out.next hb6)
  replace HB := Lib.hid (bthen HB.out hb6)
  replace HYX := Lib.hid (HYX.out.below hb6)
  clear hb6
  obtain ⟨c0, c1, f0, f1⟩ := HG.out
  go_wp2_with fail
  clear c0 c1 f0 f1
  have hh := hasCrc_any wd po sd _ X.1 _ HYX.out
  rw [HQ2.out] at hh
  refine hh.mono ?_
  clear hh
  rintro e w7x ⟨rfl, hb7⟩
  replace HG := Lib.hid (HG.out.next hb7)
  replace HB := Lib.hid (bthen HB.out hb7)
  clear hb7
  obtain ⟨c0, c1, f0, f1⟩ := HG.out
  go_wp2_with fail
  go_ret
  exact ⟨rfl, HB.out⟩
end Go.Proofs.Ytfbijmhmndkocaa