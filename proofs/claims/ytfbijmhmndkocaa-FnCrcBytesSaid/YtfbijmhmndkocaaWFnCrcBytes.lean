/- The walk of the law FnCrcBytes: it returns true, and nothing that was there is written. -/
import Derived.Test.YtfbijmhmndkocaaDrQ
import Derived.Test.YtfbijmhmndkocaaCrcL
import Derived.Test.YtfbijmhmndkocaaLike
namespace Go.Proofs.Ytfbijmhmndkocaa
open Go.RowKit
set_option linter.unusedVariables false
set_option linter.unusedSimpArgs false

set_option maxHeartbeats 8000000 in
theorem fnCrcBytes_walk {w : World} (a0 : Option Addr) (len0 cap0 : Nat) (z0 : List Int) (w0 : IsRow .u8 w a0 len0 cap0 z0) :
    Calls Try.prog 5 #[.slice a0 len0 cap0] w fun e w' => e = .returned (.bool true) ∧ Below w.heap.size w w' := by
  obtain ⟨hl0, hr0⟩ := w0.rd
  have ho0 := w0.bytes
  obtain ⟨cs, hcs⟩ : ∃ cs, cs = z0.take len0 := ⟨_, rfl⟩
  rw [← hcs] at hl0 hr0 ho0
  clear hcs w0
  subst hl0
  have HR := Lib.hid hr0
  have HO8 := Lib.hid ho0
  clear hr0 ho0
  by_cases hbig : 4096 < cs.length
  · have hd : decide ((4096 : Int) < (cs.length : Int)) = true := decide_eq_true (by omega)
    go_enter Try.func5, Try.ntmps5
    go_wp2_with (go_at_call 7; refine (big_any _ cs _ HR.out).mono ?_; rw [hd]; rintro e w' ⟨rfl, rfl⟩)
    go_ret
    exact ⟨rfl, Below.refl _ _⟩
  have hd : decide ((4096 : Int) < (cs.length : Int)) = false := decide_eq_false (by omega)
  have hcl : cs.length ≤ 4096 := by omega
  have HB := Lib.hid (Below.refl w.heap.size w)
  go_enter Try.func5, Try.ntmps5
  go_wp2_with fail
  refine (big_any _ cs _ HR.out).mono ?_
  rw [hd]
  rintro e w' ⟨rfl, rfl⟩
  go_wp2_with fail
  refine (drawCrcOfBytes_any _ cs _ (HR.out.below HB.out) hcl HO8.out).mono ?_
  rintro e w1x ⟨wd, po, sd, va, xs, rfl, hOxs, hshx, hb1⟩
  have HOxs := Lib.hid (hOxs.mono HB.out.size)
  clear hOxs
  replace HB := Lib.hid (bthen HB.out hb1)
  clear hb1
  obtain ⟨X, hX⟩ : ∃ X, X = crcBytes wd po sd xs := ⟨_, rfl⟩
  have HX := Lib.hid hX
  clear hX hshx
  obtain ⟨T, hT⟩ : ∃ T, T = crcTab wd po := ⟨_, rfl⟩
  have HT := Lib.hid hT
  clear hT
  have hzG := HB.out.size
  have HG := Lib.hid (Cell2.new w1x wd po 25)
  replace HOxs := Lib.hid (HOxs.out.alloc (.cells #[.int .i64 wd, .int .i64 po] 25))
  replace HB := Lib.hid (HB.out.alloc HB.out.size (.cells #[.int .i64 wd, .int .i64 po] 25))
  obtain ⟨W, hW⟩ : ∃ W, W = w1x.alloc (.cells #[.int .i64 wd, .int .i64 po] 25) := ⟨_, rfl⟩
  obtain ⟨G, hG⟩ : ∃ G, G = w1x.heap.size := ⟨_, rfl⟩
  have hsW : W.heap.size = G + 1 := by rw [hW, hG]; simp
  rw [← hG] at HG hzG
  rw [← hW] at HB HG HOxs
  obtain ⟨c0G, c1G, f0G, f1G⟩ := HG.out
  go_wp2_with fail
  rw [← hW, ← hG]
  clear hW hG
  clear c0G c1G f0G f1G
  refine (crcOfBytes_any wd po sd _ xs _ HOxs.out.rd).mono ?_
  rw [← HX.out]
  rintro e w2x ⟨rfl, hb2⟩
  replace HG := Lib.hid (HG.out.next hb2)
  replace HOxs := Lib.hid (HOxs.out.below hb2)
  replace HB := Lib.hid (bthen HB.out hb2)
  clear hb2
  obtain ⟨c0G, c1G, f0G, f1G⟩ := HG.out
  go_wp2_with fail
  clear c0G c1G f0G f1G
  refine (sCrcOfBytes_any wd po sd _ xs _ HOxs.out.rd).mono ?_
  rw [← HX.out]
  rintro e w3x ⟨rfl, hb3⟩
  replace HG := Lib.hid (HG.out.next hb3)
  replace HOxs := Lib.hid (HOxs.out.below hb3)
  replace HB := Lib.hid (bthen HB.out hb3)
  clear hb3
  obtain ⟨c0G, c1G, f0G, f1G⟩ := HG.out
  go_wp2_with fail
  clear c0G c1G f0G f1G
  refine (crcTable_any wd po _).mono ?_
  rw [← HT.out]
  rintro e w4x ⟨vt, rfl, hO4, hb4⟩
  have HOts := Lib.hid (hO4.mono HB.out.size)
  clear hO4
  replace HG := Lib.hid (HG.out.next hb4)
  replace HOxs := Lib.hid (HOxs.out.below hb4)
  replace HB := Lib.hid (bthen HB.out hb4)
  clear hb4
  obtain ⟨c0G, c1G, f0G, f1G⟩ := HG.out
  go_wp2_with fail
  clear c0G c1G f0G f1G
  refine (sCrcTable_any wd po _).mono ?_
  rw [← HT.out]
  rintro e w5x ⟨vu, rfl, hO5, hb5⟩
  have HOus := Lib.hid (hO5.mono HB.out.size)
  clear hO5
  replace HG := Lib.hid (HG.out.next hb5)
  replace HOxs := Lib.hid (HOxs.out.below hb5)
  replace HOts := Lib.hid (HOts.out.below hb5)
  replace HB := Lib.hid (bthen HB.out hb5)
  clear hb5
  have heq := eqB_self T.1
  obtain ⟨bh, hbh⟩ : ∃ bh, bh = crcB wd po := ⟨_, rfl⟩
  have HBH := Lib.hid hbh
  clear hbh
  have hhn : (bh != bh) = false := by simp
  have hb1 : (X.1 != X.1) = false := by simp
  have hb2 : (X.2 != X.2) = false := by simp
  have hb3 : (T.2 != T.2) = false := by simp
  have hk0 : ∀ x : BW w5x.heap.size w5x, x.w.cell? ⟨G, 0, none⟩ = some (.int .i64 wd) := fun x => (HG.out.next x.h).c0
  have hk1 : ∀ x : BW w5x.heap.size w5x, x.w.cell? ⟨G, 1, none⟩ = some (.int .i64 po) := fun x => (HG.out.next x.h).c1
  have HL : ∀ x : BW w5x.heap.size w5x, Hid (Calls Try.prog 23 #[vt, vu] x.w fun e w' => e = .returned (.bool true) ∧ Below x.w.heap.size x.w w') := fun x => Lib.hid (by have h := likeInts_any _ _ T.1 T.1 _ (HOts.out.rd.bw rfl x) (HOus.out.rd.bw rfl x); rwa [heq] at h)
  have HH1 : ∀ x : BW w5x.heap.size w5x, Hid (Calls Try.prog 24 #[.agg #[.int .i64 wd, .int .i64 po]] x.w fun e w' => e = .returned (.bool bh) ∧ Below x.w.heap.size x.w w') := fun x => Lib.hid (by rw [HBH.out]; exact isCrc_any wd po _)
  have HH2 : ∀ x : BW w5x.heap.size w5x, Hid (Calls Try.prog 25 #[.agg #[.int .i64 wd, .int .i64 po]] x.w fun e w' => e = .returned (.bool bh) ∧ Below x.w.heap.size x.w w') := fun x => Lib.hid (by rw [HBH.out]; exact sIsCrc_any wd po _)
  clear heq
  go_wp2_with fail
  refine wp_region_bw w5x.heap.size w5x (Below.refl _ _) (by kernel_rfl) (by kernel_rfl) ?_
  repeat (first | go_big_quiet_step (first | (go_at_call 23; exact bw_of (Nat.le_refl _) (HL _).out) | (go_at_call 24; exact bw_of (Nat.le_refl _) (HH1 _).out) | (go_at_call 25; exact bw_of (Nat.le_refl _) (HH2 _).out)))
  refine wpQuiet_nil ?_
  rintro _ ⟨xw, rfl⟩
  clear hk0 hk1 HH1 HH2 HL
  replace HB := Lib.hid (HB.out.trans (xw.h.mono HB.out.size))
  replace HOxs := Lib.hid (HOxs.out.below xw.h)
  replace HOus := Lib.hid (HOus.out.below xw.h)
  replace HG := Lib.hid (HG.out.next xw.h)
  obtain ⟨w6x, hw6⟩ : ∃ w6x, w6x = xw.w := ⟨_, rfl⟩
  rw [← hw6] at HB HG HOxs HOus ⊢
  clear hw6 HOts
  by_cases hok : X.2 = 0
  rotate_left
  · have hne : (X.2 != 0) = true := by simpa using hok
    clear hok
    obtain ⟨c0G, c1G, f0G, f1G⟩ := HG.out
    go_wp2_with fail
    clear c0G c1G f0G f1G
    go_ret
    exact ⟨rfl, HB.out⟩
  have hne : (X.2 != 0) = false := by simp [hok]
  obtain ⟨q1, q2, q3, q4, q5, q6⟩ := crc_bytes (HX.out ▸ hok)
  rw [← HX.out] at q2
  have HQ1 := Lib.hid q1
  have HQ2 := Lib.hid q2
  have HQ5 := Lib.hid q5
  obtain ⟨Z, hZ⟩ : ∃ Z, Z = (crcBytes wd po 0 xs).1 := ⟨_, rfl⟩
  have hz0 : crcBytes wd po 0 xs = (Z, 0) := by rw [hZ]; exact Prod.ext rfl q3
  have HZ := Lib.hid hz0
  rw [← hZ, ← HT.out] at q6
  rw [← HT.out] at q4
  have HQ6 := Lib.hid q6
  have HOK := Lib.hid hok
  clear q1 q2 q3 q5 q6 hZ hz0 hok
  obtain ⟨c0G, c1G, f0G, f1G⟩ := HG.out
  go_wp2_with fail
  clear c0G c1G f0G f1G
  refine (bytesToBits_any _ xs _ HOxs.out.rd).mono ?_
  rw [HQ1.out]
  rintro e w7x ⟨vy, rfl, hO7, hb7⟩
  have HOys := Lib.hid (hO7.mono HB.out.size)
  clear hO7
  replace HG := Lib.hid (HG.out.next hb7)
  replace HOxs := Lib.hid (HOxs.out.below hb7)
  replace HOus := Lib.hid (HOus.out.below hb7)
  replace HB := Lib.hid (bthen HB.out hb7)
  clear hb7
  obtain ⟨c0G, c1G, f0G, f1G⟩ := HG.out
  go_wp2_with fail
  clear c0G c1G f0G f1G
  refine (crcOfBits_any wd po sd _ _ _ HOys.out.rd).mono ?_
  rw [HQ2.out]
  rintro e w8x ⟨rfl, hb8⟩
  replace HG := Lib.hid (HG.out.next hb8)
  replace HOxs := Lib.hid (HOxs.out.below hb8)
  replace HOus := Lib.hid (HOus.out.below hb8)
  replace HOys := Lib.hid (HOys.out.below hb8)
  replace HB := Lib.hid (bthen HB.out hb8)
  clear hb8
  obtain ⟨c0G, c1G, f0G, f1G⟩ := HG.out
  go_wp2_with fail
  clear c0G c1G f0G f1G
  refine (crcOfBytes_any wd po 0 _ xs _ HOxs.out.rd).mono ?_
  rw [HZ.out]
  rintro e w9x ⟨rfl, hb9⟩
  replace HG := Lib.hid (HG.out.next hb9)
  replace HOxs := Lib.hid (HOxs.out.below hb9)
  replace HOus := Lib.hid (HOus.out.below hb9)
  replace HOys := Lib.hid (HOys.out.below hb9)
  replace HB := Lib.hid (bthen HB.out hb9)
  clear hb9
  have hxx : (X.1 == X.1) = true := by simp
  have hne2 : (X.2 == 0) = true := by simp [HOK.out]
  by_cases hl1 : xs.length = 1
  rotate_left
  · have hl2 : ((xs.length : Int) != 1) = true := by simp; omega
    clear hl1
    obtain ⟨a, cap, rfl⟩ := HOxs.out.slice
    obtain ⟨a2, cap2, rfl⟩ := HOus.out.slice
    go_wp2_with fail
    go_ret
    exact ⟨rfl, HB.out⟩
  have hl2 : ((xs.length : Int) != 1) = false := by simp; omega
  have h6 := HQ6.out hl1
  obtain ⟨C, hC⟩ : ∃ C, C = xs.getD 0 0 := ⟨_, rfl⟩
  have hcr : 0 ≤ C ∧ C ≤ 255 := by rw [hC, getD_of_lt _ _ (by omega)]; exact HQ5.out _ (List.getElem_mem _)
  obtain ⟨hc0, hc1⟩ := hcr
  obtain ⟨N, rfl⟩ := Int.eq_ofNat_of_zero_le hc0
  have h0x := HOxs.out.rd
  have h0u := HOus.out.rd
  obtain ⟨a, cap, rfl, k1, k2, k3, k4⟩ := h0x
  obtain ⟨a2, cap2, rfl, j1, j2, j3, j4⟩ := h0u
  obtain ⟨b, off, rfl, hcx⟩ := k4 0 (by omega)
  obtain ⟨b2, off2, rfl, hcu⟩ := j4 N (by omega)
  rw [← hC] at hcx h6
  rw [Int.toNat_natCast] at h6
  rw [← h6] at hcu
  simp only [Nat.add_zero] at hcx
  have hzz : (Z == Z) = true := by simp
  have hp0 : (0 : Int) < (xs.length : Int) := by omega
  have hpN : (N : Int) < (T.1.length : Int) := by omega
  unfold maxLen at k2 j2
  clear hC h6 k4 j4 k3 j3 q4
  rw [hl1] at hp0 hl2 k1 ⊢
  go_wp2_with fail
  go_ret
  exact ⟨rfl, HB.out⟩
end Go.Proofs.Ytfbijmhmndkocaa