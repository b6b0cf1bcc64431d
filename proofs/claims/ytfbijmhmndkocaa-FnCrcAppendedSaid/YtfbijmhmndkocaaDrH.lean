/- Contract: DrawHasCrc. -/
import Derived.Test.YtfbijmhmndkocaaDrQ
import Derived.Test.YtfbijmhmndkocaaCrcApp
import Derived.Deep.RegionHeld3
namespace Go.Proofs.Ytfbijmhmndkocaa
open Go.RowKit
set_option linter.unusedVariables false
set_option linter.unusedSimpArgs false

/-- What a draw of a code, a seed and a list of any length hands back. -/
def DrawnCNR (w : World) (e : Ending) (w' : World) : Prop := ∃ (wd po x : Int) (v : Value) (xs : List Int), e = .returned (.tuple #[.agg #[.int .i64 wd, .int .i64 po], .int .i64 x, v]) ∧ Own 2 w' w.heap.size v xs ∧ Below w.heap.size w w'
theorem appCrc_some (wd po seed : Int) (xs : List Int) (h : (appCrc wd po seed xs).2 = 0) : 0 < (appCrc wd po seed xs).1.length := by
  unfold appCrc at h ⊢
  split at h
  · rename_i h0
    obtain ⟨hcrc, _, _⟩ := seedC_ok h0
    obtain ⟨hw1, hw2, _⟩ := crcB_yes hcrc
    split at h
    · simp at h
    · rename_i h2
      rw [if_pos h0, if_neg h2]
      simp only [List.length_append, length_bitsOf]; omega
  · rename_i h0; exact absurd h h0
set_option maxHeartbeats 4000000 in
theorem drawHasCrc_any (v : Value) (cs : List Int) (w : World) (hr : Rd .u8 w v cs) (hl : cs.length ≤ 4096) (ho : ∀ x ∈ cs, 0 ≤ x ∧ x ≤ 255) : Calls Try.prog 30 #[v] w (DrawnCNR w) := by
  have HB := Lib.hid ((Below.refl w.heap.size w).alloc (Nat.le_refl _) (.cells #[.int .i64 0, .int .i64 0] 25))
  have HR := Lib.hid (hr.below HB.out)
  have HO8 := Lib.hid ho
  have HC := Lib.hid (Cell2.new w 0 0 25)
  clear hr ho
  go_enter Try.func30, Try.ntmps30
  go_wp2_with fail
  refine (from_any _ cs _ HR.out hl HO8.out).mono ?_
  rintro e w1 ⟨rfl, hS, hb⟩
  have HS : Hid (SrcAt w1 (w.heap.size + 1)) := Lib.hid (by simpa using hS)
  replace HR := Lib.hid (HR.out.below hb)
  replace HB := Lib.hid (HB.out.trans (hb.mono (by simp)))
  replace HC := Lib.hid (HC.out.next hb)
  clear hS hb
  try simp only [World.size_alloc]
  go_wp2_with fail
  refine (drawCrcOfBits_any _ cs _ HR.out hl HO8.out).mono ?_
  rintro e w2 ⟨wd, po, x, va, xs, rfl, hO, hsh, hb⟩
  have hz1 := HS.out.lt
  replace HS := Lib.hid ((HS.out.below hb hz1).alloc (.cells #[.int .i64 wd, .int .i64 po] 25))
  have hz2 : w.heap.size + 1 < w2.heap.size := Nat.lt_of_lt_of_le hz1 hb.size
  have HG := Lib.hid (Cell2.new w2 wd po 25)
  have HO := Lib.hid ((hO.mono (show w.heap.size + 2 ≤ _ by omega)).alloc (.cells #[.int .i64 wd, .int .i64 po] 25))
  replace HB := Lib.hid ((HB.out.trans (hb.mono (by omega))).alloc (by omega) (.cells #[.int .i64 wd, .int .i64 po] 25))
  replace HC := Lib.hid ((HC.out.next hb).alloc (.cells #[.int .i64 wd, .int .i64 po] 25))
  clear hO hsh hb
  obtain ⟨W, hW⟩ : ∃ W, W = w2.alloc (.cells #[.int .i64 wd, .int .i64 po] 25) := ⟨_, rfl⟩
  obtain ⟨G, hG⟩ : ∃ G, G = w2.heap.size := ⟨_, rfl⟩
  have hWz : W.heap.size = G + 1 := by rw [hW, hG]; simp
  rw [← hG] at HG hz2
  rw [← hW] at HS HG HO HB HC
  obtain ⟨c0, c1, f0, f1⟩ := HG.out
  have HSd := Lib.hid HS.out.drew
  have HBd := Lib.hid HB.out.drew
  have HCd := Lib.hid HC.out.drew
  have HGd := Lib.hid HG.out.drew
  have HOd := Lib.hid HO.out.drew
  have hGa : ¬ (G = w.heap.size) := by omega
  have hGb : ¬ (w.heap.size = G) := by omega
  go_wp2_with fail
  try rw [← hW]
  try rw [← hG]
  clear hW hG HSd HBd HCd HGd HOd
  refine (sAppendCrc_any wd po x _ xs _ HO.out.rd).mono ?_
  rintro e w4 ⟨vb, rfl, hO4, hb4⟩
  have hz4 := hb4.size
  replace HB := Lib.hid (HB.out.trans (hb4.mono (by omega)))
  replace HC := Lib.hid (HC.out.next hb4)
  replace HG := Lib.hid (HG.out.next hb4)
  replace HS := Lib.hid (HS.out.below hb4 (by omega))
  have HO4 := Lib.hid (hO4.mono (show G + 1 ≤ _ by omega))
  replace HO := Lib.hid (HO.out.below hb4)
  clear hO4 hb4 c0 c1 f0 f1
  have HSM := Lib.hid (appCrc_some wd po x xs)
  have HLN := Lib.hid (appCrc_len wd po x xs)
  generalize (appCrc wd po x xs).1 = ys at HO4 HSM HLN ⊢
  generalize (appCrc wd po x xs).2 = bad at HSM ⊢
  by_cases hbad : bad = 0
  · subst hbad
    have hne : ((0 : Int) != 0) = false := by decide
    go_wp2_with fail
    refine (next_any (w.heap.size + 1) _ _ HS.out).mono ?_
    rintro e w5 ⟨y4, rfl, hy40, hy41, hS, hg⟩
    have hzx := HS.out.lt
    replace HB := Lib.hid (HB.out.trans (grown_below hg (by omega) (by omega)))
    replace HC := Lib.hid (HC.out.below (grown_below hg (Nat.le_refl _) (by omega)) (by omega))
    replace HG := Lib.hid (HG.out.far hg hz2)
    replace HO := Lib.hid (HO.out.far hg (Nat.lt_succ_self _))
    replace HO4 := Lib.hid (HO4.out.far hg (show w.heap.size + 1 < G + 1 by omega))
    replace HS := Lib.hid hS
    clear hS hg hzx
    by_cases hy : y4 = 0
    · subst hy
      obtain ⟨d0, d1, e0, e1⟩ := HG.out
      obtain ⟨r0, r1, g0, g1⟩ := HC.out
      go_wp2_with fail
      try simp only [Exit.inBlock, Exit.then]
      refine bodyPost_ret (by simp [results, Try.results30, go_sem, r0, r1]; try rfl) rfl ?_
      exact ⟨_, _, _, _, xs, rfl, ((HO.out.setFar (show w.heap.size < w.heap.size + 2 by omega) _ _).setFar (show w.heap.size < w.heap.size + 2 by omega) _ _).mono (by omega), (HB.out.setCell (p := ⟨w.heap.size, 0, none⟩) (Nat.le_refl _) _).setCell (p := ⟨w.heap.size, 1, none⟩) (Nat.le_refl _) _⟩
    have hy4 : (y4 == 0) = false := by simpa using hy
    clear hy
    go_wp2_with fail
    refine (next_any (w.heap.size + 1) _ _ HS.out).mono ?_
    rintro e w6 ⟨y3, rfl, hy30, hy31, hS, hg⟩
    have hzx := HS.out.lt
    replace HB := Lib.hid (HB.out.trans (grown_below hg (by omega) (by omega)))
    replace HC := Lib.hid (HC.out.below (grown_below hg (Nat.le_refl _) (by omega)) (by omega))
    replace HG := Lib.hid (HG.out.far hg hz2)
    replace HO := Lib.hid (HO.out.far hg (Nat.lt_succ_self _))
    replace HO4 := Lib.hid (HO4.out.far hg (show w.heap.size + 1 < G + 1 by omega))
    replace HS := Lib.hid hS
    clear hS hg hzx
    by_cases hy : y3 = 0
    rotate_left
    · have hy3 : (y3 == 0) = false := by simpa using hy
      clear hy
      obtain ⟨d0, d1, e0, e1⟩ := HG.out
      obtain ⟨r0, r1, g0, g1⟩ := HC.out
      go_wp2_with fail
      try simp only [Exit.inBlock, Exit.then]
      refine bodyPost_ret (by simp [results, Try.results30, go_sem, r0, r1]; try rfl) rfl ?_
      exact ⟨_, _, _, _, ys, rfl, ((HO4.out.setFar (show w.heap.size < G + 1 by omega) _ _).setFar (show w.heap.size < G + 1 by omega) _ _).mono (by omega), (HB.out.setCell (p := ⟨w.heap.size, 0, none⟩) (Nat.le_refl _) _).setCell (p := ⟨w.heap.size, 1, none⟩) (Nat.le_refl _) _⟩
    subst hy
    have hlp := HSM.out trivial
    have hln := HLN.out
    obtain ⟨a, cap, rfl⟩ := HO4.out.slice
    go_wp2_with fail
    refine (next_any (w.heap.size + 1) _ _ HS.out).mono ?_
    rintro e w7 ⟨k, rfl, hk0, hk1, hS, hg⟩
    have hzx := HS.out.lt
    replace HB := Lib.hid (HB.out.trans (grown_below hg (by omega) (by omega)))
    replace HC := Lib.hid (HC.out.below (grown_below hg (Nat.le_refl _) (by omega)) (by omega))
    replace HG := Lib.hid (HG.out.far hg hz2)
    replace HO := Lib.hid (HO.out.far hg (Nat.lt_succ_self _))
    replace HO4 := Lib.hid (HO4.out.far hg (show w.heap.size + 1 < G + 1 by omega))
    replace HS := Lib.hid hS
    clear hS hg hzx
    have hk1' : k < (ys.length : Int) := by omega
    rcases HO4.out.shape with ⟨hnil, hxs⟩ | ⟨g, cap', hv, hBg, hgs, hlc, hcm⟩
    · rw [hxs] at hlp; simp at hlp
    injection hv with hv1 hv2 hv3
    subst hv1 hv3
    obtain ⟨K, rfl⟩ := Int.eq_ofNat_of_zero_le hk0
    have hKn : K < ys.length := by omega
    have hcell := HO4.out.cell K hKn
    have hfree := HO4.out.free K
    clear hk1
    have hn1 : ¬ (g = G) := by omega
    have hn2 : ¬ (G = g) := by omega
    have hn3 : ¬ (g = w.heap.size) := by omega
    have hn4 : ¬ (w.heap.size = g) := by omega
    obtain ⟨d0, d1, e0, e1⟩ := HG.out
    obtain ⟨r0, r1, g0, g1⟩ := HC.out
    have HSET : ∀ x : Int, Hid (Own 2 (w7.setCell ⟨g, K, none⟩ (.int .i64 x)) (G + 1) (.slice (some ⟨g, 0, none⟩) ys.length cap) (ys.set K x)) := fun x => Lib.hid (HO4.out.set K x).1
    go_wp2_with fail
    try simp only [Exit.inBlock, Exit.then]
    refine bodyPost_ret (by simp [results, Try.results30, go_sem, r0, r1, hn1, hn2, hn3, hn4]; try rfl) rfl ?_
    exact ⟨_, _, _, _, _, rfl, (((HSET _).out.setFar (show w.heap.size < G + 1 by omega) _ _).setFar (show w.heap.size < G + 1 by omega) _ _).mono (by omega), ((HB.out.setCell (p := ⟨g, K, none⟩) (show w.heap.size ≤ g by omega) _).setCell (p := ⟨w.heap.size, 0, none⟩) (Nat.le_refl _) _).setCell (p := ⟨w.heap.size, 1, none⟩) (Nat.le_refl _) _⟩
  · have hne : (bad != 0) = true := by simpa using hbad
    clear hbad
    obtain ⟨d0, d1, e0, e1⟩ := HG.out
    obtain ⟨r0, r1, g0, g1⟩ := HC.out
    go_wp2_with fail
    try simp only [Exit.inBlock, Exit.then]
    refine bodyPost_ret (by simp [results, Try.results30, go_sem, r0, r1]; try rfl) rfl ?_
    exact ⟨_, _, _, _, xs, rfl, ((HO.out.setFar (show w.heap.size < w.heap.size + 2 by omega) _ _).setFar (show w.heap.size < w.heap.size + 2 by omega) _ _).mono (by omega), (HB.out.setCell (p := ⟨w.heap.size, 0, none⟩) (Nat.le_refl _) _).setCell (p := ⟨w.heap.size, 1, none⟩) (Nat.le_refl _) _⟩
end Go.Proofs.Ytfbijmhmndkocaa
