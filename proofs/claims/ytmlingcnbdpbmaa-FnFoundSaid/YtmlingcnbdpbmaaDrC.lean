/- Contracts: drawn codes: StandardCrc, l02Draw, l02DrawSeed. -/
import Derived.Test.YtmlingcnbdpbmaaCell2
import Derived.Test.YtmlingcnbdpbmaaDrB
import Derived.Deep.RegionWith
import Derived.Deep.DeepCutAuto
import Derived.Deep.CutBlock
namespace Go.Proofs.Ytmlingcnbdpbmaa
open Go.RowKit
set_option linter.unusedVariables false
set_option linter.unusedSimpArgs false

theorem sStandardCrc_any (w : World) : Calls Try.prog 68 #[] w fun e w' => e = .returned (.agg #[.int .i64 24, .int .i64 6122955]) ∧ Below w.heap.size w w' := by
  go_enter Try.func68, Try.ntmps68
  go_wp2
  go_returns
  exact ⟨rfl, by go_grown⟩
/-- What a draw of a code hands back. -/
def DrawnC (b : Nat) (w : World) (e : Ending) (w' : World) : Prop := ∃ wd po : Int, e = .returned (.agg #[.int .i64 wd, .int .i64 po]) ∧ SrcAt w' b ∧ w.grownBy w' (some b)
set_option maxRecDepth 20000 in
set_option maxHeartbeats 10000000 in
theorem drawCrc_any (b : Nat) (w : World) (h : SrcAt w b) : Calls Try.prog 48 #[.pointer (some ⟨b, 0, none⟩)] w (DrawnC b w) := by
  have hlt := h.lt
  have HS := Lib.hid (h.alloc (.cells #[.int .i64 0, .int .i64 0] 25))
  have HG := Lib.hid (World.grownBy_alloc w (.cells #[.int .i64 0, .int .i64 0] 25) (some b))
  have HC := Lib.hid (Cell2.new w 0 0 25)
  clear h
  go_enter Try.func48, Try.ntmps48
  go_wp2_with fail
  refine (next_any b _ _ HS.out).mono ?_
  rintro e w1 ⟨x, rfl, hx0, hx1, hS, hg⟩
  replace HS := Lib.hid hS
  replace HG := Lib.hid (grownBy_trans HG.out hg)
  replace HC := Lib.hid (HC.out.far hg hlt)
  clear hS hg hx0 hx1
  by_cases hx : x = 0
  · subst hx
    go_wp2_with fail
    refine (sStandardCrc_any _).mono ?_
    rintro e w2 ⟨rfl, hb⟩
    replace HS := Lib.hid (HS.out.below hb HS.out.lt)
    replace HG := Lib.hid (grownBy_trans HG.out (grown_of_below hb))
    replace HC := Lib.hid (HC.out.next hb)
    obtain ⟨c0, c1, f0, f1⟩ := HC.out
    clear hb
    go_wp2_with fail
    try simp only [Exit.inBlock, Exit.then]
    refine bodyPost_ret (by simp [results, Try.results48, go_sem, c0, c1]; try rfl) rfl ?_
    exact ⟨_, _, rfl, (HS.out.setCell hlt _ _).setCell hlt _ _, grown_set' (grown_set' HG.out (Nat.le_refl _) _ _) (Nat.le_refl _) _ _⟩
  have hxb : (x == 0) = false := by simp [hx]
  clear hx
  go_wp2_with fail
  refine (next_any b _ _ HS.out).mono ?_
  rintro e w2 ⟨y, rfl, hy0, hy1, hS, hg⟩
  replace HS := Lib.hid hS
  replace HG := Lib.hid (grownBy_trans HG.out hg)
  replace HC := Lib.hid (HC.out.far hg hlt)
  clear hS hg
  have hy7 : y ≤ 7 := by omega
  clear hy1
  go_wp2_with fail
  have hCs : w.heap.size < w2.heap.size := by have := HC.out.lt; exact this
  have HCC := Lib.hid (Cell2.new w2 (3 + y) 0 25)
  replace HS := Lib.hid (HS.out.alloc (.cells #[.int .i64 (3 + y), .int .i64 0] 25))
  replace HG := Lib.hid (grown_alloc' HG.out (.cells #[.int .i64 (3 + y), .int .i64 0] 25))
  replace HC := Lib.hid (HC.out.alloc (.cells #[.int .i64 (3 + y), .int .i64 0] 25))
  refine (next_any b _ _ HS.out).mono ?_
  rintro e w3 ⟨z, rfl, hz0, hz1, hS, hg⟩
  replace HS := Lib.hid hS
  replace HG := Lib.hid (grownBy_trans HG.out hg)
  replace HC := Lib.hid (HC.out.far hg hlt)
  replace HCC := Lib.hid (HCC.out.far hg (by omega))
  clear hS hg hz1
  obtain ⟨D, hD⟩ : ∃ D, D = 3 + y := ⟨_, rfl⟩
  have hD0 : 3 ≤ D := by omega
  have hD1 : D ≤ 10 := by omega
  rw [← hD] at HCC ⊢
  clear hD hy0 hy7
  obtain ⟨G, hG⟩ : ∃ G, G = w2.heap.size := ⟨_, rfl⟩
  rw [← hG] at HCC hCs ⊢
  clear hG
  obtain ⟨c0, c1, f0, f1⟩ := HCC.out
  go_wp2_with fail
  obtain ⟨P, hP⟩ : ∃ P, P = bits BinOp.or IntKind.i64 z 1 := ⟨_, rfl⟩
  rw [← hP]
  clear hP hz0
  have hbG : b < G := by omega
  have hne1 : ¬ (G = w.heap.size) := by omega
  have hne2 : ¬ (w.heap.size = G) := by omega
  replace HS := Lib.hid (HS.out.setCell hbG 1 (.int .i64 P))
  replace HG := Lib.hid (grown_set' HG.out (show w.heap.size ≤ G by omega) 1 (.int .i64 P))
  replace HC := Lib.hid (HC.out.other (show G ≠ w.heap.size by omega) 1 (.int .i64 P))
  replace HCC := Lib.hid (HCC.out.set1 P)
  clear c0 c1 f0 f1
  refine (next_any b _ _ HS.out).mono ?_
  rintro e w4 ⟨s, rfl, hs0, hs1, hS, hg⟩
  replace HS := Lib.hid hS
  replace HG := Lib.hid (grownBy_trans HG.out hg)
  replace HC := Lib.hid (HC.out.far hg hlt)
  replace HCC := Lib.hid (HCC.out.far hg hbG)
  clear hS hg hs0 hs1
  go_upto_block 0 with fail
  go_cut [3] (fun s3 wx => s3 = .pointer (some ⟨G, 0, none⟩) ∧ ∃ D' P' : Int, Cell2 wx G D' P' ∧ Cell2 wx w.heap.size 0 0 ∧ SrcAt wx b ∧ w.grownBy wx (some b))
  case rest =>
    obtain ⟨rfl, D', P', HCCr, HCr, HSr, HGr⟩ := hcut
    have HSQ := Lib.hid HSr
    have HGQ := Lib.hid HGr
    clear HS HG HC HCC HSr HGr
    obtain ⟨c0, c1, f0, f1⟩ := HCCr
    obtain ⟨r0, r1, g0, g1⟩ := HCr
    go_wp2_with fail
    try simp only [Exit.inBlock, Exit.then]
    refine bodyPost_ret (by simp [results, Try.results48, go_sem, r0, r1, hne1, hne2]; try rfl) rfl ?_
    exact ⟨_, _, rfl, (HSQ.out.setCell hlt _ _).setCell hlt _ _, grown_set' (grown_set' HGQ.out (Nat.le_refl _) _ _) (Nat.le_refl _) _ _⟩
  case first =>
    by_cases hs : s = 0
    · subst hs
      have hGz : G < w4.heap.size := HCC.out.lt
      replace HS := Lib.hid (HS.out.alloc (.cells #[.int .i64 2, .int .i64 24, .int .i64 25] 2))
      replace HG := Lib.hid (grown_alloc' HG.out (.cells #[.int .i64 2, .int .i64 24, .int .i64 25] 2))
      replace HC := Lib.hid (HC.out.alloc (.cells #[.int .i64 2, .int .i64 24, .int .i64 25] 2))
      replace HCC := Lib.hid (HCC.out.alloc (.cells #[.int .i64 2, .int .i64 24, .int .i64 25] 2))
      go_wp2_with fail
      refine (next_any b _ _ HS.out).mono ?_
      rintro e w5 ⟨k, rfl, hk0, hk1, hS, hg⟩
      obtain ⟨K, rfl⟩ := Int.eq_ofNat_of_zero_le hk0
      have hK : K < 3 := by omega
      have hKi : (K : Int) < 3 := by omega
      obtain ⟨u, hu, _⟩ := int3 w4 2 24 25 2 K hK
      have huc := far_cell hu hg (by omega)
      replace HS := Lib.hid hS
      replace HG := Lib.hid (grownBy_trans HG.out hg)
      replace HC := Lib.hid (HC.out.far hg hlt)
      replace HCC := Lib.hid (HCC.out.far hg hbG)
      obtain ⟨c0, c1, f0, f1⟩ := HCC.out
      clear hS hg hk1 hu
      go_wp2_with fail
      go_meet
      exact ⟨rfl, _, _, HCC.out.set0 _, HC.out.other (by omega) _ _, HS.out.setCell hbG _ _, grown_set' HG.out (show w.heap.size ≤ G by omega) _ _⟩
    have hsb : (s == 0) = false := by simp [hs]
    by_cases hs1 : s = 1
    rotate_left
    · have hsb1 : (s == 1) = false := by simp [hs1]
      clear hs hs1
      go_wp2_with fail
      go_meet
      exact ⟨rfl, _, _, HCC.out, HC.out, HS.out, HG.out⟩
    subst hs1
    clear hs
    have hGz : G < w4.heap.size := HCC.out.lt
    obtain ⟨T2, hT2⟩ : ∃ T2, T2 = wrap64 (2 ^ D.toNat) := ⟨_, rfl⟩
    have hT3 := hT2.symm
    have HSd := Lib.hid HS.out.drew
    have HGd := Lib.hid (grown_drew' HG.out)
    have HCd := Lib.hid HC.out.drew
    have HCCd := Lib.hid HCC.out.drew
    obtain ⟨c0, c1, f0, f1⟩ := HCCd.out
    clear hT2
    have ka0 := keepA HCC.out.c0
    have ka1 := keepA HCC.out.c1
    go_wp2_with fail
    go_region_with ((first | (go_at_call 60; ((with_reducible refine (next_any b _ _ (HS.out.alloc (.cells #[.int .i64 1, .int .i64 (-1), .int .i64 (IntKind.i64.wrap (2 ^ min (IntKind.u64.wrap D).toNat 64))] 2)).drew).mono ?_); rintro e w5 ⟨k, rfl, hk0, hk1, hS, hg⟩; obtain ⟨K, rfl⟩ := Int.eq_ofNat_of_zero_le hk0; have hK : K < 3 := (by omega); have hKi : (K : Int) < 3 := (by omega); have HS5 := Lib.hid hS; obtain ⟨u, hu, _⟩ := int3 w4 1 (-1) ((IntKind.i64.wrap (2 ^ min (IntKind.u64.wrap D).toNat 64))) 2 K hK; have huc : w5.cell? ⟨w4.heap.size, K, none⟩ = some (.int .i64 u) := far_cell (w := (w4.alloc (.cells #[.int .i64 1, .int .i64 (-1), .int .i64 (IntKind.i64.wrap (2 ^ min (IntKind.u64.wrap D).toNat 64))] 2)).drew) hu hg (by omega); have HG5 := Lib.hid (grownBy_trans (grown_drew' (grown_alloc' HG.out (.cells #[.int .i64 1, .int .i64 (-1), .int .i64 (IntKind.i64.wrap (2 ^ min (IntKind.u64.wrap D).toNat 64))] 2))) hg); have HC5 := Lib.hid ((HC.out.alloc (.cells #[.int .i64 1, .int .i64 (-1), .int .i64 (IntKind.i64.wrap (2 ^ min (IntKind.u64.wrap D).toNat 64))] 2)).drew.far hg hlt); have HCC5 := Lib.hid ((HCC.out.alloc (.cells #[.int .i64 1, .int .i64 (-1), .int .i64 (IntKind.i64.wrap (2 ^ min (IntKind.u64.wrap D).toNat 64))] 2)).drew.far hg hbG); obtain ⟨d0, d1, q0, q1⟩ := HCC5.out; obtain ⟨r0, r1, t0, t1⟩ := HC5.out; obtain ⟨ra0, ra1, ta0, ta1⟩ := HC5.out.all; clear hS hk1 hu hg)) | (go_at_call 60; ((with_reducible refine (next_any b _ _ HSd.out).mono ?_); rintro e w5 ⟨k, rfl, hk0, hk1, hS, hg⟩; obtain ⟨K, rfl⟩ := Int.eq_ofNat_of_zero_le hk0; have hK : K < 3 := (by omega); have hKi : (K : Int) < 3 := (by omega); have HSB := Lib.hid hS; obtain ⟨u, hu, _⟩ := int3 w5 1 (-1) ((IntKind.i64.wrap (2 ^ min (IntKind.u64.wrap D).toNat 64))) 2 K hK; have HGB := Lib.hid (grownBy_trans HGd.out hg); have HCX := Lib.hid (HCCd.out.far hg hbG); have HCY := Lib.hid (HCd.out.far hg hlt); obtain ⟨x0, x1, y0, y1⟩ := HCX.out; obtain ⟨r0, r1, t0, t1⟩ := HCY.out; obtain ⟨xa0, xa1, ya0, ya1⟩ := HCX.out.all; obtain ⟨ra0, ra1, ta0, ta1⟩ := HCY.out.all; clear hS hk1 hg))))
    all_goals
      go_wp2_with fail
      go_meet
      first | exact ⟨rfl, _, _, HCC5.out.set1 _, HC5.out.other (by omega) _ _, HS5.out.setCell hbG _ _, grown_set' HG5.out (show w.heap.size ≤ G by omega) _ _⟩ | exact ⟨rfl, _, _, (HCX.out.alloc _).set1 _, (HCY.out.alloc _).other (by omega) _ _, (HSB.out.alloc _).setCell hbG _ _, grown_set' (grown_alloc' HGB.out _) (show w.heap.size ≤ G by omega) _ _⟩ | fail
end Go.Proofs.Ytmlingcnbdpbmaa
