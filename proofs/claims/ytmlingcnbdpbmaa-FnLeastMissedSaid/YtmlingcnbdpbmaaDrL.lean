/- Contracts: DrawLeastWeight, DrawFirstMissed. -/
import Derived.Test.YtmlingcnbdpbmaaDrC
import Derived.Deep.RegionHeld3
import Derived.Deep.DeepCutAuto
import Derived.Deep.CutBlock
namespace Go.Proofs.Ytmlingcnbdpbmaa
open Go.RowKit
set_option linter.unusedVariables false
set_option linter.unusedSimpArgs false

/-- What a draw of a code and a number hands back. -/
def DrawnCN (w : World) (e : Ending) (w' : World) : Prop := ∃ wd po x : Int, e = .returned (.tuple #[.agg #[.int .i64 wd, .int .i64 po], .int .i64 x]) ∧ Below w.heap.size w w'
def IntV (v : Value) : Prop := ∃ x : Int, v = .int .i64 x
theorem lit4At (W : World) (x y z t : Int) (E : TypeId) (n K : Nat) (hn : W.heap.size = n) (h : K < 4) : (W.alloc (.cells #[.int .i64 x, .int .i64 y, .int .i64 z, .int .i64 t] E)).cell? ⟨n, K, none⟩ = some (.int .i64 ([x, y, z, t].getD K 0)) := by
  subst hn
  match K, h with
  | 0, _ => simp
  | 1, _ => simp
  | 2, _ => simp
  | 3, _ => simp
set_option maxRecDepth 20000 in
set_option maxHeartbeats 8000000 in
theorem drawLeastWeight_any (v : Value) (cs : List Int) (w : World) (hr : Rd .u8 w v cs) (hl : cs.length ≤ 4096) (ho : ∀ x ∈ cs, 0 ≤ x ∧ x ≤ 255) : Calls Try.prog 53 #[v] w (DrawnCN w) := by
  have HB := Lib.hid ((Below.refl w.heap.size w).alloc (Nat.le_refl _) (.cells #[.int .i64 0, .int .i64 0] 25))
  have HR := Lib.hid (hr.below HB.out)
  have HO8 := Lib.hid ho
  have HC := Lib.hid (Cell2.new w 0 0 25)
  clear hr ho
  go_enter Try.func53, Try.ntmps53
  go_wp2_with fail
  refine (from_any _ cs _ HR.out hl HO8.out).mono ?_
  rintro e w1 ⟨rfl, hS, hb⟩
  have HS : Hid (SrcAt w1 (w.heap.size + 1)) := Lib.hid (by simpa using hS)
  replace HB := Lib.hid (HB.out.trans (hb.mono (by simp)))
  replace HC := Lib.hid (HC.out.next hb)
  clear hS hb
  try simp only [World.size_alloc]
  go_wp2_with fail
  refine (drawCrc_any (w.heap.size + 1) _ HS.out).mono ?_
  rintro e w2 ⟨wd, po, rfl, hS, hg⟩
  have hz := HS.out.lt
  replace HB := Lib.hid (HB.out.trans (grown_below hg (by omega) (by omega)))
  replace HC := Lib.hid (HC.out.below (grown_below hg (Nat.le_refl _) (by omega)) (by omega))
  replace HS := Lib.hid hS
  clear hS hg hz
  have hz2 : w.heap.size + 1 < w2.heap.size := HS.out.lt
  have HG := Lib.hid (Cell2.new w2 wd po 25)
  replace HS := Lib.hid (HS.out.alloc (.cells #[.int .i64 wd, .int .i64 po] 25))
  replace HB := Lib.hid (HB.out.alloc HB.out.size (.cells #[.int .i64 wd, .int .i64 po] 25))
  replace HC := Lib.hid (HC.out.alloc (.cells #[.int .i64 wd, .int .i64 po] 25))
  go_wp2_with fail
  refine (next_any (w.heap.size + 1) _ _ HS.out).mono ?_
  rintro e w3 ⟨z, rfl, hz0, hz1, hS, hg⟩
  have hz := HS.out.lt
  replace HB := Lib.hid (HB.out.trans (grown_below hg (by omega) (by omega)))
  replace HC := Lib.hid (HC.out.below (grown_below hg (Nat.le_refl _) (by omega)) (by omega))
  replace HG := Lib.hid (HG.out.far hg hz2)
  replace HS := Lib.hid hS
  clear hS hg hz hz0 hz1
  obtain ⟨G, hG⟩ : ∃ G, G = w2.heap.size := ⟨_, rfl⟩
  rw [← hG] at HG hz2 ⊢
  clear hG
  have hGa : ¬ (G = w.heap.size) := by omega
  have hGb : ¬ (w.heap.size = G) := by omega
  have HSd := Lib.hid HS.out.drew
  have HBd := Lib.hid HB.out.drew
  have HCd := Lib.hid HC.out.drew
  have HGd := Lib.hid HG.out.drew
  have hzd := HSd.out.lt
  have hbs := HB.out.size
  have hbz : w.heap.size + 1 < w3.heap.size := HS.out.lt
  obtain ⟨c0, c1, f0, f1⟩ := HGd.out
  have ka0 := keepA HG.out.c0
  have ka1 := keepA HG.out.c1
  by_cases hz : z = 0
  · subst hz
    go_upto_region 4 with fail
    go_cut [3] (fun s3 wx => IntV s3 ∧ Cell2 wx w.heap.size wd po ∧ Below w.heap.size w wx)
    case rest =>
      obtain ⟨⟨x, rfl⟩, hC, hB⟩ := hcut
      have HBF := Lib.hid hB
      obtain ⟨r0, r1, g0, g1⟩ := hC
      clear HS HB HC HG HSd HBd HCd HGd c0 c1 f0 f1 ka0 ka1 hB
      go_wp2_with fail
      try simp only [Exit.inBlock, Exit.then]
      refine bodyPost_ret (by simp [results, Try.results53, go_sem, r0, r1]; try rfl) rfl ?_
      exact ⟨_, _, _, rfl, HBF.out⟩
    case first =>
      go_region_with ((first | (go_at_call 60; ((with_reducible refine (next_any (w.heap.size + 1) _ _ (HS.out.alloc (.cells #[.int .i64 0, .int .i64 1, .int .i64 64, .int .i64 65] 2)).drew).mono ?_); rintro e w5 ⟨x, rfl, hx0, hx1, hS, hg⟩; obtain ⟨K, rfl⟩ := Int.eq_ofNat_of_zero_le hx0; have hK : K < 4 := (by omega); have hKi : (K : Int) < 4 := (by omega); obtain ⟨a, ha, _⟩ := int4 w3 0 1 64 65 2 K hK; have hac : w5.cell? ⟨w3.heap.size, K, none⟩ = some (.int .i64 a) := far_cell (w := (w3.alloc (.cells #[.int .i64 0, .int .i64 1, .int .i64 64, .int .i64 65] 2)).drew) ha hg (by omega); have HB5 := Lib.hid (((HB.out.alloc HB.out.size (.cells #[.int .i64 0, .int .i64 1, .int .i64 64, .int .i64 65] 2)).drew).trans (grown_below hg (by omega) (by simp; omega))); have HC5 := Lib.hid (((HC.out.alloc (.cells #[.int .i64 0, .int .i64 1, .int .i64 64, .int .i64 65] 2)).drew).below (grown_below hg (Nat.le_refl _) (by simp; omega)) (by omega)); have HG5 := Lib.hid (((HG.out.alloc (.cells #[.int .i64 0, .int .i64 1, .int .i64 64, .int .i64 65] 2)).drew).far hg hz2); obtain ⟨d0, d1, e0, e1⟩ := HG5.out; obtain ⟨r0, r1, g0, g1⟩ := HC5.out; clear hS hx1 ha hg)) | (go_at_call 60; ((with_reducible refine (next_any (w.heap.size + 1) _ _ HSd.out).mono ?_); rintro e w5 ⟨x, rfl, hx0, hx1, hS, hg⟩; obtain ⟨K, rfl⟩ := Int.eq_ofNat_of_zero_le hx0; have hK : K < 4 := (by omega); have hKi : (K : Int) < 4 := (by omega); have ha0 := lit4At w5 0 1 64 65 2 w5.heap.size K rfl hK; have ha1 := lit4At ((w5.setCell ⟨w.heap.size, 0, none⟩ (.int .i64 wd)).setCell ⟨w.heap.size, 1, none⟩ (.int .i64 po)) 0 1 64 65 2 w5.heap.size K (by simp) hK; obtain ⟨a, hae⟩ : ∃ a : Int, a = [0, 1, 64, 65].getD K 0 := ⟨_, rfl⟩; rw [← hae] at ha0 ha1; clear hae; have hz5 : w.heap.size + 1 < w5.heap.size := hS.lt; have hn5 : ¬ (w5.heap.size = w.heap.size) := (by omega); have hn6 : ¬ (w.heap.size = w5.heap.size) := (by omega); have HBB := Lib.hid (HBd.out.trans (grown_below hg (by omega) (by omega))); have HCB := Lib.hid (HCd.out.below (grown_below hg (Nat.le_refl _) (by omega)) (by omega)); have HGB := Lib.hid (HGd.out.far hg hz2); obtain ⟨d0, d1, e0, e1⟩ := HGB.out; obtain ⟨r0, r1, g0, g1⟩ := HCB.out; obtain ⟨ra0, ra1, ra2, ra3⟩ := (HCB.out.alloc (.cells #[.int .i64 0, .int .i64 1, .int .i64 64, .int .i64 65] 2)); have kb0 := keepA d0; have kb1 := keepA d1; clear hS hx1 hg)) | fail))
      all_goals
        go_wp2_with fail
        go_meet
        refine ⟨⟨_, rfl⟩, ?_, ?_⟩
        · first | (with_reducible exact (HC5.out.set0 _).set1 _) | (with_reducible exact ((HCB.out.set0 _).set1 _).alloc _) | (with_reducible exact ((HCB.out.alloc _).set0 _).set1 _) | fail
        · first | (with_reducible exact (HB5.out.setCell (p := ⟨w.heap.size, 0, none⟩) (Nat.le_refl _) _).setCell (p := ⟨w.heap.size, 1, none⟩) (Nat.le_refl _) _) | (with_reducible exact ((HBB.out.setCell (p := ⟨w.heap.size, 0, none⟩) (Nat.le_refl _) _).setCell (p := ⟨w.heap.size, 1, none⟩) (Nat.le_refl _) _).alloc (by simpa using HBB.out.size) _) | (with_reducible exact ((HBB.out.alloc HBB.out.size _).setCell (p := ⟨w.heap.size, 0, none⟩) (Nat.le_refl _) _).setCell (p := ⟨w.heap.size, 1, none⟩) (Nat.le_refl _) _) | fail
  have hzb : (z == 0) = false := by simp [hz]
  clear hz
  go_upto_region 5 with fail
  go_cut [3] (fun s3 wx => IntV s3 ∧ Cell2 wx w.heap.size wd po ∧ Below w.heap.size w wx)
  case rest =>
    obtain ⟨⟨x, rfl⟩, hC, hB⟩ := hcut
    have HBF := Lib.hid hB
    obtain ⟨r0, r1, g0, g1⟩ := hC
    clear HS HB HC HG HSd HBd HCd HGd c0 c1 f0 f1 ka0 ka1 hB
    go_wp2_with fail
    try simp only [Exit.inBlock, Exit.then]
    refine bodyPost_ret (by simp [results, Try.results53, go_sem, r0, r1]; try rfl) rfl ?_
    exact ⟨_, _, _, rfl, HBF.out⟩
  case first =>
    go_region_with ((first | (go_at_call 60; ((with_reducible refine (next_any (w.heap.size + 1) _ _ HSd.out).mono ?_); rintro e w5 ⟨x, rfl, hx0, hx1, hS, hg⟩; have HB5 := Lib.hid (HBd.out.trans (grown_below hg (by omega) (by omega))); have HC5 := Lib.hid (HCd.out.below (grown_below hg (Nat.le_refl _) (by omega)) (by omega)); have HG5 := Lib.hid (HGd.out.far hg hz2); obtain ⟨d0, d1, e0, e1⟩ := HG5.out; obtain ⟨r0, r1, g0, g1⟩ := HC5.out; clear hS hg)) | fail))
    all_goals
      go_wp2_with fail
      go_meet
      exact ⟨⟨_, rfl⟩, (HC5.out.set0 _).set1 _, (HB5.out.setCell (p := ⟨w.heap.size, 0, none⟩) (Nat.le_refl _) _).setCell (p := ⟨w.heap.size, 1, none⟩) (Nat.le_refl _) _⟩
set_option maxHeartbeats 1000000 in
theorem drawFirstMissed_any (v : Value) (cs : List Int) (w : World) (hr : Rd .u8 w v cs) (hl : cs.length ≤ 4096) (ho : ∀ x ∈ cs, 0 ≤ x ∧ x ≤ 255) : Calls Try.prog 26 #[v] w (DrawnCN w) := by
  have HB := Lib.hid ((Below.refl w.heap.size w).alloc (Nat.le_refl _) (.cells #[.int .i64 0, .int .i64 0] 25))
  have HR := Lib.hid (hr.below HB.out)
  have HO8 := Lib.hid ho
  have HC := Lib.hid (Cell2.new w 0 0 25)
  clear hr ho
  go_enter Try.func26, Try.ntmps26
  go_wp2_with fail
  refine (drawLeastWeight_any _ cs _ HR.out hl HO8.out).mono ?_
  rintro e w1 ⟨wd, po, x, rfl, hb⟩
  replace HB := Lib.hid (HB.out.trans (hb.mono (by simp)))
  replace HC := Lib.hid (HC.out.next hb)
  obtain ⟨r0, r1, g0, g1⟩ := HC.out
  clear hb
  go_wp2_with fail
  try simp only [Exit.inBlock, Exit.then]
  refine bodyPost_ret (by simp [results, Try.results26, go_sem, r0, r1]; try rfl) rfl ?_
  exact ⟨_, _, _, rfl, (HB.out.setCell (p := ⟨w.heap.size, 0, none⟩) (Nat.le_refl _) _).setCell (p := ⟨w.heap.size, 1, none⟩) (Nat.le_refl _) _⟩
end Go.Proofs.Ytmlingcnbdpbmaa
