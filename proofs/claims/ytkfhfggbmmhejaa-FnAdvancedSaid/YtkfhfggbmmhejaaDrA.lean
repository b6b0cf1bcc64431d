/- Contracts: DrawAdvanceState. -/
import Derived.Test.YtkfhfggbmmhejaaDrSt
import Derived.Deep.RegionHeld3
import Derived.Deep.RegionWith
import Derived.StillTailTactics
import Derived.Deep.DeepCutAuto
import Derived.Deep.CutBlock
namespace Go.Proofs.Ytkfhfggbmmhejaa
open Go.RowKit
set_option linter.unusedVariables false
set_option linter.unusedSimpArgs false

/-- What a draw of a state and three numbers hands back. -/
def DrawnSN (w : World) (e : Ending) (w' : World) : Prop := ∃ t m r s v d n k : Int, e = .returned (.tuple #[.agg #[.int .i64 t, .int .i64 m, .int .i64 r, .int .i64 s, .int .i64 v], .int .i64 d, .int .i64 n, .int .i64 k]) ∧ Below w.heap.size w w'
theorem below_put5 {w w2 : World} {B g : Nat} (h : Below B w w2) (hg : B ≤ g) (x0 x1 x2 x3 x4 : Value) : Below B w (((((w2.setCell ⟨g, 0, none⟩ x0).setCell ⟨g, 1, none⟩ x1).setCell ⟨g, 2, none⟩ x2).setCell ⟨g, 3, none⟩ x3).setCell ⟨g, 4, none⟩ x4) :=
  ((((h.setCell (p := ⟨g, 0, none⟩) hg _).setCell (p := ⟨g, 1, none⟩) hg _).setCell (p := ⟨g, 2, none⟩) hg _).setCell (p := ⟨g, 3, none⟩) hg _).setCell (p := ⟨g, 4, none⟩) hg _
/-- What stays true while the numbers are drawn: G the state's box. -/
def InvA (w : World) (G : Nat) (t m r s u : Int) (wx : World) : Prop := CellN wx G [t, m, r, s, u] ∧ CellN wx w.heap.size [0, 0, 0, 0, 0] ∧ SrcAt wx (w.heap.size + 1) ∧ Below w.heap.size w wx
def IntV (v : Value) : Prop := ∃ x : Int, v = .int .i64 x
set_option maxRecDepth 20000 in
set_option maxHeartbeats 8000000 in
theorem drawAdvanceState_any (v : Value) (cs : List Int) (w : World) (hr : Rd .u8 w v cs) (hl : cs.length ≤ 4096) (ho : ∀ x ∈ cs, 0 ≤ x ∧ x ≤ 255) : Calls Try.prog 6 #[v] w (DrawnSN w) := by
  have HB := Lib.hid ((Below.refl w.heap.size w).alloc (Nat.le_refl _) (.cells #[.int .i64 0, .int .i64 0, .int .i64 0, .int .i64 0, .int .i64 0] 25))
  have HR := Lib.hid (hr.below HB.out)
  have HO8 := Lib.hid ho
  have HC := Lib.hid (CellN.new5 w 0 0 0 0 0 25)
  clear hr ho
  go_enter Try.func6, Try.ntmps6
  go_wp2_with fail
  refine (from_any _ cs _ HR.out hl HO8.out).mono ?_
  rintro e w1 ⟨rfl, hS, hb⟩
  have HS : Hid (SrcAt w1 (w.heap.size + 1)) := Lib.hid (by simpa using hS)
  replace HB := Lib.hid (HB.out.trans (hb.mono (by simp)))
  replace HC := Lib.hid (HC.out.next hb)
  clear hS hb
  try simp only [World.size_alloc]
  go_wp2_with fail
  refine (drawStateAny_any (w.heap.size + 1) _ HS.out).mono ?_
  rintro e w2 ⟨t, m, r, s, u, rfl, hS, hg⟩
  have hzz := HS.out.lt
  replace HB := Lib.hid (HB.out.trans (grown_below hg (by omega) (by omega)))
  replace HC := Lib.hid (HC.out.far hg (by omega))
  replace HS := Lib.hid hS
  clear hS hg hzz
  have hG2 : w.heap.size + 1 < w2.heap.size := HS.out.lt
  have HX := Lib.hid (CellN.new5 w2 t m r s u 25)
  replace HS := Lib.hid (HS.out.alloc (.cells #[.int .i64 t, .int .i64 m, .int .i64 r, .int .i64 s, .int .i64 u] 25))
  replace HB := Lib.hid (HB.out.alloc HB.out.size (.cells #[.int .i64 t, .int .i64 m, .int .i64 r, .int .i64 s, .int .i64 u] 25))
  replace HC := Lib.hid (HC.out.alloc (.cells #[.int .i64 t, .int .i64 m, .int .i64 r, .int .i64 s, .int .i64 u] 25))
  go_upto_region 3 with fail
  obtain ⟨W, hW⟩ : ∃ W, W = w2.alloc (.cells #[.int .i64 t, .int .i64 m, .int .i64 r, .int .i64 s, .int .i64 u] 25) := ⟨_, rfl⟩
  obtain ⟨G, hG⟩ : ∃ G, G = w2.heap.size := ⟨_, rfl⟩
  rw [← hW] at HS HB HC HX ⊢
  rw [← hG] at HX hG2 ⊢
  clear hW hG
  have hGa : ¬ (G = w.heap.size) := by omega
  have hGb : ¬ (w.heap.size = G) := by omega
  go_cut [8, 9, 10] (fun s8 s9 s10 wx => IntV s8 ∧ IntV s9 ∧ IntV s10 ∧ InvA w G t m r s u wx)
  case first =>
    have HSd := Lib.hid HS.out.drew
    have HBd := Lib.hid HB.out.drew
    have HCd := Lib.hid HC.out.drew
    have HXd := Lib.hid HX.out.drew
    have hzd := HSd.out.lt
    obtain ⟨⟨c0, c1, c2, c3, c4⟩, ⟨f0, f1, f2, f3, f4⟩⟩ := HXd.out.five
    go_region_held3 (fun w' => w'.cell? ⟨G, 3, none⟩ = some (.int .i64 s) ∧ w'.cell? ⟨G, 2, none⟩ = some (.int .i64 r)) (go_keep)
      ((first | (go_at_call 16; ((with_reducible refine (next_any (w.heap.size + 1) _ _ HSd.out).mono ?_); rintro e w4 ⟨x, rfl, x0, x1, hS, hg⟩; have HB4 := Lib.hid (HBd.out.trans (grown_below hg (by omega) (by have := HSd.out.lt; omega))); have HC4 := Lib.hid (HCd.out.far hg (by omega)); have HX4 := Lib.hid (HXd.out.far hg (by omega)); have HS4 := Lib.hid hS; obtain ⟨⟨k04, k14, k24, k34, k44⟩, ⟨l04, l14, l24, l34, l44⟩⟩ := HX4.out.five; clear hS hg x0 x1)) | (go_at_call 16; ((with_reducible refine (next_any (w.heap.size + 1) _ _ HS4.out).mono ?_); rintro e w5 ⟨y, rfl, y0, y1, hS, hg⟩; have HB5 := Lib.hid (HB4.out.trans (grown_below hg (by omega) (by have := HS4.out.lt; omega))); have HC5 := Lib.hid (HC4.out.far hg (by omega)); have HX5 := Lib.hid (HX4.out.far hg (by omega)); have HS5 := Lib.hid hS; obtain ⟨⟨k05, k15, k25, k35, k45⟩, ⟨l05, l15, l25, l35, l45⟩⟩ := HX5.out.five; clear hS hg y0 y1)) | (go_at_call 16; ((with_reducible refine (next_any (w.heap.size + 1) _ _ HS5.out).mono ?_); rintro e w6 ⟨z, rfl, z0, z1, hS, hg⟩; have HB6 := Lib.hid (HB5.out.trans (grown_below hg (by omega) (by have := HS5.out.lt; omega))); have HC6 := Lib.hid (HC5.out.far hg (by omega)); have HX6 := Lib.hid (HX5.out.far hg (by omega)); have HS6 := Lib.hid hS; obtain ⟨⟨k06, k16, k26, k36, k46⟩, ⟨l06, l16, l26, l36, l46⟩⟩ := HX6.out.five; clear hS hg z0 z1)) | fail))
    go_wp2_with fail
    go_meet
    exact ⟨⟨_, rfl⟩, ⟨_, rfl⟩, ⟨_, rfl⟩, HX6.out, HC6.out, HS6.out, HB6.out⟩
  case rest =>
    obtain ⟨⟨d, rfl⟩, ⟨n, rfl⟩, ⟨k, rfl⟩, hX, hC, hS, hB⟩ := hcut
    clear HS HB HC HX
    have HS := Lib.hid hS
    have HB := Lib.hid hB
    have HC := Lib.hid hC
    have HX := Lib.hid hX
    clear hS hB hC hX
    go_wp2_with fail
    refine (next_any (w.heap.size + 1) _ _ HS.out).mono ?_
    rintro e w3 ⟨z, rfl, hz0, hz1, hS, hg⟩
    have hzz := HS.out.lt
    replace HB := Lib.hid (HB.out.trans (grown_below hg (by omega) (by omega)))
    replace HC := Lib.hid (HC.out.far hg (by omega))
    replace HX := Lib.hid (HX.out.far hg (by omega))
    replace HS := Lib.hid hS
    clear hS hg hzz hz0 hz1
    go_upto_block 0 with fail
    go_cut [8, 9, 10] (fun s8 s9 s10 wx => IntV s8 ∧ IntV s9 ∧ IntV s10 ∧ InvA w G t m r s u wx)
    case rest =>
      obtain ⟨⟨d', rfl⟩, ⟨n', rfl⟩, ⟨k', rfl⟩, hX, hC, hS, hB⟩ := hcut
      clear HS HB HC HX
      obtain ⟨⟨c0, c1, c2, c3, c4⟩, ⟨f0, f1, f2, f3, f4⟩⟩ := hX.five
      obtain ⟨⟨p0, p1, p2, p3, p4⟩, ⟨q0, q1, q2, q3, q4⟩⟩ := hC.five
      have HB := Lib.hid hB
      clear hX hC hS hB
      go_wp2_with fail
      try simp only [Exit.inBlock, Exit.then]
      refine bodyPost_ret (by simp [results, Try.results6, go_sem, p0, p1, p2, p3, p4, hGa, hGb]; try rfl) rfl ?_
      exact ⟨_, _, _, _, _, _, _, _, rfl, below_put5 HB.out (Nat.le_refl _) _ _ _ _ _⟩
    case first =>
      have hbz : w.heap.size + 1 < w3.heap.size := HS.out.lt
      by_cases hz0 : z = 0
      · subst hz0
        replace HS := Lib.hid (HS.out.alloc (.cells #[.int .i64 (-1), .int .i64 65535, .int .i64 65536] 2))
        replace HB := Lib.hid (HB.out.alloc HB.out.size (.cells #[.int .i64 (-1), .int .i64 65535, .int .i64 65536] 2))
        replace HC := Lib.hid (HC.out.alloc (.cells #[.int .i64 (-1), .int .i64 65535, .int .i64 65536] 2))
        replace HX := Lib.hid (HX.out.alloc (.cells #[.int .i64 (-1), .int .i64 65535, .int .i64 65536] 2))
        go_wp2_with fail
        refine (next_any (w.heap.size + 1) _ _ HS.out).mono ?_
        rintro e w4 ⟨x, rfl, hx0, hx1, hS, hg⟩
        obtain ⟨K, rfl⟩ := Int.eq_ofNat_of_zero_le hx0
        have hK : K < 3 := by omega
        have hKi : (K : Int) < 3 := by omega
        obtain ⟨a, ha, _⟩ := int3 w3 (-1) (65535) (65536) 2 K hK
        have hac := far_cell ha hg hbz
        have hzz := HS.out.lt
        replace HB := Lib.hid (HB.out.trans (grown_below hg (by omega) (by omega)))
        replace HC := Lib.hid (HC.out.far hg (by omega))
        replace HX := Lib.hid (HX.out.far hg (by omega))
        replace HS := Lib.hid hS
        clear hS hg hzz ha hx0 hx1
        go_wp2_with fail
        go_meet
        exact ⟨⟨_, rfl⟩, ⟨_, rfl⟩, ⟨_, rfl⟩, HX.out, HC.out, HS.out, HB.out⟩
      have hzb0 : (z == 0) = false := by simp [hz0]
      by_cases hz1 : z = 1
      · subst hz1
        have HSd := Lib.hid HS.out.drew
        have HBd := Lib.hid HB.out.drew
        have HCd := Lib.hid HC.out.drew
        have HXd := Lib.hid HX.out.drew
        have hzd := HSd.out.lt
        have hbs := HB.out.size
        obtain ⟨⟨c0, c1, c2, c3, c4⟩, ⟨f0, f1, f2, f3, f4⟩⟩ := HXd.out.five
        have ka2 := keepA c2
        have ka3 := keepA c3
        go_wp2_with fail
        go_region_with ((first | (go_at_call 16; ((with_reducible refine (next_any (w.heap.size + 1) _ _ (HS.out.alloc (.cells #[.int .i64 0, .int .i64 s, .int .i64 256, .int .i64 257] 2)).drew).mono ?_); rintro e w5 ⟨x, rfl, hx0, hx1, hS, hg⟩; obtain ⟨K, rfl⟩ := Int.eq_ofNat_of_zero_le hx0; have hK : K < 4 := (by omega); have hKi : (K : Int) < 4 := (by omega); have HS5 := Lib.hid hS; obtain ⟨a, ha, _⟩ := int4 w3 (0) (s) (256) (257) 2 K hK; have hac : w5.cell? ⟨w3.heap.size, K, none⟩ = some (.int .i64 a) := far_cell (w := (w3.alloc (.cells #[.int .i64 0, .int .i64 s, .int .i64 256, .int .i64 257] 2)).drew) ha hg (by omega); have HB5 := Lib.hid (((HB.out.alloc HB.out.size (.cells #[.int .i64 0, .int .i64 s, .int .i64 256, .int .i64 257] 2)).drew).trans (grown_below hg (by omega) (by simp; omega))); have HC5 := Lib.hid ((HC.out.alloc (.cells #[.int .i64 0, .int .i64 s, .int .i64 256, .int .i64 257] 2)).drew.far hg (by omega)); have HX5 := Lib.hid ((HX.out.alloc (.cells #[.int .i64 0, .int .i64 s, .int .i64 256, .int .i64 257] 2)).drew.far hg (by omega)); obtain ⟨⟨k0, k1, k2, k3, k4⟩, ⟨l0, l1, l2, l3, l4⟩⟩ := HX5.out.five; clear hS hx0 hx1 ha hg)) | (go_at_call 16; ((with_reducible refine (next_any (w.heap.size + 1) _ _ HSd.out).mono ?_); rintro e w5 ⟨x, rfl, hx0, hx1, hS, hg⟩; obtain ⟨K, rfl⟩ := Int.eq_ofNat_of_zero_le hx0; have hK : K < 4 := (by omega); have hKi : (K : Int) < 4 := (by omega); have HSB := Lib.hid hS; obtain ⟨a, ha, _⟩ := int4 w5 (0) (s) (256) (257) 2 K hK; have HBB := Lib.hid (HBd.out.trans (grown_below hg (by omega) (by omega))); have HCB := Lib.hid (HCd.out.far hg (by omega)); have HXB := Lib.hid (HXd.out.far hg (by omega)); obtain ⟨⟨k0, k1, k2, k3, k4⟩, ⟨l0, l1, l2, l3, l4⟩⟩ := HXB.out.five; clear hS hx0 hx1 hg)) | fail))
        all_goals
          go_wp2_with fail
          go_meet
          first | exact ⟨⟨_, rfl⟩, ⟨_, rfl⟩, ⟨_, rfl⟩, HX5.out, HC5.out, HS5.out, HB5.out⟩ | exact ⟨⟨_, rfl⟩, ⟨_, rfl⟩, ⟨_, rfl⟩, HXB.out.alloc _, HCB.out.alloc _, HSB.out.alloc _, HBB.out.alloc HBB.out.size _⟩ | fail
      have hzb1 : (z == 1) = false := by simp [hz1]
      by_cases hz2 : z = 2
      · subst hz2
        have HSd := Lib.hid HS.out.drew
        have HBd := Lib.hid HB.out.drew
        have HCd := Lib.hid HC.out.drew
        have HXd := Lib.hid HX.out.drew
        have hzd := HSd.out.lt
        have hbs := HB.out.size
        obtain ⟨⟨c0, c1, c2, c3, c4⟩, ⟨f0, f1, f2, f3, f4⟩⟩ := HXd.out.five
        have ka2 := keepA c2
        have ka3 := keepA c3
        go_wp2_with fail
        go_region_with ((first | (go_at_call 16; ((with_reducible refine (next_any (w.heap.size + 1) _ _ (HS.out.alloc (.cells #[.int .i64 0, .int .i64 r, .int .i64 16, .int .i64 17] 2)).drew).mono ?_); rintro e w5 ⟨x, rfl, hx0, hx1, hS, hg⟩; obtain ⟨K, rfl⟩ := Int.eq_ofNat_of_zero_le hx0; have hK : K < 4 := (by omega); have hKi : (K : Int) < 4 := (by omega); have HS5 := Lib.hid hS; obtain ⟨a, ha, _⟩ := int4 w3 (0) (r) (16) (17) 2 K hK; have hac : w5.cell? ⟨w3.heap.size, K, none⟩ = some (.int .i64 a) := far_cell (w := (w3.alloc (.cells #[.int .i64 0, .int .i64 r, .int .i64 16, .int .i64 17] 2)).drew) ha hg (by omega); have HB5 := Lib.hid (((HB.out.alloc HB.out.size (.cells #[.int .i64 0, .int .i64 r, .int .i64 16, .int .i64 17] 2)).drew).trans (grown_below hg (by omega) (by simp; omega))); have HC5 := Lib.hid ((HC.out.alloc (.cells #[.int .i64 0, .int .i64 r, .int .i64 16, .int .i64 17] 2)).drew.far hg (by omega)); have HX5 := Lib.hid ((HX.out.alloc (.cells #[.int .i64 0, .int .i64 r, .int .i64 16, .int .i64 17] 2)).drew.far hg (by omega)); obtain ⟨⟨k0, k1, k2, k3, k4⟩, ⟨l0, l1, l2, l3, l4⟩⟩ := HX5.out.five; clear hS hx0 hx1 ha hg)) | (go_at_call 16; ((with_reducible refine (next_any (w.heap.size + 1) _ _ HSd.out).mono ?_); rintro e w5 ⟨x, rfl, hx0, hx1, hS, hg⟩; obtain ⟨K, rfl⟩ := Int.eq_ofNat_of_zero_le hx0; have hK : K < 4 := (by omega); have hKi : (K : Int) < 4 := (by omega); have HSB := Lib.hid hS; obtain ⟨a, ha, _⟩ := int4 w5 (0) (r) (16) (17) 2 K hK; have HBB := Lib.hid (HBd.out.trans (grown_below hg (by omega) (by omega))); have HCB := Lib.hid (HCd.out.far hg (by omega)); have HXB := Lib.hid (HXd.out.far hg (by omega)); obtain ⟨⟨k0, k1, k2, k3, k4⟩, ⟨l0, l1, l2, l3, l4⟩⟩ := HXB.out.five; clear hS hx0 hx1 hg)) | fail))
        all_goals
          go_wp2_with fail
          go_meet
          first | exact ⟨⟨_, rfl⟩, ⟨_, rfl⟩, ⟨_, rfl⟩, HX5.out, HC5.out, HS5.out, HB5.out⟩ | exact ⟨⟨_, rfl⟩, ⟨_, rfl⟩, ⟨_, rfl⟩, HXB.out.alloc _, HCB.out.alloc _, HSB.out.alloc _, HBB.out.alloc HBB.out.size _⟩ | fail
      have hzb2 : (z == 2) = false := by simp [hz2]
      clear hz0 hz1 hz2
      go_wp2_with fail
      go_meet
      exact ⟨⟨_, rfl⟩, ⟨_, rfl⟩, ⟨_, rfl⟩, HX.out, HC.out, HS.out, HB.out⟩
end Go.Proofs.Ytkfhfggbmmhejaa
