/- Contracts: DrawStateDistance. -/
import Derived.Test.YtkfhfggbmmhejaaDrSt
import Derived.Deep.RegionHeld3
import Derived.Deep.RegionWith
import Derived.StillTailTactics
import Derived.Deep.DeepCutAuto
import Derived.Deep.CutBlock
namespace Go.Proofs.Ytkfhfggbmmhejaa
open Go.RowKit
set_option linter.unusedVariables false
set_option linter.unusedSimpArgs false

/-- What a draw of two states hands back. -/
def DrawnSS (w : World) (e : Ending) (w' : World) : Prop := ∃ t m r s v t2 m2 r2 s2 v2 : Int, e = .returned (.tuple #[.agg #[.int .i64 t, .int .i64 m, .int .i64 r, .int .i64 s, .int .i64 v], .agg #[.int .i64 t2, .int .i64 m2, .int .i64 r2, .int .i64 s2, .int .i64 v2]]) ∧ Below w.heap.size w w'
theorem below_set5 {w w2 : World} {B g : Nat} (h : Below B w w2) (hg : B ≤ g) (x0 x1 x2 x3 x4 : Value) : Below B w (((((w2.setCell ⟨g, 0, none⟩ x0).setCell ⟨g, 1, none⟩ x1).setCell ⟨g, 2, none⟩ x2).setCell ⟨g, 3, none⟩ x3).setCell ⟨g, 4, none⟩ x4) :=
  ((((h.setCell (p := ⟨g, 0, none⟩) hg _).setCell (p := ⟨g, 1, none⟩) hg _).setCell (p := ⟨g, 2, none⟩) hg _).setCell (p := ⟨g, 3, none⟩) hg _).setCell (p := ⟨g, 4, none⟩) hg _
/-- What stays true while the second state is changed: G, H the two boxes. -/
def InvSD (w : World) (G H : Nat) (wx : World) : Prop := ∃ t m r s u t2 m2 r2 s2 u2 : Int, CellN wx G [t, m, r, s, u] ∧ CellN wx H [t2, m2, r2, s2, u2] ∧ CellN wx w.heap.size [0, 0, 0, 0, 0] ∧ CellN wx (w.heap.size + 1) [0, 0, 0, 0, 0] ∧ SrcAt wx (w.heap.size + 2) ∧ Below w.heap.size w wx
set_option maxRecDepth 20000 in
set_option maxHeartbeats 8000000 in
theorem drawStateDistance_any (v : Value) (cs : List Int) (w : World) (hr : Rd .u8 w v cs) (hl : cs.length ≤ 4096) (ho : ∀ x ∈ cs, 0 ≤ x ∧ x ≤ 255) : Calls Try.prog 10 #[v] w (DrawnSS w) := by
  have HB := Lib.hid (((Below.refl w.heap.size w).alloc (Nat.le_refl _) (.cells #[.int .i64 0, .int .i64 0, .int .i64 0, .int .i64 0, .int .i64 0] 25)).alloc (by simp) (.cells #[.int .i64 0, .int .i64 0, .int .i64 0, .int .i64 0, .int .i64 0] 25))
  have HR := Lib.hid (hr.below HB.out)
  have HO8 := Lib.hid ho
  have HC1 := Lib.hid ((CellN.new5 w 0 0 0 0 0 25).alloc (.cells #[.int .i64 0, .int .i64 0, .int .i64 0, .int .i64 0, .int .i64 0] 25))
  have HC2 : Hid (CellN ((w.alloc (.cells #[.int .i64 0, .int .i64 0, .int .i64 0, .int .i64 0, .int .i64 0] 25)).alloc (.cells #[.int .i64 0, .int .i64 0, .int .i64 0, .int .i64 0, .int .i64 0] 25)) (w.heap.size + 1) [0, 0, 0, 0, 0]) := Lib.hid (by have := CellN.new5 (w.alloc (.cells #[.int .i64 0, .int .i64 0, .int .i64 0, .int .i64 0, .int .i64 0] 25)) 0 0 0 0 0 25; simpa using this)
  clear hr ho
  go_enter Try.func10, Try.ntmps10
  go_wp2_with fail
  refine (from_any _ cs _ HR.out hl HO8.out).mono ?_
  rintro e w1 ⟨rfl, hS, hb⟩
  have HS : Hid (SrcAt w1 (w.heap.size + 2)) := Lib.hid (by simpa using hS)
  replace HB := Lib.hid (HB.out.trans (hb.mono (by simp; omega)))
  replace HC1 := Lib.hid (HC1.out.next hb)
  replace HC2 := Lib.hid (HC2.out.next hb)
  clear hS hb
  try simp only [World.size_alloc]
  go_wp2_with fail
  refine (drawStateAny_any (w.heap.size + 2) _ HS.out).mono ?_
  rintro e w2 ⟨t, m, r, s, u, rfl, hS, hg⟩
  have hzz := HS.out.lt
  replace HB := Lib.hid (HB.out.trans (grown_below hg (by omega) (by omega)))
  replace HC1 := Lib.hid (HC1.out.far hg (by omega))
  replace HC2 := Lib.hid (HC2.out.far hg (by omega))
  replace HS := Lib.hid hS
  clear hS hg hzz
  have hG2 : w.heap.size + 2 < w2.heap.size := HS.out.lt
  have HX := Lib.hid (CellN.new5 w2 t m r s u 25)
  replace HS := Lib.hid (HS.out.alloc (.cells #[.int .i64 t, .int .i64 m, .int .i64 r, .int .i64 s, .int .i64 u] 25))
  replace HB := Lib.hid (HB.out.alloc HB.out.size (.cells #[.int .i64 t, .int .i64 m, .int .i64 r, .int .i64 s, .int .i64 u] 25))
  replace HC1 := Lib.hid (HC1.out.alloc (.cells #[.int .i64 t, .int .i64 m, .int .i64 r, .int .i64 s, .int .i64 u] 25))
  replace HC2 := Lib.hid (HC2.out.alloc (.cells #[.int .i64 t, .int .i64 m, .int .i64 r, .int .i64 s, .int .i64 u] 25))
  go_wp2_with fail
  refine (next_any (w.heap.size + 2) _ _ HS.out).mono ?_
  rintro e w3 ⟨z, rfl, hz0, hz1, hS, hg⟩
  have hzz := HS.out.lt
  replace HB := Lib.hid (HB.out.trans (grown_below hg (by omega) (by omega)))
  replace HC1 := Lib.hid (HC1.out.far hg (by omega))
  replace HC2 := Lib.hid (HC2.out.far hg (by omega))
  replace HX := Lib.hid (HX.out.far hg (by omega))
  replace HS := Lib.hid hS
  clear hS hg hzz
  clear hz0 hz1
  obtain ⟨G, hG⟩ : ∃ G, G = w2.heap.size := ⟨_, rfl⟩
  rw [← hG] at HX hG2 ⊢
  clear hG
  obtain ⟨⟨c0, c1, c2, c3, c4⟩, ⟨f0, f1, f2, f3, f4⟩⟩ := HX.out.five
  have hGa : ¬ (G = w.heap.size) := by omega
  have hGb : ¬ (w.heap.size = G) := by omega
  have hGc : ¬ (G = w.heap.size + 1) := by omega
  have hGd : ¬ (w.heap.size + 1 = G) := by omega
  have hn1 : ¬ (w.heap.size + 1 = w.heap.size) := by omega
  have hn2 : ¬ (w.heap.size = w.heap.size + 1) := by omega
  by_cases hz : z = 0
  · subst hz
    have HSd := Lib.hid HS.out.drew
    have HBd := Lib.hid HB.out.drew
    have HC1d := Lib.hid HC1.out.drew
    have HC2d := Lib.hid HC2.out.drew
    have HXd := Lib.hid HX.out.drew
    have hzd := HSd.out.lt
    go_wp2_with fail
    go_region_held3 (fun w' => w'.cell? ⟨G, 0, none⟩ = some (.int .i64 t) ∧ w'.cell? ⟨G, 1, none⟩ = some (.int .i64 m) ∧ w'.cell? ⟨G, 2, none⟩ = some (.int .i64 r) ∧ w'.cell? ⟨G, 3, none⟩ = some (.int .i64 s) ∧ w'.cell? ⟨G, 4, none⟩ = some (.int .i64 u)) (go_keep)
      ((first | (go_at_call 15; ((with_reducible refine (drawStateAny_any (w.heap.size + 2) _ HSd.out).mono ?_); rintro e w4 ⟨t2, m2, r2, s2, u2, rfl, hS, hg⟩; have HB4 := Lib.hid (HBd.out.trans (grown_below hg (by omega) (by omega))); have HA := Lib.hid (HC1d.out.far hg (by omega)); have HD := Lib.hid (HC2d.out.far hg (by omega)); have HY := Lib.hid (HXd.out.far hg (by omega)); obtain ⟨⟨k0, k1, k2, k3, k4⟩, ⟨l0, l1, l2, l3, l4⟩⟩ := HY.out.five; obtain ⟨⟨p0, p1, p2, p3, p4⟩, ⟨q0, q1, q2, q3, q4⟩⟩ := HA.out.five; obtain ⟨⟨i0, i1, i2, i3, i4⟩, ⟨j0, j1, j2, j3, j4⟩⟩ := HD.out.five; clear hS hg)) | fail))
    go_wp2_with fail
    try simp only [Exit.inBlock, Exit.then]
    refine bodyPost_ret (by simp [results, Try.results10, go_sem, p0, p1, p2, p3, p4, i0, i1, i2, i3, i4, hn1, hn2]; try rfl) rfl ?_
    exact ⟨_, _, _, _, _, _, _, _, _, _, rfl, below_set5 (below_set5 HB4.out (Nat.le_refl _) _ _ _ _ _) (by omega) _ _ _ _ _⟩
  have hzb : (z == 0) = false := by simp [hz]
  clear hz
  have hH3 : G < w3.heap.size := HX.out.lt
  have HY := Lib.hid (CellN.new5 w3 t m r s u 25)
  replace HS := Lib.hid (HS.out.alloc (.cells #[.int .i64 t, .int .i64 m, .int .i64 r, .int .i64 s, .int .i64 u] 25))
  replace HB := Lib.hid (HB.out.alloc HB.out.size (.cells #[.int .i64 t, .int .i64 m, .int .i64 r, .int .i64 s, .int .i64 u] 25))
  replace HC1 := Lib.hid (HC1.out.alloc (.cells #[.int .i64 t, .int .i64 m, .int .i64 r, .int .i64 s, .int .i64 u] 25))
  replace HC2 := Lib.hid (HC2.out.alloc (.cells #[.int .i64 t, .int .i64 m, .int .i64 r, .int .i64 s, .int .i64 u] 25))
  replace HX := Lib.hid (HX.out.alloc (.cells #[.int .i64 t, .int .i64 m, .int .i64 r, .int .i64 s, .int .i64 u] 25))
  go_upto_region 6 with fail
  obtain ⟨W, hW⟩ : ∃ W, W = w3.alloc (.cells #[.int .i64 t, .int .i64 m, .int .i64 r, .int .i64 s, .int .i64 u] 25) := ⟨_, rfl⟩
  obtain ⟨H, hH⟩ : ∃ H, H = w3.heap.size := ⟨_, rfl⟩
  rw [← hW] at HS HB HC1 HC2 HX HY ⊢
  rw [← hH] at HY hH3 ⊢
  clear hW hH c0 c1 c2 c3 c4 f0 f1 f2 f3 f4
  go_cut [] (fun wx => InvSD w G H wx)
  case first =>
    have HSd := Lib.hid HS.out.drew
    have HBd := Lib.hid HB.out.drew
    have HC1d := Lib.hid HC1.out.drew
    have HC2d := Lib.hid HC2.out.drew
    have HXd := Lib.hid HX.out.drew
    have HYd := Lib.hid HY.out.drew
    have hzd := HSd.out.lt
    obtain ⟨⟨c0, c1, c2, c3, c4⟩, ⟨f0, f1, f2, f3, f4⟩⟩ := HYd.out.five
    go_region_with ((go_at_call 16; ((with_reducible refine (next_any (w.heap.size + 2) _ _ HSd.out).mono ?_); rintro e w4 ⟨x, rfl, hx0, hx1, hS, hg⟩; have HB4 := Lib.hid (HBd.out.trans (grown_below hg (by omega) (by omega))); have HA := Lib.hid (HC1d.out.far hg (by omega)); have HD := Lib.hid (HC2d.out.far hg (by omega)); have HX4 := Lib.hid (HXd.out.far hg (by omega)); have HY4 := Lib.hid (HYd.out.far hg (by omega)); have HS4 := Lib.hid hS; obtain ⟨⟨k0, k1, k2, k3, k4⟩, ⟨l0, l1, l2, l3, l4⟩⟩ := HY4.out.five; clear hS hg hx0 hx1)))
    all_goals
      go_wp2_with fail
      go_meet
      exact ⟨_, _, _, _, _, _, _, _, _, _, HX4.out.other (by omega) _ _, HY4.out.set 4 (by simp) _, HA.out.other (by omega) _ _, HD.out.other (by omega) _ _, HS4.out.setCell (by omega) _ _, HB4.out.setCell (p := ⟨H, 4, none⟩) (by show w.heap.size ≤ H; omega) _⟩
  case rest =>
    obtain ⟨t', m', r', s', u', t2, m2, r2, s2, u2, hX, hY, hC1, hC2, hS, hB⟩ := hcut
    clear HS HB HC1 HC2 HX HY
    have HS := Lib.hid hS
    have HB := Lib.hid hB
    have HC1 := Lib.hid hC1
    have HC2 := Lib.hid hC2
    have HX := Lib.hid hX
    have HY := Lib.hid hY
    clear hS hB hC1 hC2 hX hY
    go_upto_region 7 with fail
    go_cut [] (fun wx => InvSD w G H wx)
    case first =>
      have HSd := Lib.hid HS.out.drew
      have HBd := Lib.hid HB.out.drew
      have HC1d := Lib.hid HC1.out.drew
      have HC2d := Lib.hid HC2.out.drew
      have HXd := Lib.hid HX.out.drew
      have HYd := Lib.hid HY.out.drew
      have hzd := HSd.out.lt
      obtain ⟨⟨c0, c1, c2, c3, c4⟩, ⟨f0, f1, f2, f3, f4⟩⟩ := HYd.out.five
      go_region_with ((go_at_call 16; ((with_reducible refine (next_any (w.heap.size + 2) _ _ HSd.out).mono ?_); rintro e w4 ⟨x, rfl, hx0, hx1, hS, hg⟩; have HB4 := Lib.hid (HBd.out.trans (grown_below hg (by omega) (by omega))); have HA := Lib.hid (HC1d.out.far hg (by omega)); have HD := Lib.hid (HC2d.out.far hg (by omega)); have HX4 := Lib.hid (HXd.out.far hg (by omega)); have HY4 := Lib.hid (HYd.out.far hg (by omega)); have HS4 := Lib.hid hS; obtain ⟨⟨k0, k1, k2, k3, k4⟩, ⟨l0, l1, l2, l3, l4⟩⟩ := HY4.out.five; clear hS hg hx0 hx1)))
      all_goals
        go_wp2_with fail
        go_meet
        exact ⟨_, _, _, _, _, _, _, _, _, _, HX4.out.other (by omega) _ _, HY4.out.set 0 (by simp) _, HA.out.other (by omega) _ _, HD.out.other (by omega) _ _, HS4.out.setCell (by omega) _ _, HB4.out.setCell (p := ⟨H, 0, none⟩) (by show w.heap.size ≤ H; omega) _⟩
    case rest =>
      obtain ⟨t', m', r', s', u', t2, m2, r2, s2, u2, hX, hY, hC1, hC2, hS, hB⟩ := hcut
      clear HS HB HC1 HC2 HX HY
      have HS := Lib.hid hS
      have HB := Lib.hid hB
      have HC1 := Lib.hid hC1
      have HC2 := Lib.hid hC2
      have HX := Lib.hid hX
      have HY := Lib.hid hY
      clear hS hB hC1 hC2 hX hY
      obtain ⟨⟨c0, c1, c2, c3, c4⟩, ⟨f0, f1, f2, f3, f4⟩⟩ := HY.out.five
      obtain ⟨⟨d0, d1, d2, d3, d4⟩, ⟨e0, e1, e2, e3, e4⟩⟩ := HX.out.five
      obtain ⟨⟨p0, p1, p2, p3, p4⟩, ⟨q0, q1, q2, q3, q4⟩⟩ := HC1.out.five
      obtain ⟨⟨i0, i1, i2, i3, i4⟩, ⟨j0, j1, j2, j3, j4⟩⟩ := HC2.out.five
      have hHa : ¬ (H = w.heap.size) := by omega
      have hHb : ¬ (w.heap.size = H) := by omega
      have hHc : ¬ (H = w.heap.size + 1) := by omega
      have hHd : ¬ (w.heap.size + 1 = H) := by omega
      have HBd := Lib.hid HB.out.drew
      go_wp2
      go_region
      all_goals
        go_wp2_with fail
        try simp only [Exit.inBlock, Exit.then]
        refine bodyPost_ret (by simp [results, Try.results10, go_sem, p0, p1, p2, p3, p4, i0, i1, i2, i3, i4, hn1, hn2]; try rfl) rfl ?_
        exact ⟨_, _, _, _, _, _, _, _, _, _, rfl, (below_set5 (below_set5 HB.out (Nat.le_refl _) _ _ _ _ _) (Nat.le_succ _) _ _ _ _ _).drew⟩
end Go.Proofs.Ytkfhfggbmmhejaa
