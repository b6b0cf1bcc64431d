/- Contracts: l04Draw (whose states are valid), l04DrawAny. -/
import Derived.Test.YtkhmnkpdlodepaaDoorCellN
import Derived.Test.YtkhmnkpdlodepaaDoorDrB
import Derived.Test.YtkhmnkpdlodepaaDoorStB
namespace Go.Proofs.YtkhmnkpdlodepaaDoor
open Go.RowKit
set_option linter.unusedVariables false
set_option linter.unusedSimpArgs false

/-- What a draw of a state hands back. -/
def DrawnS (b : Nat) (w : World) (e : Ending) (w' : World) : Prop := ∃ t m r s v : Int, e = .returned (.agg #[.int .i64 t, .int .i64 m, .int .i64 r, .int .i64 s, .int .i64 v]) ∧ SrcAt w' b ∧ w.grownBy w' (some b)
theorem SrcAt.set5 {w : World} {b g : Nat} (h : SrcAt w b) (hne : b < g) (x0 x1 x2 x3 x4 : Value) : SrcAt (((((w.setCell ⟨g, 0, none⟩ x0).setCell ⟨g, 1, none⟩ x1).setCell ⟨g, 2, none⟩ x2).setCell ⟨g, 3, none⟩ x3).setCell ⟨g, 4, none⟩ x4) b :=
  ((((h.setCell hne _ _).setCell hne _ _).setCell hne _ _).setCell hne _ _).setCell hne _ _
theorem grown_set5 {w w2 : World} {b g : Nat} (h : w.grownBy w2 (some b)) (hg : w.heap.size ≤ g) (x0 x1 x2 x3 x4 : Value) : w.grownBy (((((w2.setCell ⟨g, 0, none⟩ x0).setCell ⟨g, 1, none⟩ x1).setCell ⟨g, 2, none⟩ x2).setCell ⟨g, 3, none⟩ x3).setCell ⟨g, 4, none⟩ x4) (some b) :=
  grown_set' (grown_set' (grown_set' (grown_set' (grown_set' h hg _ _) hg _ _) hg _ _) hg _ _) hg _ _
theorem stB_mk {t m r s v : Int} (h1 : 0 ≤ t ∧ t ≤ 65535) (h2 : 0 ≤ m ∧ m ≤ 15) (h3 : 0 ≤ r ∧ r ≤ 15) (h4 : 0 ≤ s ∧ s ≤ 255) (h5 : 0 ≤ v ∧ v ≤ 4294967295) : stB t m r s v = true := by
  simp only [stB, inB_mk h1, inB_mk h2, inB_mk h3, inB_mk h4, inB_mk h5, Bool.and_self]
/-- What a draw of a valid state hands back. -/
def DrawnSv (b : Nat) (w : World) (e : Ending) (w' : World) : Prop := ∃ t m r s v : Int, e = .returned (.agg #[.int .i64 t, .int .i64 m, .int .i64 r, .int .i64 s, .int .i64 v]) ∧ stB t m r s v = true ∧ SrcAt w' b ∧ w.grownBy w' (some b)
set_option maxHeartbeats 4000000 in
theorem drawStateOk_any (b : Nat) (w : World) (h : SrcAt w b) : Calls Tryd.prog 30 #[.pointer (some ⟨b, 0, none⟩)] w (DrawnSv b w) := by
  have hlt := h.lt
  have HS := Lib.hid (h.alloc (.cells #[.int .i64 0, .int .i64 0, .int .i64 0, .int .i64 0, .int .i64 0] 23))
  have HG := Lib.hid (World.grownBy_alloc w (.cells #[.int .i64 0, .int .i64 0, .int .i64 0, .int .i64 0, .int .i64 0] 23) (some b))
  have HC := Lib.hid (CellN.new5 w 0 0 0 0 0 23)
  clear h
  go_enter Tryd.func30, Tryd.ntmps30
  go_wp2_with fail
  refine (next_any b _ _ HS.out).mono ?_
  rintro e w1 ⟨t, rfl, ht0, ht1, hS, hg⟩
  replace HS := Lib.hid hS
  replace HG := Lib.hid (grownBy_trans HG.out hg)
  replace HC := Lib.hid (HC.out.far hg (by omega))
  clear hS hg
  go_wp2_with fail
  refine (next_any b _ _ HS.out).mono ?_
  rintro e w2 ⟨m, rfl, hm0, hm1, hS, hg⟩
  replace HS := Lib.hid hS
  replace HG := Lib.hid (grownBy_trans HG.out hg)
  replace HC := Lib.hid (HC.out.far hg (by omega))
  clear hS hg
  go_wp2_with fail
  refine (next_any b _ _ HS.out).mono ?_
  rintro e w3 ⟨r, rfl, hr0, hr1, hS, hg⟩
  replace HS := Lib.hid hS
  replace HG := Lib.hid (grownBy_trans HG.out hg)
  replace HC := Lib.hid (HC.out.far hg (by omega))
  clear hS hg
  go_wp2_with fail
  refine (next_any b _ _ HS.out).mono ?_
  rintro e w4 ⟨s, rfl, hs0, hs1, hS, hg⟩
  replace HS := Lib.hid hS
  replace HG := Lib.hid (grownBy_trans HG.out hg)
  replace HC := Lib.hid (HC.out.far hg (by omega))
  clear hS hg
  go_wp2_with fail
  refine (next_any b _ _ HS.out).mono ?_
  rintro e w5 ⟨v, rfl, hv0, hv1, hS, hg⟩
  replace HS := Lib.hid hS
  replace HG := Lib.hid (grownBy_trans HG.out hg)
  replace HC := Lib.hid (HC.out.far hg (by omega))
  clear hS hg
  have hz5 : w.heap.size < w5.heap.size := HC.out.lt
  have HX := Lib.hid (CellN.new5 w5 t m r s v 23)
  replace HS := Lib.hid (HS.out.alloc (.cells #[.int .i64 t, .int .i64 m, .int .i64 r, .int .i64 s, .int .i64 v] 23))
  replace HG := Lib.hid (grown_alloc' HG.out (.cells #[.int .i64 t, .int .i64 m, .int .i64 r, .int .i64 s, .int .i64 v] 23))
  replace HC := Lib.hid (HC.out.alloc (.cells #[.int .i64 t, .int .i64 m, .int .i64 r, .int .i64 s, .int .i64 v] 23))
  go_wp2_with fail
  refine (next_any b _ _ HS.out).mono ?_
  rintro e w6 ⟨z, rfl, hz0, hz1, hS, hg⟩
  replace HS := Lib.hid hS
  replace HG := Lib.hid (grownBy_trans HG.out hg)
  replace HC := Lib.hid (HC.out.far hg (by omega))
  replace HX := Lib.hid (HX.out.far hg (by omega))
  clear hS hg
  obtain ⟨G, hG⟩ : ∃ G, G = w5.heap.size := ⟨_, rfl⟩
  rw [← hG] at HX hz5 ⊢
  clear hG
  have hne1 : ¬ (G = w.heap.size) := by omega
  have hne2 : ¬ (w.heap.size = G) := by omega
  have hbG : b < G := by omega
  by_cases hz : z = 0
  rotate_left
  · have hzb : (z == 0) = false := by simp [hz]
    clear hz
    obtain ⟨⟨c0, c1, c2, c3, c4⟩, ⟨f0, f1, f2, f3, f4⟩⟩ := HX.out.five
    obtain ⟨⟨r0, r1, r2, r3, r4⟩, ⟨g0, g1, g2, g3, g4⟩⟩ := HC.out.five
    go_wp2_with fail
    try simp only [Exit.inBlock, Exit.then]
    refine bodyPost_ret (by simp [results, Tryd.results30, go_sem, r0, r1, r2, r3, r4, hne1, hne2]; try rfl) rfl ?_
    refine ⟨_, _, _, _, _, rfl, stB_mk ?_ ?_ ?_ ?_ ?_, HS.out.set5 hlt _ _ _ _ _, grown_set5 HG.out (Nat.le_refl _) _ _ _ _ _⟩
    all_goals first | omega | (rw [IntWalk.i64_in _ (by omega)]; omega) | fail
  subst hz
  go_wp2_with fail
  refine (next_any b _ _ HS.out).mono ?_
  rintro e w7 ⟨a, rfl, ha0, ha1, hS, hg⟩
  replace HS := Lib.hid hS
  replace HG := Lib.hid (grownBy_trans HG.out hg)
  replace HC := Lib.hid (HC.out.far hg (by omega))
  replace HX := Lib.hid (HX.out.far hg (by omega))
  clear hS hg
  go_wp2_with fail
  refine (next_any b _ _ HS.out).mono ?_
  rintro e w8 ⟨c, rfl, hc0, hc1, hS, hg⟩
  replace HS := Lib.hid hS
  replace HG := Lib.hid (grownBy_trans HG.out hg)
  replace HC := Lib.hid (HC.out.far hg (by omega))
  replace HX := Lib.hid (HX.out.far hg (by omega))
  clear hS hg
  go_wp2_with fail
  refine (next_any b _ _ HS.out).mono ?_
  rintro e w9 ⟨d, rfl, hd0, hd1, hS, hg⟩
  replace HS := Lib.hid hS
  replace HG := Lib.hid (grownBy_trans HG.out hg)
  replace HC := Lib.hid (HC.out.far hg (by omega))
  replace HX := Lib.hid (HX.out.far hg (by omega))
  clear hS hg
  go_wp2_with fail
  refine (next_any b _ _ HS.out).mono ?_
  rintro e w10 ⟨f, rfl, hf0, hf1, hS, hg⟩
  replace HS := Lib.hid hS
  replace HG := Lib.hid (grownBy_trans HG.out hg)
  replace HC := Lib.hid (HC.out.far hg (by omega))
  replace HX := Lib.hid (HX.out.far hg (by omega))
  clear hS hg
  go_wp2_with fail
  refine (next_any b _ _ HS.out).mono ?_
  rintro e w11 ⟨q, rfl, hq0, hq1, hS, hg⟩
  replace HS := Lib.hid hS
  replace HG := Lib.hid (grownBy_trans HG.out hg)
  replace HC := Lib.hid (HC.out.far hg (by omega))
  replace HX := Lib.hid (HX.out.far hg (by omega))
  clear hS hg
  obtain ⟨⟨c0, c1, c2, c3, c4⟩, ⟨f0, f1, f2, f3, f4⟩⟩ := HX.out.five
  obtain ⟨⟨r0, r1, r2, r3, r4⟩, ⟨g0, g1, g2, g3, g4⟩⟩ := HC.out.five
  go_wp2_with fail
  try simp only [Exit.inBlock, Exit.then]
  refine bodyPost_ret (by simp [results, Tryd.results30, go_sem, r0, r1, r2, r3, r4, hne1, hne2]; try rfl) rfl ?_
  refine ⟨_, _, _, _, _, rfl, stB_mk ?_ ?_ ?_ ?_ ?_, (HS.out.set5 hbG _ _ _ _ _).set5 hlt _ _ _ _ _, grown_set5 (grown_set5 HG.out (show w.heap.size ≤ G by omega) _ _ _ _ _) (Nat.le_refl _) _ _ _ _ _⟩
  all_goals first | omega | (rw [IntWalk.i64_in _ (by omega)]; omega) | fail
theorem drawState_any (b : Nat) (w : World) (h : SrcAt w b) : Calls Tryd.prog 30 #[.pointer (some ⟨b, 0, none⟩)] w (DrawnS b w) :=
  (drawStateOk_any b w h).mono fun _ _ ⟨t, m, r, s, v, h1, _, h2, h3⟩ => ⟨t, m, r, s, v, h1, h2, h3⟩
set_option maxHeartbeats 4000000 in
theorem drawStateAny_any (b : Nat) (w : World) (h : SrcAt w b) : Calls Tryd.prog 26 #[.pointer (some ⟨b, 0, none⟩)] w (DrawnS b w) := by
  have hlt := h.lt
  have HS := Lib.hid (h.alloc (.cells #[.int .i64 0, .int .i64 0, .int .i64 0, .int .i64 0, .int .i64 0] 23))
  have HG := Lib.hid (World.grownBy_alloc w (.cells #[.int .i64 0, .int .i64 0, .int .i64 0, .int .i64 0, .int .i64 0] 23) (some b))
  have HC := Lib.hid (CellN.new5 w 0 0 0 0 0 23)
  clear h
  go_enter Tryd.func26, Tryd.ntmps26
  go_wp2_with fail
  refine (drawState_any b _ HS.out).mono ?_
  rintro e w1 ⟨t, m, r, s, v, rfl, hS, hg⟩
  replace HS := Lib.hid hS
  replace HG := Lib.hid (grownBy_trans HG.out hg)
  replace HC := Lib.hid (HC.out.far hg (by omega))
  clear hS hg
  have hz5 : w.heap.size < w1.heap.size := HC.out.lt
  have HX := Lib.hid (CellN.new5 w1 t m r s v 23)
  replace HS := Lib.hid (HS.out.alloc (.cells #[.int .i64 t, .int .i64 m, .int .i64 r, .int .i64 s, .int .i64 v] 23))
  replace HG := Lib.hid (grown_alloc' HG.out (.cells #[.int .i64 t, .int .i64 m, .int .i64 r, .int .i64 s, .int .i64 v] 23))
  replace HC := Lib.hid (HC.out.alloc (.cells #[.int .i64 t, .int .i64 m, .int .i64 r, .int .i64 s, .int .i64 v] 23))
  go_wp2_with fail
  refine (next_any b _ _ HS.out).mono ?_
  rintro e w2 ⟨z, rfl, hz0, hz1, hS, hg⟩
  replace HS := Lib.hid hS
  replace HG := Lib.hid (grownBy_trans HG.out hg)
  replace HC := Lib.hid (HC.out.far hg (by omega))
  replace HX := Lib.hid (HX.out.far hg (by omega))
  clear hS hg
  obtain ⟨G, hG⟩ : ∃ G, G = w1.heap.size := ⟨_, rfl⟩
  rw [← hG] at HX hz5 ⊢
  clear hG
  have hne1 : ¬ (G = w.heap.size) := by omega
  have hne2 : ¬ (w.heap.size = G) := by omega
  have hbG : b < G := by omega
  by_cases hz0 : z = 0
  · subst hz0
    have hGz : G < w2.heap.size := HX.out.lt
    replace HS := Lib.hid (HS.out.alloc (.cells #[.int .i64 (-1), .int .i64 (65535), .int .i64 (65536)] 2))
    replace HG := Lib.hid (grown_alloc' HG.out (.cells #[.int .i64 (-1), .int .i64 (65535), .int .i64 (65536)] 2))
    replace HC := Lib.hid (HC.out.alloc (.cells #[.int .i64 (-1), .int .i64 (65535), .int .i64 (65536)] 2))
    replace HX := Lib.hid (HX.out.alloc (.cells #[.int .i64 (-1), .int .i64 (65535), .int .i64 (65536)] 2))
    go_wp2_with fail
    refine (next_any b _ _ HS.out).mono ?_
    rintro e w3 ⟨k, rfl, hk0, hk1, hS, hg⟩
    obtain ⟨K, rfl⟩ := Int.eq_ofNat_of_zero_le hk0
    have hK : K < 3 := by omega
    have hKi : (K : Int) < 3 := by omega
    obtain ⟨u, hu, _⟩ := int3 w2 (-1) (65535) (65536) 2 K hK
    have huc := far_cell hu hg (by omega)
    replace HS := Lib.hid hS
    replace HG := Lib.hid (grownBy_trans HG.out hg)
    replace HC := Lib.hid (HC.out.far hg (by omega))
    replace HX := Lib.hid (HX.out.far hg (by omega))
    clear hS hg hk1 hu
    obtain ⟨⟨c0, c1, c2, c3, c4⟩, ⟨f0, f1, f2, f3, f4⟩⟩ := HX.out.five
    obtain ⟨⟨r0, r1, r2, r3, r4⟩, ⟨g0, g1, g2, g3, g4⟩⟩ := HC.out.five
    go_wp2_with fail
    try simp only [Exit.inBlock, Exit.then]
    refine bodyPost_ret (by simp [results, Tryd.results26, go_sem, r0, r1, r2, r3, r4, hne1, hne2]; try rfl) rfl ?_
    exact ⟨_, _, _, _, _, rfl, (HS.out.setCell hbG _ _).set5 hlt _ _ _ _ _, grown_set5 (grown_set' HG.out (show w.heap.size ≤ G by omega) _ _) (Nat.le_refl _) _ _ _ _ _⟩
  have hzb0 : (z == 0) = false := by simp [hz0]
  by_cases hz1 : z = 1
  · subst hz1
    have hGz : G < w2.heap.size := HX.out.lt
    replace HS := Lib.hid (HS.out.alloc (.cells #[.int .i64 (-1), .int .i64 (16)] 2))
    replace HG := Lib.hid (grown_alloc' HG.out (.cells #[.int .i64 (-1), .int .i64 (16)] 2))
    replace HC := Lib.hid (HC.out.alloc (.cells #[.int .i64 (-1), .int .i64 (16)] 2))
    replace HX := Lib.hid (HX.out.alloc (.cells #[.int .i64 (-1), .int .i64 (16)] 2))
    go_wp2_with fail
    refine (next_any b _ _ HS.out).mono ?_
    rintro e w3 ⟨k, rfl, hk0, hk1, hS, hg⟩
    obtain ⟨K, rfl⟩ := Int.eq_ofNat_of_zero_le hk0
    have hK : K < 2 := by omega
    have hKi : (K : Int) < 2 := by omega
    obtain ⟨u, hu, _⟩ := int2 w2 (-1) (16) 2 K hK
    have huc := far_cell hu hg (by omega)
    replace HS := Lib.hid hS
    replace HG := Lib.hid (grownBy_trans HG.out hg)
    replace HC := Lib.hid (HC.out.far hg (by omega))
    replace HX := Lib.hid (HX.out.far hg (by omega))
    clear hS hg hk1 hu
    obtain ⟨⟨c0, c1, c2, c3, c4⟩, ⟨f0, f1, f2, f3, f4⟩⟩ := HX.out.five
    obtain ⟨⟨r0, r1, r2, r3, r4⟩, ⟨g0, g1, g2, g3, g4⟩⟩ := HC.out.five
    go_wp2_with fail
    try simp only [Exit.inBlock, Exit.then]
    refine bodyPost_ret (by simp [results, Tryd.results26, go_sem, r0, r1, r2, r3, r4, hne1, hne2]; try rfl) rfl ?_
    exact ⟨_, _, _, _, _, rfl, (HS.out.setCell hbG _ _).set5 hlt _ _ _ _ _, grown_set5 (grown_set' HG.out (show w.heap.size ≤ G by omega) _ _) (Nat.le_refl _) _ _ _ _ _⟩
  have hzb1 : (z == 1) = false := by simp [hz1]
  by_cases hz2 : z = 2
  · subst hz2
    have hGz : G < w2.heap.size := HX.out.lt
    replace HS := Lib.hid (HS.out.alloc (.cells #[.int .i64 (-1), .int .i64 (16)] 2))
    replace HG := Lib.hid (grown_alloc' HG.out (.cells #[.int .i64 (-1), .int .i64 (16)] 2))
    replace HC := Lib.hid (HC.out.alloc (.cells #[.int .i64 (-1), .int .i64 (16)] 2))
    replace HX := Lib.hid (HX.out.alloc (.cells #[.int .i64 (-1), .int .i64 (16)] 2))
    go_wp2_with fail
    refine (next_any b _ _ HS.out).mono ?_
    rintro e w3 ⟨k, rfl, hk0, hk1, hS, hg⟩
    obtain ⟨K, rfl⟩ := Int.eq_ofNat_of_zero_le hk0
    have hK : K < 2 := by omega
    have hKi : (K : Int) < 2 := by omega
    obtain ⟨u, hu, _⟩ := int2 w2 (-1) (16) 2 K hK
    have huc := far_cell hu hg (by omega)
    replace HS := Lib.hid hS
    replace HG := Lib.hid (grownBy_trans HG.out hg)
    replace HC := Lib.hid (HC.out.far hg (by omega))
    replace HX := Lib.hid (HX.out.far hg (by omega))
    clear hS hg hk1 hu
    obtain ⟨⟨c0, c1, c2, c3, c4⟩, ⟨f0, f1, f2, f3, f4⟩⟩ := HX.out.five
    obtain ⟨⟨r0, r1, r2, r3, r4⟩, ⟨g0, g1, g2, g3, g4⟩⟩ := HC.out.five
    go_wp2_with fail
    try simp only [Exit.inBlock, Exit.then]
    refine bodyPost_ret (by simp [results, Tryd.results26, go_sem, r0, r1, r2, r3, r4, hne1, hne2]; try rfl) rfl ?_
    exact ⟨_, _, _, _, _, rfl, (HS.out.setCell hbG _ _).set5 hlt _ _ _ _ _, grown_set5 (grown_set' HG.out (show w.heap.size ≤ G by omega) _ _) (Nat.le_refl _) _ _ _ _ _⟩
  have hzb2 : (z == 2) = false := by simp [hz2]
  by_cases hz3 : z = 3
  · subst hz3
    have hGz : G < w2.heap.size := HX.out.lt
    replace HS := Lib.hid (HS.out.alloc (.cells #[.int .i64 (-1), .int .i64 (256)] 2))
    replace HG := Lib.hid (grown_alloc' HG.out (.cells #[.int .i64 (-1), .int .i64 (256)] 2))
    replace HC := Lib.hid (HC.out.alloc (.cells #[.int .i64 (-1), .int .i64 (256)] 2))
    replace HX := Lib.hid (HX.out.alloc (.cells #[.int .i64 (-1), .int .i64 (256)] 2))
    go_wp2_with fail
    refine (next_any b _ _ HS.out).mono ?_
    rintro e w3 ⟨k, rfl, hk0, hk1, hS, hg⟩
    obtain ⟨K, rfl⟩ := Int.eq_ofNat_of_zero_le hk0
    have hK : K < 2 := by omega
    have hKi : (K : Int) < 2 := by omega
    obtain ⟨u, hu, _⟩ := int2 w2 (-1) (256) 2 K hK
    have huc := far_cell hu hg (by omega)
    replace HS := Lib.hid hS
    replace HG := Lib.hid (grownBy_trans HG.out hg)
    replace HC := Lib.hid (HC.out.far hg (by omega))
    replace HX := Lib.hid (HX.out.far hg (by omega))
    clear hS hg hk1 hu
    obtain ⟨⟨c0, c1, c2, c3, c4⟩, ⟨f0, f1, f2, f3, f4⟩⟩ := HX.out.five
    obtain ⟨⟨r0, r1, r2, r3, r4⟩, ⟨g0, g1, g2, g3, g4⟩⟩ := HC.out.five
    go_wp2_with fail
    try simp only [Exit.inBlock, Exit.then]
    refine bodyPost_ret (by simp [results, Tryd.results26, go_sem, r0, r1, r2, r3, r4, hne1, hne2]; try rfl) rfl ?_
    exact ⟨_, _, _, _, _, rfl, (HS.out.setCell hbG _ _).set5 hlt _ _ _ _ _, grown_set5 (grown_set' HG.out (show w.heap.size ≤ G by omega) _ _) (Nat.le_refl _) _ _ _ _ _⟩
  have hzb3 : (z == 3) = false := by simp [hz3]
  by_cases hz4 : z = 4
  · subst hz4
    have hGz : G < w2.heap.size := HX.out.lt
    replace HS := Lib.hid (HS.out.alloc (.cells #[.int .i64 (-1), .int .i64 (4294967296)] 2))
    replace HG := Lib.hid (grown_alloc' HG.out (.cells #[.int .i64 (-1), .int .i64 (4294967296)] 2))
    replace HC := Lib.hid (HC.out.alloc (.cells #[.int .i64 (-1), .int .i64 (4294967296)] 2))
    replace HX := Lib.hid (HX.out.alloc (.cells #[.int .i64 (-1), .int .i64 (4294967296)] 2))
    go_wp2_with fail
    refine (next_any b _ _ HS.out).mono ?_
    rintro e w3 ⟨k, rfl, hk0, hk1, hS, hg⟩
    obtain ⟨K, rfl⟩ := Int.eq_ofNat_of_zero_le hk0
    have hK : K < 2 := by omega
    have hKi : (K : Int) < 2 := by omega
    obtain ⟨u, hu, _⟩ := int2 w2 (-1) (4294967296) 2 K hK
    have huc := far_cell hu hg (by omega)
    replace HS := Lib.hid hS
    replace HG := Lib.hid (grownBy_trans HG.out hg)
    replace HC := Lib.hid (HC.out.far hg (by omega))
    replace HX := Lib.hid (HX.out.far hg (by omega))
    clear hS hg hk1 hu
    obtain ⟨⟨c0, c1, c2, c3, c4⟩, ⟨f0, f1, f2, f3, f4⟩⟩ := HX.out.five
    obtain ⟨⟨r0, r1, r2, r3, r4⟩, ⟨g0, g1, g2, g3, g4⟩⟩ := HC.out.five
    go_wp2_with fail
    try simp only [Exit.inBlock, Exit.then]
    refine bodyPost_ret (by simp [results, Tryd.results26, go_sem, r0, r1, r2, r3, r4, hne1, hne2]; try rfl) rfl ?_
    exact ⟨_, _, _, _, _, rfl, (HS.out.setCell hbG _ _).set5 hlt _ _ _ _ _, grown_set5 (grown_set' HG.out (show w.heap.size ≤ G by omega) _ _) (Nat.le_refl _) _ _ _ _ _⟩
  have hzb4 : (z == 4) = false := by simp [hz4]
  clear hz0 hz1 hz2 hz3 hz4
  obtain ⟨⟨c0, c1, c2, c3, c4⟩, ⟨f0, f1, f2, f3, f4⟩⟩ := HX.out.five
  obtain ⟨⟨r0, r1, r2, r3, r4⟩, ⟨g0, g1, g2, g3, g4⟩⟩ := HC.out.five
  go_wp2_with fail
  try simp only [Exit.inBlock, Exit.then]
  refine bodyPost_ret (by simp [results, Tryd.results26, go_sem, r0, r1, r2, r3, r4, hne1, hne2]; try rfl) rfl ?_
  exact ⟨_, _, _, _, _, rfl, HS.out.set5 hlt _ _ _ _ _, grown_set5 HG.out (Nat.le_refl _) _ _ _ _ _⟩
end Go.Proofs.YtkhmnkpdlodepaaDoor
