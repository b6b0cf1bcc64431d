/- Contracts: DrawIsMissed, DrawIsFound. -/
import Derived.Test.YtmlingcnbdpbmaaDrO
import Derived.Test.YtmlingcnbdpbmaaFst
import Derived.Test.YtmlingcnbdpbmaaLeastL
import Derived.Test.YtmlingcnbdpbmaaFlip
import Derived.Test.YtmlingcnbdpbmaaApM
import Derived.Deep.RegionHeld3
import Derived.Deep.RegionLaw
import Derived.Deep.DeepCutAuto
import Derived.Deep.CutBlock
namespace Go.Proofs.Ytmlingcnbdpbmaa
open Go.RowKit
set_option linter.unusedVariables false
set_option linter.unusedSimpArgs false

/-- A list that is short or has no one. -/
def Brief (xs : List Int) : Prop := xs.length ≤ 5000 ∨ hasY xs 1 = false
theorem Short.brief {xs : List Int} (h : Short xs 60) : Brief xs := by
  rcases h with h | ⟨k, h, rfl⟩
  · exact .inl (by omega)
  · right
    unfold hasY
    apply decide_eq_false
    have : firstTo (List.replicate k (0 : Int)) 1 (List.replicate k (0 : Int)).length = (List.replicate k (0 : Int)).length := by
      apply firstTo_none
      intro j hj
      rw [getD_of_lt _ _ hj]
      simp
    omega
/-- What a draw of a code and a list hands back. -/
def DrawnCL (w : World) (e : Ending) (w' : World) : Prop := ∃ (wd po : Int) (v : Value) (xs : List Int), e = .returned (.tuple #[.agg #[.int .i64 wd, .int .i64 po], v]) ∧ Own 2 w' w.heap.size v xs ∧ Brief xs ∧ Below w.heap.size w w'
theorem first_in {wd po n : Int} (h : (firstA wd po n).2 = 0) : ∀ i ∈ (firstA wd po n).1, 0 ≤ i ∧ i < n := by
  by_cases hs : spanC wd po n = 0
  rotate_left
  · exfalso
    have e : firstA wd po n = ([], spanC wd po n) := by simp [firstA, hs]
    rw [e] at h; exact hs h
  obtain ⟨hc, h1, h2⟩ := spanC_yes hs
  obtain ⟨N, rfl⟩ := Int.eq_ofNat_of_zero_le (show 0 ≤ n by omega)
  have hne : missL (powI wd po N) N ≠ [] := by
    intro e
    have : (firstA wd po N).2 = 4 := by simp [firstA, hs, e]
    omega
  have e1 : (firstA wd po N).1 = missL (powI wd po N) N := by simp [firstA, hs]
  rw [e1]
  exact risesB_mem (missL_law hc N (by omega) hne).1
theorem own_lit1 (E : TypeId) (W : World) (a : Int) (B n : Nat) (hn : W.heap.size = n) (hB : B ≤ n) : Own E (W.alloc (.cells #[.int .i64 a] E)) B (.slice (some ⟨n, 0, none⟩) 1 1) [a] := by
  subst hn
  exact World.ownsRow_lit W #[.int .i64 a] 1 hB (by decide) rfl
/-- What the draw leaves at its end: the code in the result's box, a list of its own. -/
def EndM (w : World) (wd po : Int) (s : Value) (wx : World) : Prop := ∃ xs, Own 2 wx (w.heap.size + 1) s xs ∧ Brief xs ∧ Cell2 wx w.heap.size wd po ∧ Below w.heap.size w wx
/-- .. behind region 4. -/
def MidM (w : World) (G : Nat) (wd po : Int) (s c : Value) (wx : World) : Prop := ∃ n : Int, 20 ≤ n ∧ n ≤ 39 ∧ Own 2 wx w.heap.size s (firstA wd po n).1 ∧ c = .int .i64 (firstA wd po n).2 ∧ Cell2 wx w.heap.size 0 0 ∧ Cell2 wx G wd po ∧ SrcAt wx (w.heap.size + 1) ∧ Below w.heap.size w wx
theorem Own.setFarM {E : TypeId} {w : World} {B g : Nat} {v : Value} {xs : List Int} (h : Own E w B v xs) (hB : g < B) (i : Nat) (u : Value) : Own E (w.setCell ⟨g, i, none⟩ u) B v xs :=
  h.far (grown_set (World.grownBy.refl w (some g)) i u) hB
/-- 44 zeros. -/
def zs44 : Obj := .cells (madeCells #[Value.int IntKind.i64 0] 44) 2
theorem mk44 : ∀ w : World, (Instr.makeSlice 26 (.int .i64 44) (.int .i64 44)).run Try.prog w = .ok (.slice (some ⟨w.heap.size, 0, none⟩) 44 44) (w.alloc zs44) := fun w => by kernel_rfl
theorem own_zs44 (w : World) (B n : Nat) (hn : w.heap.size = n) (hB : B ≤ n) : Own 2 (w.alloc zs44) B (.slice (some ⟨n, 0, none⟩) 44 44) (List.replicate 44 0) := by
  subst hn
  exact own_zeros (World.ownsRow_lit w (madeCells #[Value.int IntKind.i64 0] 44) 44 hB (by decide) (size_madeCells _ _))
set_option maxRecDepth 20000 in
set_option maxHeartbeats 8000000 in
theorem drawIsMissed_any (v : Value) (cs : List Int) (w : World) (hr : Rd .u8 w v cs) (hl : cs.length ≤ 4096) (ho : ∀ x ∈ cs, 0 ≤ x ∧ x ≤ 255) : Calls Try.prog 32 #[v] w (DrawnCL w) := by
  have HB := Lib.hid ((Below.refl w.heap.size w).alloc (Nat.le_refl _) (.cells #[.int .i64 0, .int .i64 0] 25))
  have HR := Lib.hid (hr.below HB.out)
  have HO8 := Lib.hid ho
  have HC := Lib.hid (Cell2.new w 0 0 25)
  clear hr ho
  go_enter Try.func32, Try.ntmps32
  go_wp2_with fail
  refine (from_any _ cs _ HR.out hl HO8.out).mono ?_
  rintro e w1 ⟨rfl, hS, hb⟩
  have HS : Hid (SrcAt w1 (w.heap.size + 1)) := Lib.hid (by simpa using hS)
  replace HB := Lib.hid (HB.out.trans (hb.mono (by simp)))
  replace HC := Lib.hid (HC.out.next hb)
  clear hS hb
  try simp only [World.size_alloc]
  go_wp2_with fail
  refine (drawCrc_any (w.heap.size + 1) _ HS.out).mono ?_
  rintro e w2 ⟨wd, po, rfl, hS, hg⟩
  have hz := HS.out.lt
  replace HB := Lib.hid (HB.out.trans (grown_below hg (by omega) (by omega)))
  replace HC := Lib.hid (HC.out.below (grown_below hg (Nat.le_refl _) (by omega)) (by omega))
  replace HS := Lib.hid hS
  clear hS hg hz
  have hz2 : w.heap.size + 1 < w2.heap.size := HS.out.lt
  have HG := Lib.hid (Cell2.new w2 wd po 25)
  replace HS := Lib.hid (HS.out.alloc (.cells #[.int .i64 wd, .int .i64 po] 25))
  replace HB := Lib.hid (HB.out.alloc HB.out.size (.cells #[.int .i64 wd, .int .i64 po] 25))
  replace HC := Lib.hid (HC.out.alloc (.cells #[.int .i64 wd, .int .i64 po] 25))
  go_wp2_with fail
  refine (next_any (w.heap.size + 1) _ _ HS.out).mono ?_
  rintro e w3 ⟨z, rfl, hz0, hz1, hS, hg⟩
  have hz := HS.out.lt
  replace HB := Lib.hid (HB.out.trans (grown_below hg (by omega) (by omega)))
  replace HC := Lib.hid (HC.out.below (grown_below hg (Nat.le_refl _) (by omega)) (by omega))
  replace HG := Lib.hid (HG.out.far hg hz2)
  replace HS := Lib.hid hS
  clear hS hg hz hz0 hz1
  obtain ⟨G, hG⟩ : ∃ G, G = w2.heap.size := ⟨_, rfl⟩
  rw [← hG] at HG hz2 ⊢
  clear hG
  have hGa : ¬ (G = w.heap.size) := by omega
  have hGb : ¬ (w.heap.size = G) := by omega
  obtain ⟨i0, hi, hz0, hz1, hz3⟩ := info_parts infoD
  by_cases hz : z = 0
  rotate_left
  · have hzb : (z == 0) = false := by simp [hz]
    clear hz
    cases hcr : crcB wd po
    · have HCR := Lib.hid hcr
      clear hcr
      obtain ⟨c0, c1, f0, f1⟩ := HG.out
      go_wp2_with fail
      refine (sIsCrc_any _ _ _).mono ?_
      rw [HCR.out]
      rintro e wn ⟨rfl, hb⟩
      replace HS := Lib.hid (HS.out.below hb HS.out.lt)
      replace HB := Lib.hid (bthen HB.out hb)
      replace HC := Lib.hid (HC.out.next hb)
      replace HG := Lib.hid (HG.out.next hb)
      clear hb
      obtain ⟨c0, c1, f0, f1⟩ := HG.out
      go_upto_region 9 with fail
      clear c0 c1 f0 f1
      go_cut [3] (fun s3 wx => EndM w wd po s3 wx)
      case rest =>
        obtain ⟨xs, hO, hbr, hC, hB⟩ := hcut
        have HOF := Lib.hid hO
        have HBF := Lib.hid hB
        have HBR := Lib.hid hbr
        obtain ⟨r0, r1, g0, g1⟩ := hC
        clear HS HB HC HG hO hbr hB
        go_wp2_with fail
        try simp only [Exit.inBlock, Exit.then]
        refine bodyPost_ret (by simp [results, Try.results32, go_sem, r0, r1]; try rfl) rfl ?_
        exact ⟨_, _, _, xs, rfl, HOF.out.mono (Nat.le_succ _), HBR.out, HBF.out⟩
      case first =>
        have HSd := Lib.hid HS.out.drew
        have HBd := Lib.hid HB.out.drew
        have HCd := Lib.hid HC.out.drew
        have HGd := Lib.hid HG.out.drew
        have hzd := HSd.out.lt
        have hbs := HB.out.size
        have hbz := HS.out.lt
        obtain ⟨c0, c1, f0, f1⟩ := HGd.out
        go_region_with ((first | (go_at_call 50; ((with_reducible refine (drawErr_any (w.heap.size + 1) _ HSd.out).mono ?_); rintro e w5 ⟨v5, xs, rfl, hO, hsh, hS, hg⟩; have HB5 := Lib.hid (HBd.out.trans (grown_below hg (by omega) (by omega))); have HC5 := Lib.hid (HCd.out.below (grown_below hg (Nat.le_refl _) (by omega)) (by omega)); have HG5 := Lib.hid (HGd.out.far hg hz2); have HO5 := Lib.hid (hO.mono (show w.heap.size + 1 ≤ _ by omega)); have HSH := Lib.hid hsh; obtain ⟨d0, d1, e0, e1⟩ := HG5.out; obtain ⟨r0, r1, g0, g1⟩ := HC5.out; clear hO hsh hS hg)) | fail))
        all_goals
          go_wp2_with fail
          go_meet
          exact ⟨_, ((HO5.out.setFarM (Nat.lt_succ_self _) 0 _).setFarM (Nat.lt_succ_self _) 1 _), HSH.out.brief, (HC5.out.set0 _).set1 _, ((HB5.out).setCell (p := ⟨w.heap.size, 0, none⟩) (Nat.le_refl _) _).setCell (p := ⟨w.heap.size, 1, none⟩) (Nat.le_refl _) _⟩
    have HCR := Lib.hid hcr
    clear hcr
    obtain ⟨c0, c1, f0, f1⟩ := HG.out
    go_wp2_with fail
    refine (sIsCrc_any _ _ _).mono ?_
    rw [HCR.out]
    rintro e wn ⟨rfl, hb⟩
    replace HS := Lib.hid (HS.out.below hb HS.out.lt)
    replace HB := Lib.hid (bthen HB.out hb)
    replace HC := Lib.hid (HC.out.next hb)
    replace HG := Lib.hid (HG.out.next hb)
    clear hb
    clear c0 c1 f0 f1
    obtain ⟨c0, c1, f0, f1⟩ := HG.out
    go_wp2_with fail
    refine (next_any (w.heap.size + 1) _ _ HS.out).mono ?_
    rintro e w7 ⟨y, rfl, hy0, hy1, hS, hg⟩
    clear c0 c1 f0 f1
    clear hy0 hy1
    have hzz := HS.out.lt
    replace HB := Lib.hid (HB.out.trans (grown_below hg (by omega) (by omega)))
    replace HC := Lib.hid (HC.out.below (grown_below hg (Nat.le_refl _) (by omega)) (by omega))
    replace HG := Lib.hid (HG.out.far hg hz2)
    replace HS := Lib.hid hS
    clear hS hg hzz
    by_cases hy : y = 0
    · subst hy
      obtain ⟨c0, c1, f0, f1⟩ := HG.out
      go_upto_region 8 with fail
      clear c0 c1 f0 f1
      obtain ⟨wC, hwC⟩ : ∃ x, x = w7 := ⟨_, rfl⟩
      rw [← hwC] at HS HB HC HG ⊢
      clear hwC
      have HGlt := HG.out.lt
      go_cut [3] (fun s3 wx => EndM w wd po s3 wx)
      case rest =>
        obtain ⟨xs, hO, hbr, hC, hB⟩ := hcut
        have HOF := Lib.hid hO
        have HBF := Lib.hid hB
        have HBR := Lib.hid hbr
        obtain ⟨r0, r1, g0, g1⟩ := hC
        clear HS HB HC HG hO hbr hB
        go_wp2_with fail
        try simp only [Exit.inBlock, Exit.then]
        refine bodyPost_ret (by simp [results, Try.results32, go_sem, r0, r1]; try rfl) rfl ?_
        exact ⟨_, _, _, xs, rfl, HOF.out.mono (Nat.le_succ _), HBR.out, HBF.out⟩
      case first =>
        have HSd := Lib.hid HS.out.drew
        have HBd := Lib.hid HB.out.drew
        have HCd := Lib.hid HC.out.drew
        have HGd := Lib.hid HG.out.drew
        have hzd := HSd.out.lt
        have hbs := HB.out.size
        have hbz := HS.out.lt
        obtain ⟨c0, c1, f0, f1⟩ := HGd.out
        have ka0 := keepA HG.out.c0
        have ka1 := keepA HG.out.c1
        obtain ⟨k1, k2, k3, k4, k5⟩ := crcB_yes HCR.out
        have hpo : po ≤ 9223372036854775807 := by have := p2_crc k1 k2; omega
        obtain ⟨bs, hbs0⟩ : ∃ x, x = bitsOf po wd.toNat := ⟨_, rfl⟩
        have hbl : bs.length = wd.toNat := by rw [hbs0, length_bitsOf]
        have hbl1 : 0 < bs.length := by omega
        have hbl2 : bs.length ≤ 24 := by omega
        have HBS := Lib.hid hbs0
        clear hbs0 hbl k4 k5
        have wc0 : (wC.alloc (.cells #[.int .i64 1] 2)).heap.size = wC.heap.size + 1 := by simp
        go_region_held3 (fun w' => w'.cell? ⟨G, 0, none⟩ = some (.int .i64 wd) ∧ w'.cell? ⟨G, 1, none⟩ = some (.int .i64 po)) (go_keep)
          ((first
          | (go_at_call 44; ((with_reducible refine (l01Append_any _ [] _ _ wC.drew (Own.nil 2 _ 0).rd (by decide) (by omega) hpo (by omega) (by omega)).mono ?_); rw [List.nil_append, ← HBS.out]; rintro e w5 ⟨v5, rfl, hO, hb⟩; have HB5 := Lib.hid (bthen HBd.out hb); have HC5 := Lib.hid (HCd.out.next hb); have HG5 := Lib.hid (HGd.out.next hb); have HO5 := Lib.hid hO; have hz5 : wC.heap.size ≤ w5.heap.size := (hb.size); obtain ⟨d0, d1, e0, e1⟩ := HG5.out; obtain ⟨r0, r1, g0, g1⟩ := HC5.out; have kb0 := keepA d0; have kb1 := keepA d1; clear hO hb))
          | (go_at_call 44; ((with_reducible refine (l01Append_any _ [] _ _ (wC.alloc (.cells #[.int .i64 1] 2)).drew (Own.nil 2 _ 0).rd (by decide) (by omega) hpo (by omega) (by omega)).mono ?_); rw [List.nil_append, ← HBS.out]; rintro e w5 ⟨v5, rfl, hO, hb⟩; have HB5 := Lib.hid (bthen (HB.out.alloc HB.out.size (.cells #[.int .i64 1] 2)).drew hb); have HC5 := Lib.hid ((HC.out.alloc (.cells #[.int .i64 1] 2)).drew.next hb); have HG5 := Lib.hid ((HG.out.alloc (.cells #[.int .i64 1] 2)).drew.next hb); have HLB := Lib.hid ((own_lit1 2 wC 1 (w.heap.size + 1) _ rfl (by omega)).drew.below hb); have HO5 := Lib.hid hO; have hz5 : wC.heap.size + 1 ≤ w5.heap.size := (by have := hb.size; simp only [World.size_drew] at this; omega); obtain ⟨d0, d1, e0, e1⟩ := HG5.out; obtain ⟨r0, r1, g0, g1⟩ := HC5.out; clear hO hb))
          | (with_reducible refine step_appAll Try.underlying26 hi hz0 hz1 hz3 rfl _ _ rfl w5 (w.heap.size + 1) (.slice (some ⟨wC.heap.size, 0, none⟩) 1 1) v5 [1] bs rfl rfl HLB.out HO5.out.rd hbl1 (by decide) (by omega) (by omega) ?_; intro v6 w6 hO6 hb6 hg6; have hbx := below_of_grown (B := wC.heap.size) hg6 (by omega) (fun k hk => by simp [Value.ownBlock] at hk; omega); have HO6 := Lib.hid hO6; have HB6 := Lib.hid (HB5.out.trans (hb6.mono (Nat.le_succ _))); have HC6 := Lib.hid (HC5.out.below hb6 (Nat.lt_succ_self _)); have HG6 := Lib.hid (HG5.out.below hbx HGlt); obtain ⟨m0, m1, n0, n1⟩ := HG6.out; obtain ⟨q0, q1, t0, t1⟩ := HC6.out; clear hO6 hb6 hg6 hbx)
          | (with_reducible refine step_appAll Try.underlying26 hi hz0 hz1 hz3 rfl _ _ rfl (w5.alloc (.cells #[.int .i64 1] 2)) (w.heap.size + 1) (.slice (some ⟨w5.heap.size, 0, none⟩) 1 1) v5 [1] bs rfl rfl (own_lit1 2 w5 1 (w.heap.size + 1) _ rfl (by omega)) (HO5.out.alloc _).rd hbl1 (by decide) (by omega) (by simp; omega) ?_; intro v6 w6 hO6 hb6 hg6; have hbx := below_of_grown (B := w5.heap.size) hg6 (by simp) (fun k hk => by simp [Value.ownBlock] at hk; omega); have HO6 := Lib.hid hO6; have HB6 := Lib.hid ((HB5.out.alloc HB5.out.size (.cells #[.int .i64 1] 2)).trans (hb6.mono (Nat.le_succ _))); have HC6 := Lib.hid ((HC5.out.alloc (.cells #[.int .i64 1] 2)).below hb6 (Nat.lt_succ_self _)); have HG6 := Lib.hid ((HG5.out.alloc (.cells #[.int .i64 1] 2)).below hbx HG5.out.lt); obtain ⟨m0, m1, n0, n1⟩ := HG6.out; obtain ⟨q0, q1, t0, t1⟩ := HC6.out; clear hO6 hb6 hg6 hbx)
          | fail))
        all_goals
          go_wp2_with fail
          go_meet
          exact ⟨_, (HO6.out.setFarM (Nat.lt_succ_self _) 0 _).setFarM (Nat.lt_succ_self _) 1 _, .inl (by simp; omega), (HC6.out.set0 _).set1 _, ((HB6.out).setCell (p := ⟨w.heap.size, 0, none⟩) (Nat.le_refl _) _).setCell (p := ⟨w.heap.size, 1, none⟩) (Nat.le_refl _) _⟩
    have hyb : (y == 0) = false := by simp [hy]
    clear hy
    obtain ⟨c0, c1, f0, f1⟩ := HG.out
    go_upto_region 9 with fail
    clear c0 c1 f0 f1
    go_cut [3] (fun s3 wx => EndM w wd po s3 wx)
    case rest =>
      obtain ⟨xs, hO, hbr, hC, hB⟩ := hcut
      have HOF := Lib.hid hO
      have HBF := Lib.hid hB
      have HBR := Lib.hid hbr
      obtain ⟨r0, r1, g0, g1⟩ := hC
      clear HS HB HC HG hO hbr hB
      go_wp2_with fail
      try simp only [Exit.inBlock, Exit.then]
      refine bodyPost_ret (by simp [results, Try.results32, go_sem, r0, r1]; try rfl) rfl ?_
      exact ⟨_, _, _, xs, rfl, HOF.out.mono (Nat.le_succ _), HBR.out, HBF.out⟩
    case first =>
      have HSd := Lib.hid HS.out.drew
      have HBd := Lib.hid HB.out.drew
      have HCd := Lib.hid HC.out.drew
      have HGd := Lib.hid HG.out.drew
      have hzd := HSd.out.lt
      have hbs := HB.out.size
      have hbz := HS.out.lt
      obtain ⟨c0, c1, f0, f1⟩ := HGd.out
      go_region_with ((first | (go_at_call 50; ((with_reducible refine (drawErr_any (w.heap.size + 1) _ HSd.out).mono ?_); rintro e w5 ⟨v5, xs, rfl, hO, hsh, hS, hg⟩; have HB5 := Lib.hid (HBd.out.trans (grown_below hg (by omega) (by omega))); have HC5 := Lib.hid (HCd.out.below (grown_below hg (Nat.le_refl _) (by omega)) (by omega)); have HG5 := Lib.hid (HGd.out.far hg hz2); have HO5 := Lib.hid (hO.mono (show w.heap.size + 1 ≤ _ by omega)); have HSH := Lib.hid hsh; obtain ⟨d0, d1, e0, e1⟩ := HG5.out; obtain ⟨r0, r1, g0, g1⟩ := HC5.out; clear hO hsh hS hg)) | fail))
      all_goals
        go_wp2_with fail
        go_meet
        exact ⟨_, ((HO5.out.setFarM (Nat.lt_succ_self _) 0 _).setFarM (Nat.lt_succ_self _) 1 _), HSH.out.brief, (HC5.out.set0 _).set1 _, ((HB5.out).setCell (p := ⟨w.heap.size, 0, none⟩) (Nat.le_refl _) _).setCell (p := ⟨w.heap.size, 1, none⟩) (Nat.le_refl _) _⟩
  subst hz
  cases hcr : crcB wd po
  · have HCR := Lib.hid hcr
    clear hcr
    obtain ⟨c0, c1, f0, f1⟩ := HG.out
    go_wp2_with fail
    refine (sIsCrc_any _ _ _).mono ?_
    rw [HCR.out]
    rintro e wn ⟨rfl, hb⟩
    replace HS := Lib.hid (HS.out.below hb HS.out.lt)
    replace HB := Lib.hid (bthen HB.out hb)
    replace HC := Lib.hid (HC.out.next hb)
    replace HG := Lib.hid (HG.out.next hb)
    clear hb
    clear c0 c1 f0 f1
    obtain ⟨c0, c1, f0, f1⟩ := HG.out
    go_wp2_with fail
    refine (sIsCrc_any _ _ _).mono ?_
    rw [HCR.out]
    rintro e wn ⟨rfl, hb⟩
    replace HS := Lib.hid (HS.out.below hb HS.out.lt)
    replace HB := Lib.hid (bthen HB.out hb)
    replace HC := Lib.hid (HC.out.next hb)
    replace HG := Lib.hid (HG.out.next hb)
    clear hb
    clear c0 c1 f0 f1
    obtain ⟨c0, c1, f0, f1⟩ := HG.out
    go_upto_region 9 with fail
    clear c0 c1 f0 f1
    go_cut [3] (fun s3 wx => EndM w wd po s3 wx)
    case rest =>
      obtain ⟨xs, hO, hbr, hC, hB⟩ := hcut
      have HOF := Lib.hid hO
      have HBF := Lib.hid hB
      have HBR := Lib.hid hbr
      obtain ⟨r0, r1, g0, g1⟩ := hC
      clear HS HB HC HG hO hbr hB
      go_wp2_with fail
      try simp only [Exit.inBlock, Exit.then]
      refine bodyPost_ret (by simp [results, Try.results32, go_sem, r0, r1]; try rfl) rfl ?_
      exact ⟨_, _, _, xs, rfl, HOF.out.mono (Nat.le_succ _), HBR.out, HBF.out⟩
    case first =>
      have HSd := Lib.hid HS.out.drew
      have HBd := Lib.hid HB.out.drew
      have HCd := Lib.hid HC.out.drew
      have HGd := Lib.hid HG.out.drew
      have hzd := HSd.out.lt
      have hbs := HB.out.size
      have hbz := HS.out.lt
      obtain ⟨c0, c1, f0, f1⟩ := HGd.out
      go_region_with ((first | (go_at_call 50; ((with_reducible refine (drawErr_any (w.heap.size + 1) _ HSd.out).mono ?_); rintro e w5 ⟨v5, xs, rfl, hO, hsh, hS, hg⟩; have HB5 := Lib.hid (HBd.out.trans (grown_below hg (by omega) (by omega))); have HC5 := Lib.hid (HCd.out.below (grown_below hg (Nat.le_refl _) (by omega)) (by omega)); have HG5 := Lib.hid (HGd.out.far hg hz2); have HO5 := Lib.hid (hO.mono (show w.heap.size + 1 ≤ _ by omega)); have HSH := Lib.hid hsh; obtain ⟨d0, d1, e0, e1⟩ := HG5.out; obtain ⟨r0, r1, g0, g1⟩ := HC5.out; clear hO hsh hS hg)) | fail))
      all_goals
        go_wp2_with fail
        go_meet
        exact ⟨_, ((HO5.out.setFarM (Nat.lt_succ_self _) 0 _).setFarM (Nat.lt_succ_self _) 1 _), HSH.out.brief, (HC5.out.set0 _).set1 _, ((HB5.out).setCell (p := ⟨w.heap.size, 0, none⟩) (Nat.le_refl _) _).setCell (p := ⟨w.heap.size, 1, none⟩) (Nat.le_refl _) _⟩
  have HCR := Lib.hid hcr
  clear hcr
  obtain ⟨c0, c1, f0, f1⟩ := HG.out
  go_wp2_with fail
  refine (sIsCrc_any _ _ _).mono ?_
  rw [HCR.out]
  rintro e wn ⟨rfl, hb⟩
  replace HS := Lib.hid (HS.out.below hb HS.out.lt)
  replace HB := Lib.hid (bthen HB.out hb)
  replace HC := Lib.hid (HC.out.next hb)
  replace HG := Lib.hid (HG.out.next hb)
  clear hb
  clear c0 c1 f0 f1
  obtain ⟨c0, c1, f0, f1⟩ := HG.out
  go_upto_region 4 with fail
  clear c0 c1 f0 f1
  go_cut [6, 7] (fun s6 s7 wx => MidM w G wd po s6 s7 wx)
  case first =>
    have HSd := Lib.hid HS.out.drew
    have HBd := Lib.hid HB.out.drew
    have HCd := Lib.hid HC.out.drew
    have HGd := Lib.hid HG.out.drew
    have hzd := HSd.out.lt
    have hbs := HB.out.size
    have hbz := HS.out.lt
    obtain ⟨c0, c1, f0, f1⟩ := HGd.out
    go_region_with ((first | (go_at_call 60; ((with_reducible refine (next_any (w.heap.size + 1) _ _ HSd.out).mono ?_); rintro e w4 ⟨x, rfl, hx0, hx1, hS, hg⟩; have hxx : IntKind.i64.wrap (20 + x) = 20 + x := (IntWalk.i64_in _ (by omega)); have HB4 := Lib.hid (HBd.out.trans (grown_below hg (by omega) (by omega))); have HC4 := Lib.hid (HCd.out.below (grown_below hg (Nat.le_refl _) (by omega)) (by omega)); have HG4 := Lib.hid (HGd.out.far hg hz2); have HS4 := Lib.hid hS; obtain ⟨d0, d1, e0, e1⟩ := HG4.out; clear hS hg)) | (go_at_call 28; ((with_reducible refine (sFirstMissed_any _ _ _ _).mono ?_); rintro e w5 ⟨v5, rfl, hO, hb⟩; have HB5 := Lib.hid (bthen HB4.out hb); have HC5 := Lib.hid (HC4.out.next hb); have HG5 := Lib.hid (HG4.out.next hb); have HS5 := Lib.hid (HS4.out.below hb HS4.out.lt); have HO5 := Lib.hid (hO.mono HB4.out.size); clear hO hb)) | fail))
    all_goals
      go_wp2_with fail
      go_meet
      exact ⟨20 + x, by omega, by omega, HO5.out, rfl, HC5.out, HG5.out, HS5.out, HB5.out⟩
  case rest =>
    rename_i wc
    obtain ⟨n, hn1, hn2, hO, rfl, hC, hG, hS, hB⟩ := hcut
    clear HS HB HC HG
    have HS := Lib.hid hS
    have HB := Lib.hid hB
    have HC := Lib.hid hC
    have HG := Lib.hid hG
    have HO := Lib.hid hO
    clear hO hS hB hC hG
    obtain ⟨F, hF⟩ : ∃ F, F = firstA wd po n := ⟨_, rfl⟩
    rw [← hF] at HO ⊢
    have HF := Lib.hid hF
    clear hF
    by_cases hF0 : F.2 = 0
    rotate_left
    · have hFb : (F.2 == 0) = false := by simp [hF0]
      clear hF0
      obtain ⟨c0, c1, f0, f1⟩ := HG.out
      go_wp2_with fail
      refine (sIsCrc_any _ _ _).mono ?_
      rw [HCR.out]
      rintro e wn ⟨rfl, hb⟩
      replace HS := Lib.hid (HS.out.below hb HS.out.lt)
      replace HB := Lib.hid (bthen HB.out hb)
      replace HC := Lib.hid (HC.out.next hb)
      replace HG := Lib.hid (HG.out.next hb)
      clear hb
      clear c0 c1 f0 f1
      obtain ⟨c0, c1, f0, f1⟩ := HG.out
      go_wp2_with fail
      refine (next_any (w.heap.size + 1) _ _ HS.out).mono ?_
      rintro e w7 ⟨y, rfl, hy0, hy1, hS, hg⟩
      clear c0 c1 f0 f1
      clear hy0 hy1
      have hzz := HS.out.lt
      replace HB := Lib.hid (HB.out.trans (grown_below hg (by omega) (by omega)))
      replace HC := Lib.hid (HC.out.below (grown_below hg (Nat.le_refl _) (by omega)) (by omega))
      replace HG := Lib.hid (HG.out.far hg hz2)
      replace HS := Lib.hid hS
      clear hS hg hzz
      by_cases hy : y = 0
      · subst hy
        obtain ⟨c0, c1, f0, f1⟩ := HG.out
        go_upto_region 8 with fail
        clear c0 c1 f0 f1
        obtain ⟨wC, hwC⟩ : ∃ x, x = w7 := ⟨_, rfl⟩
        rw [← hwC] at HS HB HC HG ⊢
        clear hwC
        have HGlt := HG.out.lt
        go_cut [3] (fun s3 wx => EndM w wd po s3 wx)
        case rest =>
          obtain ⟨xs, hO, hbr, hC, hB⟩ := hcut
          have HOF := Lib.hid hO
          have HBF := Lib.hid hB
          have HBR := Lib.hid hbr
          obtain ⟨r0, r1, g0, g1⟩ := hC
          clear HS HB HC HG hO hbr hB
          go_wp2_with fail
          try simp only [Exit.inBlock, Exit.then]
          refine bodyPost_ret (by simp [results, Try.results32, go_sem, r0, r1]; try rfl) rfl ?_
          exact ⟨_, _, _, xs, rfl, HOF.out.mono (Nat.le_succ _), HBR.out, HBF.out⟩
        case first =>
          have HSd := Lib.hid HS.out.drew
          have HBd := Lib.hid HB.out.drew
          have HCd := Lib.hid HC.out.drew
          have HGd := Lib.hid HG.out.drew
          have hzd := HSd.out.lt
          have hbs := HB.out.size
          have hbz := HS.out.lt
          obtain ⟨c0, c1, f0, f1⟩ := HGd.out
          have ka0 := keepA HG.out.c0
          have ka1 := keepA HG.out.c1
          obtain ⟨k1, k2, k3, k4, k5⟩ := crcB_yes HCR.out
          have hpo : po ≤ 9223372036854775807 := by have := p2_crc k1 k2; omega
          obtain ⟨bs, hbs0⟩ : ∃ x, x = bitsOf po wd.toNat := ⟨_, rfl⟩
          have hbl : bs.length = wd.toNat := by rw [hbs0, length_bitsOf]
          have hbl1 : 0 < bs.length := by omega
          have hbl2 : bs.length ≤ 24 := by omega
          have HBS := Lib.hid hbs0
          clear hbs0 hbl k4 k5
          have wc0 : (wC.alloc (.cells #[.int .i64 1] 2)).heap.size = wC.heap.size + 1 := by simp
          go_region_held3 (fun w' => w'.cell? ⟨G, 0, none⟩ = some (.int .i64 wd) ∧ w'.cell? ⟨G, 1, none⟩ = some (.int .i64 po)) (go_keep)
            ((first
            | (go_at_call 44; ((with_reducible refine (l01Append_any _ [] _ _ wC.drew (Own.nil 2 _ 0).rd (by decide) (by omega) hpo (by omega) (by omega)).mono ?_); rw [List.nil_append, ← HBS.out]; rintro e w5 ⟨v5, rfl, hO, hb⟩; have HB5 := Lib.hid (bthen HBd.out hb); have HC5 := Lib.hid (HCd.out.next hb); have HG5 := Lib.hid (HGd.out.next hb); have HO5 := Lib.hid hO; have hz5 : wC.heap.size ≤ w5.heap.size := (hb.size); obtain ⟨d0, d1, e0, e1⟩ := HG5.out; obtain ⟨r0, r1, g0, g1⟩ := HC5.out; have kb0 := keepA d0; have kb1 := keepA d1; clear hO hb))
            | (go_at_call 44; ((with_reducible refine (l01Append_any _ [] _ _ (wC.alloc (.cells #[.int .i64 1] 2)).drew (Own.nil 2 _ 0).rd (by decide) (by omega) hpo (by omega) (by omega)).mono ?_); rw [List.nil_append, ← HBS.out]; rintro e w5 ⟨v5, rfl, hO, hb⟩; have HB5 := Lib.hid (bthen (HB.out.alloc HB.out.size (.cells #[.int .i64 1] 2)).drew hb); have HC5 := Lib.hid ((HC.out.alloc (.cells #[.int .i64 1] 2)).drew.next hb); have HG5 := Lib.hid ((HG.out.alloc (.cells #[.int .i64 1] 2)).drew.next hb); have HLB := Lib.hid ((own_lit1 2 wC 1 (w.heap.size + 1) _ rfl (by omega)).drew.below hb); have HO5 := Lib.hid hO; have hz5 : wC.heap.size + 1 ≤ w5.heap.size := (by have := hb.size; simp only [World.size_drew] at this; omega); obtain ⟨d0, d1, e0, e1⟩ := HG5.out; obtain ⟨r0, r1, g0, g1⟩ := HC5.out; clear hO hb))
            | (with_reducible refine step_appAll Try.underlying26 hi hz0 hz1 hz3 rfl _ _ rfl w5 (w.heap.size + 1) (.slice (some ⟨wC.heap.size, 0, none⟩) 1 1) v5 [1] bs rfl rfl HLB.out HO5.out.rd hbl1 (by decide) (by omega) (by omega) ?_; intro v6 w6 hO6 hb6 hg6; have hbx := below_of_grown (B := wC.heap.size) hg6 (by omega) (fun k hk => by simp [Value.ownBlock] at hk; omega); have HO6 := Lib.hid hO6; have HB6 := Lib.hid (HB5.out.trans (hb6.mono (Nat.le_succ _))); have HC6 := Lib.hid (HC5.out.below hb6 (Nat.lt_succ_self _)); have HG6 := Lib.hid (HG5.out.below hbx HGlt); obtain ⟨m0, m1, n0, n1⟩ := HG6.out; obtain ⟨q0, q1, t0, t1⟩ := HC6.out; clear hO6 hb6 hg6 hbx)
            | (with_reducible refine step_appAll Try.underlying26 hi hz0 hz1 hz3 rfl _ _ rfl (w5.alloc (.cells #[.int .i64 1] 2)) (w.heap.size + 1) (.slice (some ⟨w5.heap.size, 0, none⟩) 1 1) v5 [1] bs rfl rfl (own_lit1 2 w5 1 (w.heap.size + 1) _ rfl (by omega)) (HO5.out.alloc _).rd hbl1 (by decide) (by omega) (by simp; omega) ?_; intro v6 w6 hO6 hb6 hg6; have hbx := below_of_grown (B := w5.heap.size) hg6 (by simp) (fun k hk => by simp [Value.ownBlock] at hk; omega); have HO6 := Lib.hid hO6; have HB6 := Lib.hid ((HB5.out.alloc HB5.out.size (.cells #[.int .i64 1] 2)).trans (hb6.mono (Nat.le_succ _))); have HC6 := Lib.hid ((HC5.out.alloc (.cells #[.int .i64 1] 2)).below hb6 (Nat.lt_succ_self _)); have HG6 := Lib.hid ((HG5.out.alloc (.cells #[.int .i64 1] 2)).below hbx HG5.out.lt); obtain ⟨m0, m1, n0, n1⟩ := HG6.out; obtain ⟨q0, q1, t0, t1⟩ := HC6.out; clear hO6 hb6 hg6 hbx)
            | fail))
          all_goals
            go_wp2_with fail
            go_meet
            exact ⟨_, (HO6.out.setFarM (Nat.lt_succ_self _) 0 _).setFarM (Nat.lt_succ_self _) 1 _, .inl (by simp; omega), (HC6.out.set0 _).set1 _, ((HB6.out).setCell (p := ⟨w.heap.size, 0, none⟩) (Nat.le_refl _) _).setCell (p := ⟨w.heap.size, 1, none⟩) (Nat.le_refl _) _⟩
      have hyb : (y == 0) = false := by simp [hy]
      clear hy
      obtain ⟨c0, c1, f0, f1⟩ := HG.out
      go_upto_region 9 with fail
      clear c0 c1 f0 f1
      go_cut [3] (fun s3 wx => EndM w wd po s3 wx)
      case rest =>
        obtain ⟨xs, hO, hbr, hC, hB⟩ := hcut
        have HOF := Lib.hid hO
        have HBF := Lib.hid hB
        have HBR := Lib.hid hbr
        obtain ⟨r0, r1, g0, g1⟩ := hC
        clear HS HB HC HG hO hbr hB
        go_wp2_with fail
        try simp only [Exit.inBlock, Exit.then]
        refine bodyPost_ret (by simp [results, Try.results32, go_sem, r0, r1]; try rfl) rfl ?_
        exact ⟨_, _, _, xs, rfl, HOF.out.mono (Nat.le_succ _), HBR.out, HBF.out⟩
      case first =>
        have HSd := Lib.hid HS.out.drew
        have HBd := Lib.hid HB.out.drew
        have HCd := Lib.hid HC.out.drew
        have HGd := Lib.hid HG.out.drew
        have hzd := HSd.out.lt
        have hbs := HB.out.size
        have hbz := HS.out.lt
        obtain ⟨c0, c1, f0, f1⟩ := HGd.out
        go_region_with ((first | (go_at_call 50; ((with_reducible refine (drawErr_any (w.heap.size + 1) _ HSd.out).mono ?_); rintro e w5 ⟨v5, xs, rfl, hO, hsh, hS, hg⟩; have HB5 := Lib.hid (HBd.out.trans (grown_below hg (by omega) (by omega))); have HC5 := Lib.hid (HCd.out.below (grown_below hg (Nat.le_refl _) (by omega)) (by omega)); have HG5 := Lib.hid (HGd.out.far hg hz2); have HO5 := Lib.hid (hO.mono (show w.heap.size + 1 ≤ _ by omega)); have HSH := Lib.hid hsh; obtain ⟨d0, d1, e0, e1⟩ := HG5.out; obtain ⟨r0, r1, g0, g1⟩ := HC5.out; clear hO hsh hS hg)) | fail))
        all_goals
          go_wp2_with fail
          go_meet
          exact ⟨_, ((HO5.out.setFarM (Nat.lt_succ_self _) 0 _).setFarM (Nat.lt_succ_self _) 1 _), HSH.out.brief, (HC5.out.set0 _).set1 _, ((HB5.out).setCell (p := ⟨w.heap.size, 0, none⟩) (Nat.le_refl _) _).setCell (p := ⟨w.heap.size, 1, none⟩) (Nat.le_refl _) _⟩
    have hFb : (F.2 == 0) = true := by simp [hF0]
    have HI := Lib.hid (first_in (HF.out ▸ hF0))
    rw [← HF.out] at HI
    clear hF0
    obtain ⟨c0, c1, f0, f1⟩ := HG.out
    go_upto_region 6 with fail
    clear c0 c1 f0 f1
    go_cut [3] (fun s3 wx => EndM w wd po s3 wx)
    case rest =>
      obtain ⟨xs, hO, hbr, hC, hB⟩ := hcut
      have HOF := Lib.hid hO
      have HBF := Lib.hid hB
      have HBR := Lib.hid hbr
      obtain ⟨r0, r1, g0, g1⟩ := hC
      clear HS HB HC HG hO hbr hB
      go_wp2_with fail
      try simp only [Exit.inBlock, Exit.then]
      refine bodyPost_ret (by simp [results, Try.results32, go_sem, r0, r1]; try rfl) rfl ?_
      exact ⟨_, _, _, xs, rfl, HOF.out.mono (Nat.le_succ _), HBR.out, HBF.out⟩
    case first =>
      have HSd := Lib.hid HS.out.drew
      have HBd := Lib.hid HB.out.drew
      have HCd := Lib.hid HC.out.drew
      have HGd := Lib.hid HG.out.drew
      have hzd := HSd.out.lt
      have hbs := HB.out.size
      have hbz := HS.out.lt
      obtain ⟨c0, c1, f0, f1⟩ := HGd.out
      have hmk := mk44
      have ka0 := keepA HG.out.c0
      have ka1 := keepA HG.out.c1
      go_region_with ((first | (go_at_call 61; ((with_reducible refine (l01Flip_any _ _ (List.replicate 44 0) F.1 _ (own_zs44 wc (w.heap.size + 1) _ rfl (by omega)).drew.rd (HO.out.alloc zs44).drew.rd (allIn_zeros 44) (fun i hi => by have := HI.out i hi; simp; omega) (by simp)).mono ?_); rintro e w5 ⟨v5, rfl, hO, hb⟩; have HB5 := Lib.hid (bthen (HB.out.alloc HB.out.size zs44).drew hb); have HC5 := Lib.hid ((HC.out.alloc zs44).drew.next hb); have HG5 := Lib.hid ((HG.out.alloc zs44).drew.next hb); have HO5 := Lib.hid (hO.mono (show w.heap.size + 1 ≤ _ by simp; omega)); obtain ⟨d0, d1, e0, e1⟩ := HG5.out; obtain ⟨r0, r1, g0, g1⟩ := HC5.out; clear hO hb)) | fail))
      all_goals
        go_wp2_with fail
        go_meet
        exact ⟨_, (HO5.out.setFarM (Nat.lt_succ_self _) 0 _).setFarM (Nat.lt_succ_self _) 1 _, .inl (by rw [length_flips]; simp), (HC5.out.set0 _).set1 _, ((HB5.out).setCell (p := ⟨w.heap.size, 0, none⟩) (Nat.le_refl _) _).setCell (p := ⟨w.heap.size, 1, none⟩) (Nat.le_refl _) _⟩
set_option maxHeartbeats 1000000 in
theorem drawIsFound_any (v : Value) (cs : List Int) (w : World) (hr : Rd .u8 w v cs) (hl : cs.length ≤ 4096) (ho : ∀ x ∈ cs, 0 ≤ x ∧ x ≤ 255) : Calls Try.prog 8 #[v] w (DrawnCL w) := by
  have HB := Lib.hid ((Below.refl w.heap.size w).alloc (Nat.le_refl _) (.cells #[.int .i64 0, .int .i64 0] 25))
  have HR := Lib.hid (hr.below HB.out)
  have HO8 := Lib.hid ho
  have HC := Lib.hid (Cell2.new w 0 0 25)
  clear hr ho
  go_enter Try.func8, Try.ntmps8
  go_wp2_with fail
  refine (drawIsMissed_any _ cs _ HR.out hl HO8.out).mono ?_
  rintro e w1 ⟨wd, po, v1, xs, rfl, hO, hbr, hb⟩
  have HO : Hid (Own 2 w1 (w.heap.size + 1) v1 xs) := Lib.hid (by simpa using hO)
  have HBR := Lib.hid hbr
  replace HB := Lib.hid (HB.out.trans (hb.mono (by simp)))
  replace HC := Lib.hid (HC.out.next hb)
  obtain ⟨r0, r1, g0, g1⟩ := HC.out
  clear hb hO hbr
  go_wp2_with fail
  try simp only [Exit.inBlock, Exit.then]
  refine bodyPost_ret (by simp [results, Try.results8, go_sem, r0, r1]; try rfl) rfl ?_
  exact ⟨_, _, _, xs, rfl, ((HO.out.setFarM (Nat.lt_succ_self _) 0 _).setFarM (Nat.lt_succ_self _) 1 _).mono (Nat.le_succ _), HBR.out, (HB.out.setCell (p := ⟨w.heap.size, 0, none⟩) (Nat.le_refl _) _).setCell (p := ⟨w.heap.size, 1, none⟩) (Nat.le_refl _) _⟩
end Go.Proofs.Ytmlingcnbdpbmaa
