/- Contracts: double, orderOf, l03Order, OrderOf (program and reference). -/
import Derived.Test.YtmlingcnbdpbmaaRoll
import Derived.Test.YtmlingcnbdpbmaaCrc
import Derived.Test.YtmlingcnbdpbmaaQuiet
namespace Go.Proofs.Ytmlingcnbdpbmaa
open Go.RowKit
set_option linter.unusedVariables false
set_option linter.unusedSimpArgs false

theorem rd_sg (k : IntKind) (w : World) (x : Int) (E : TypeId) (n : Nat) (h : w.heap.size = n) : Rd k (w.alloc (.cells #[.int k x] E)) (.slice (some ⟨n, 0, none⟩) 1 1) [x] := by
  subst h
  exact ⟨_, 1, rfl, Nat.le_refl _, by decide, (fun h => by cases h), fun i hi => ⟨w.heap.size, 0, rfl, by
    have : i = 0 := by simp at hi; omega
    subst this
    simp⟩⟩
theorem allIn_0 : allIn [0] 0 1 = true := by decide
theorem allIn_1 : allIn [1] 0 1 = true := by decide
set_option maxHeartbeats 400000 in
theorem double_any (wd po r : Int) (w : World) (h : crcB wd po = true) (h0 : 0 ≤ r) (h1 : r < p2 wd) :
    Calls Try.prog 65 #[.agg #[.int .i64 wd, .int .i64 po], .int .i64 r] w fun e w' => e = .returned (.int .i64 (feedI wd po r [0])) ∧ Below w.heap.size w w' := by
  have HCR := Lib.hid h
  have H0 := Lib.hid h0
  have H1 := Lib.hid h1
  have HB0 := Lib.hid (((Below.refl w.heap.size w).alloc (Nat.le_refl _) (.cells #[.int .i64 wd, .int .i64 po] 25)).alloc (by simp) (.cells #[.int .i64 0] 2))
  clear h h0 h1
  go_enter Try.func65, Try.ntmps65
  go_wp2_with fail
  refine (feed_any _ [0] _ _ _ _ (rd_sg _ _ _ _ _ (by simp)) allIn_0 HCR.out H0.out H1.out).mono ?_
  rintro e w1 ⟨rfl, hb⟩
  have HB := Lib.hid (HB0.out.trans (hb.mono (by simp; omega)))
  clear hb
  go_wp2_with fail
  go_ret
  exact ⟨rfl, HB.out⟩
set_option maxHeartbeats 1000000 in
theorem orderOf_any (wd po : Int) (w : World) (h : crcB wd po = true) : Calls Try.prog 39 #[.agg #[.int .i64 wd, .int .i64 po]] w fun e w' => e = .returned (.int .i64 (ordI wd po)) ∧ Below w.heap.size w w' := by
  have HCR := Lib.hid h
  have HB0 := Lib.hid ((Below.refl w.heap.size w).alloc (Nat.le_refl _) (.cells #[.int .i64 wd, .int .i64 po] 25))
  have HX0 := Lib.hid (Below.refl (w.heap.size + 1) (w.alloc (.cells #[.int .i64 wd, .int .i64 po] 25)))
  clear h
  go_enter Try.func39, Try.ntmps39
  go_wp2
  go_loopw [3, 4] (fun r n wr => ∃ k : Nat, 1 ≤ k ∧ k ≤ 5001 ∧ n = .int .i64 k ∧ r = .int .i64 (rollI wd po 1 (k - 1)) ∧ (∀ j, 1 ≤ j → j < k → rollI wd po 1 j ≠ 1) ∧ Below (w.heap.size + 1) (w.alloc (.cells #[.int .i64 wd, .int .i64 po] 25)) wr) (fun _ n _ => 5001 - (intOf n).toNat)
  case atStart => exact ⟨1, by omega, by omega, rfl, rfl, fun j a b => by omega, HX0.out⟩
  case round =>
    obtain ⟨k, hk1, hk2, rfl, rfl, hno, hb⟩ := hrel
    obtain ⟨c0, c1⟩ := box2 (by omega) hb
    have hsz := hb.size
    simp only [World.size_alloc] at hsz
    have HNO := Lib.hid hno
    have HX := Lib.hid hb
    clear hno hb
    by_cases hlt : k ≤ 5000
    · have hs := rollI_succ wd po 1 (k - 1)
      have e1 : k - 1 + 1 = k := by omega
      rw [e1] at hs
      have hrg := rollI_range HCR.out (roll_one HCR.out).1 (roll_one HCR.out).2 (k - 1)
      obtain ⟨R, hR⟩ : ∃ R, R = rollI wd po 1 (k - 1) := ⟨_, rfl⟩
      obtain ⟨G, hG⟩ : ∃ G, G = rollI wd po 1 k := ⟨_, rfl⟩
      rw [← hR] at hs hrg ⊢
      rw [← hG] at hs
      have HS := Lib.hid hs
      have HG := Lib.hid hG
      have HRG := Lib.hid hrg
      clear hs hG hR e1 hrg
      by_cases hg1 : G = 1
      · have hgb : (G == 1) = true := by simp [hg1]
        have HG1 := Lib.hid hg1
        clear hg1
        go_wp2_with fail
        refine (double_any _ _ R _ HCR.out HRG.out.1 HRG.out.2).mono ?_
        rw [HS.out]
        rintro e w1 ⟨rfl, hb⟩
        have HB := Lib.hid (HX.out.trans (hb.mono (by omega)))
        clear hb
        go_wp2_with fail
        go_ret
        exact ⟨by rw [ordI_hit hk1 hlt HNO.out (by rw [← HG.out]; exact HG1.out)]; rfl, HB0.out.trans (HB.out.mono (by omega))⟩
      · have hgb : (G == 1) = false := by simp [hg1]
        have HG1 := Lib.hid hg1
        clear hg1
        go_wp2_with fail
        refine (double_any _ _ R _ HCR.out HRG.out.1 HRG.out.2).mono ?_
        rw [HS.out]
        rintro e w1 ⟨rfl, hb⟩
        have HB := Lib.hid (HX.out.trans (hb.mono (by omega)))
        clear hb
        go_wp2_with fail
        go_roundw
        case rel => exact ⟨k + 1, by omega, by omega, by go_num, by rw [HG.out, Nat.add_sub_cancel], fun j a b => by
            by_cases hj : j = k
            · rw [hj, ← HG.out]; exact HG1.out
            · exact HNO.out j a (by omega), HB.out⟩
        case measure => simp [intOf]; omega
    · have : k = 5001 := by omega
      subst this
      obtain ⟨R, hR⟩ : ∃ R, R = rollI wd po 1 (5001 - 1) := ⟨_, rfl⟩
      rw [← hR]
      clear hR
      go_wp2
      go_ret
      exact ⟨by rw [ordI_none (fun j a b => HNO.out j a (by omega))]; rfl, HB0.out.trans (HX.out.mono (by omega))⟩
set_option maxHeartbeats 1000000 in
theorem l03Order_any (wd po : Int) (w : World) (h : crcB wd po = true) : Calls Try.prog 45 #[.agg #[.int .i64 wd, .int .i64 po]] w fun e w' => e = .returned (.int .i64 (ordI wd po)) ∧ Below w.heap.size w w' := by
  have HCR := Lib.hid h
  obtain ⟨hw1, hw2, hp1, hp2, _⟩ := crcB_yes h
  obtain ⟨hq1, hq2⟩ := p2_crc hw1 hw2
  have HONE := Lib.hid (feed_single wd po h)
  have HB0 := Lib.hid ((Below.refl w.heap.size w).alloc (Nat.le_refl _) (.cells #[.int .i64 wd, .int .i64 po] 25))
  have HX0 := Lib.hid ((Below.refl (w.heap.size + 1) (w.alloc (.cells #[.int .i64 wd, .int .i64 po] 25))).alloc (by simp) (.cells #[.int .i64 1] 2))
  clear h
  go_enter Try.func45, Try.ntmps45
  go_wp2_with fail
  refine (l02Feed_any _ [1] _ _ _ _ (rd_sg _ _ _ _ _ (by simp)) allIn_1 HCR.out (by decide) (by omega)).mono ?_
  rw [HONE.out]
  rintro e w1 ⟨rfl, hb⟩
  have HX1 := Lib.hid (HX0.out.trans (hb.mono (by simp)))
  clear hb
  go_wp2
  go_loopw [4, 5] (fun r n wr => ∃ k : Nat, 1 ≤ k ∧ k ≤ 5001 ∧ n = .int .i64 k ∧ r = .int .i64 (rollI wd po po (k - 1)) ∧ (∀ j, 1 ≤ j → j < k → rollI wd po 1 j ≠ 1) ∧ Below (w.heap.size + 1) (w.alloc (.cells #[.int .i64 wd, .int .i64 po] 25)) wr) (fun _ n _ => 5001 - (intOf n).toNat)
  case atStart => exact ⟨1, by omega, by omega, rfl, rfl, fun j a b => by omega, HX1.out⟩
  case round =>
    obtain ⟨k, hk1, hk2, rfl, rfl, hno, hb⟩ := hrel
    obtain ⟨c0, c1⟩ := box2 (by omega) hb
    have hsz := hb.size
    simp only [World.size_alloc] at hsz
    have HNO := Lib.hid hno
    have HX := Lib.hid hb
    have HXA := Lib.hid (hb.alloc (by omega) (.cells #[.int .i64 0] 2))
    clear hno hb
    by_cases hlt : k ≤ 5000
    · have hs := rollI_succ wd po po (k - 1)
      have e1 : k - 1 + 1 = k := by omega
      rw [e1] at hs
      have hrg := rollI_range HCR.out (show 0 ≤ po by omega) hp2 (k - 1)
      have hord := roll_order HCR.out k
      obtain ⟨R, hR⟩ : ∃ R, R = rollI wd po po (k - 1) := ⟨_, rfl⟩
      obtain ⟨G, hG⟩ : ∃ G, G = rollI wd po po k := ⟨_, rfl⟩
      rw [← hR] at hs hrg ⊢
      rw [← hG] at hs hord
      have HS := Lib.hid hs
      have HG := Lib.hid hG
      have HRG := Lib.hid hrg
      have HORD := Lib.hid hord
      clear hs hG hR e1 hrg hord
      by_cases hg1 : G = po
      · have hgb : (G == po) = true := by simp [hg1]
        have HG1 := Lib.hid hg1
        clear hg1
        go_wp2_with fail
        refine (l02Feed_any _ [0] _ _ R _ (rd_sg _ _ _ _ _ (by simp)) allIn_0 HCR.out HRG.out.1 HRG.out.2).mono ?_
        rw [HS.out]
        rintro e w1 ⟨rfl, hb⟩
        have HB := Lib.hid (HXA.out.trans (hb.mono (by simp; omega)))
        clear hb
        go_wp2_with fail
        go_ret
        exact ⟨by rw [ordI_hit hk1 hlt HNO.out (HORD.out.1 HG1.out)]; rfl, HB0.out.trans (HB.out.mono (by omega))⟩
      · have hgb : (G == po) = false := by simp [hg1]
        have HG1 := Lib.hid hg1
        clear hg1
        go_wp2_with fail
        refine (l02Feed_any _ [0] _ _ R _ (rd_sg _ _ _ _ _ (by simp)) allIn_0 HCR.out HRG.out.1 HRG.out.2).mono ?_
        rw [HS.out]
        rintro e w1 ⟨rfl, hb⟩
        have HB := Lib.hid (HXA.out.trans (hb.mono (by simp; omega)))
        clear hb
        go_wp2_with fail
        go_roundw
        case rel => exact ⟨k + 1, by omega, by omega, by go_num, by rw [HG.out, Nat.add_sub_cancel], fun j a b => by
            by_cases hj : j = k
            · rw [hj]; exact fun e => HG1.out (HORD.out.2 e)
            · exact HNO.out j a (by omega), HB.out⟩
        case measure => simp [intOf]; omega
    · have : k = 5001 := by omega
      subst this
      obtain ⟨R, hR⟩ : ∃ R, R = rollI wd po po (5001 - 1) := ⟨_, rfl⟩
      rw [← hR]
      clear hR
      go_wp2
      go_ret
      exact ⟨by rw [ordI_none (fun j a b => HNO.out j a (by omega))]; rfl, HB0.out.trans (HX.out.mono (by omega))⟩
set_option maxHeartbeats 1000000 in
theorem orderOfX_any (wd po : Int) (w : World) : Calls Try.prog 14 #[.agg #[.int .i64 wd, .int .i64 po]] w fun e w' => e = .returned (.tuple #[.int .i64 (ordA wd po).1, .int .i64 (ordA wd po).2]) ∧ Below w.heap.size w w' := by
  have HB0 := Lib.hid ((Below.refl w.heap.size w).alloc (Nat.le_refl _) (.cells #[.int .i64 wd, .int .i64 po] 25))
  cases h1 : crcB wd po
  · have hf : ordA wd po = (0, 1) := by simp [ordA, h1]
    rw [hf]; clear hf
    go_enter Try.func14, Try.ntmps14
    go_wp2_with fail
    refine (isCrc_any _ _ _).mono ?_
    rintro e w1 ⟨rfl, hb⟩
    have HB := Lib.hid (HB0.out.trans (hb.mono (by simp)))
    clear hb
    go_wp2_with fail
    go_ret2
    exact ⟨rfl, HB.out⟩
  have H1 := Lib.hid h1
  have hord := ordI_cases wd po
  by_cases hx : ordI wd po = 5001
  · have hf : ordA wd po = (0, 3) := by simp [ordA, h1, hx]
    rw [hf]; clear hf
    have HX := Lib.hid hx
    clear hx h1 hord
    go_enter Try.func14, Try.ntmps14
    go_wp2_with fail
    refine (isCrc_any _ _ _).mono ?_
    rw [H1.out]
    rintro e w1 ⟨rfl, hb⟩
    obtain ⟨c0, c1⟩ := box2 (B := w.heap.size + 1) (by omega) (hb.mono (by simp))
    have HB := Lib.hid (HB0.out.trans (hb.mono (by simp)))
    clear hb
    go_wp2_with fail
    refine (orderOf_any _ _ _ H1.out).mono ?_
    rw [HX.out]
    rintro e w2 ⟨rfl, hb⟩
    have HB2 := Lib.hid (bthen HB.out hb)
    clear hb
    go_wp2_with fail
    go_ret2
    exact ⟨rfl, HB2.out⟩
  · have hf : ordA wd po = (ordI wd po, 0) := by simp [ordA, h1, hx]
    rw [hf]; clear hf
    obtain ⟨N, hN⟩ : ∃ N, N = ordI wd po := ⟨_, rfl⟩
    have hle : N ≤ 5000 := by rcases hord with ⟨n, h1, h2, h3, _⟩ | ⟨h1, _⟩ <;> omega
    rw [← hN]
    have HN := Lib.hid hN
    clear hx h1 hord hN
    go_enter Try.func14, Try.ntmps14
    go_wp2_with fail
    refine (isCrc_any _ _ _).mono ?_
    rw [H1.out]
    rintro e w1 ⟨rfl, hb⟩
    obtain ⟨c0, c1⟩ := box2 (B := w.heap.size + 1) (by omega) (hb.mono (by simp))
    have HB := Lib.hid (HB0.out.trans (hb.mono (by simp)))
    clear hb
    go_wp2_with fail
    refine (orderOf_any _ _ _ H1.out).mono ?_
    rw [← HN.out]
    rintro e w2 ⟨rfl, hb⟩
    have HB2 := Lib.hid (bthen HB.out hb)
    clear hb
    go_wp2_with fail
    go_ret2
    exact ⟨rfl, HB2.out⟩
set_option maxHeartbeats 1000000 in
theorem sOrderOf_any (wd po : Int) (w : World) : Calls Try.prog 15 #[.agg #[.int .i64 wd, .int .i64 po]] w fun e w' => e = .returned (.tuple #[.int .i64 (ordA wd po).1, .int .i64 (ordA wd po).2]) ∧ Below w.heap.size w w' := by
  have HB0 := Lib.hid ((Below.refl w.heap.size w).alloc (Nat.le_refl _) (.cells #[.int .i64 wd, .int .i64 po] 25))
  cases h1 : crcB wd po
  · have hf : ordA wd po = (0, 1) := by simp [ordA, h1]
    rw [hf]; clear hf
    go_enter Try.func15, Try.ntmps15
    go_wp2_with fail
    refine (sIsCrc_any _ _ _).mono ?_
    rintro e w1 ⟨rfl, hb⟩
    have HB := Lib.hid (HB0.out.trans (hb.mono (by simp)))
    clear hb
    go_wp2_with fail
    go_ret2
    exact ⟨rfl, HB.out⟩
  have H1 := Lib.hid h1
  have hord := ordI_cases wd po
  by_cases hx : ordI wd po = 5001
  · have hf : ordA wd po = (0, 3) := by simp [ordA, h1, hx]
    rw [hf]; clear hf
    have HX := Lib.hid hx
    clear hx h1 hord
    go_enter Try.func15, Try.ntmps15
    go_wp2_with fail
    refine (sIsCrc_any _ _ _).mono ?_
    rw [H1.out]
    rintro e w1 ⟨rfl, hb⟩
    obtain ⟨c0, c1⟩ := box2 (B := w.heap.size + 1) (by omega) (hb.mono (by simp))
    have HB := Lib.hid (HB0.out.trans (hb.mono (by simp)))
    clear hb
    go_wp2_with fail
    refine (l03Order_any _ _ _ H1.out).mono ?_
    rw [HX.out]
    rintro e w2 ⟨rfl, hb⟩
    have HB2 := Lib.hid (bthen HB.out hb)
    clear hb
    go_wp2_with fail
    go_ret2
    exact ⟨rfl, HB2.out⟩
  · have hf : ordA wd po = (ordI wd po, 0) := by simp [ordA, h1, hx]
    rw [hf]; clear hf
    obtain ⟨N, hN⟩ : ∃ N, N = ordI wd po := ⟨_, rfl⟩
    have hle : N ≤ 5000 := by rcases hord with ⟨n, h1, h2, h3, _⟩ | ⟨h1, _⟩ <;> omega
    rw [← hN]
    have HN := Lib.hid hN
    clear hx h1 hord hN
    go_enter Try.func15, Try.ntmps15
    go_wp2_with fail
    refine (sIsCrc_any _ _ _).mono ?_
    rw [H1.out]
    rintro e w1 ⟨rfl, hb⟩
    obtain ⟨c0, c1⟩ := box2 (B := w.heap.size + 1) (by omega) (hb.mono (by simp))
    have HB := Lib.hid (HB0.out.trans (hb.mono (by simp)))
    clear hb
    go_wp2_with fail
    refine (l03Order_any _ _ _ H1.out).mono ?_
    rw [← HN.out]
    rintro e w2 ⟨rfl, hb⟩
    have HB2 := Lib.hid (bthen HB.out hb)
    clear hb
    go_wp2_with fail
    go_ret2
    exact ⟨rfl, HB2.out⟩
end Go.Proofs.Ytmlingcnbdpbmaa
