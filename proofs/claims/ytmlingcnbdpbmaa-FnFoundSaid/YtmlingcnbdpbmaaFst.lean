/- Contracts: firstMissed, l03Syndromes, l03First (program and reference). -/
import Derived.Test.YtmlingcnbdpbmaaFirstP
import Derived.Test.YtmlingcnbdpbmaaOrd
import Derived.Test.YtmlingcnbdpbmaaPlainL
import Derived.Test.YtmlingcnbdpbmaaApps
import Derived.WalkSpells
import Derived.Laws.OwnMore
import Derived.OwnWalk
namespace Go.Proofs.Ytmlingcnbdpbmaa
open Go.RowKit
set_option linter.unusedVariables false
set_option linter.unusedSimpArgs false

theorem own_lit2 (E : TypeId) (W : World) (a b : Int) (B n : Nat) (hn : W.heap.size = n) (hB : B ≤ n) : Own E (W.alloc (.cells #[.int .i64 a, .int .i64 b] E)) B (.slice (some ⟨n, 0, none⟩) 2 2) [a, b] := by
  subst hn
  exact World.ownsRow_lit W #[.int .i64 a, .int .i64 b] 2 hB (by decide) rfl
theorem own_lit3 (E : TypeId) (W : World) (a b c : Int) (B n : Nat) (hn : W.heap.size = n) (hB : B ≤ n) : Own E (W.alloc (.cells #[.int .i64 a, .int .i64 b, .int .i64 c] E)) B (.slice (some ⟨n, 0, none⟩) 3 3) [a, b, c] := by
  subst hn
  exact World.ownsRow_lit W #[.int .i64 a, .int .i64 b, .int .i64 c] 3 hB (by decide) rfl
theorem infoE3 : (Try.prog.info? 2).map (fun i => (i.zero, i.size, i.bytes)) = some (some (.int .i64 0), 1, 8) := by kernel_rfl
theorem spanC_ok {wd po n : Int} (h : spanC wd po n = 0) : crcB wd po = true ∧ 1 ≤ n ∧ n ≤ 64 := by
  unfold spanC at h
  cases h1 : crcB wd po
  · simp [h1] at h
  · cases h2 : inB n 1 64
    · simp [h1, h2] at h
    · exact ⟨rfl, inB_yes h2⟩
/-- What a search hands back: a row of its own, nil where nothing was found. -/
def FirstRes (E : TypeId) (w : World) (xs : List Int) (e : Ending) (w' : World) : Prop := ∃ v, e = .returned v ∧ Own E w' w.heap.size v xs ∧ Below w.heap.size w w' ∧ (xs = [] → v = .slice none 0 0)
theorem own_cells {E : TypeId} {w : World} {B g N : Nat} {f : Nat → Int} (h : Own E w B (.slice (some ⟨g, 0, none⟩) N N) (fillDown f N 0)) (j : Nat) (hj : j < N) : w.cell? ⟨g, j, none⟩ = some (.int .i64 (f j)) := by
  have := h.cell j (by rw [length_fillDown]; exact hj)
  rwa [fillDown_getD f N j hj] at this
theorem own_cells' {E : TypeId} {w : World} {B g N cap : Nat} {f : Nat → Int} (h : Own E w B (.slice (some ⟨g, 0, none⟩) N cap) (fillDown f N 0)) (j : Nat) (hj : j < N) : w.cell? ⟨g, j, none⟩ = some (.int .i64 (f j)) := by
  have := h.cell j (by rw [length_fillDown]; exact hj)
  rwa [fillDown_getD f N j hj] at this
set_option maxRecDepth 100000 in
set_option maxHeartbeats 8000000 in
theorem firstMissed_any (wd po : Int) (N : Nat) (w : World) (h : crcB wd po = true) (h1 : 1 ≤ N) (h2 : N ≤ 64) : Calls Try.prog 55 #[.agg #[.int .i64 wd, .int .i64 po], .int .i64 (N : Int)] w (FirstRes 2 w (missL (powI wd po N) N)) := by
  have HCR := Lib.hid h
  have HB0 := Lib.hid ((Below.refl w.heap.size w).alloc (Nat.le_refl _) (.cells #[.int .i64 wd, .int .i64 po] 25))
  obtain ⟨i0, hi, hz0, hz1, hz2⟩ := info_parts infoE3
  obtain ⟨f, hf⟩ : ∃ f, f = powI wd po N := ⟨_, rfl⟩
  have HFS := Lib.hid (fillDown_set f N)
  have HS1 : Hid (∀ c, c < N → rollI wd po 1 (N - (c + 1)) = f c) := Lib.hid (fun c hc => by rw [hf]; unfold powI; congr 1; omega)
  have HS2 : Hid (∀ c, c < N → feedI wd po (f c) [0] = rollI wd po 1 (N - c)) := Lib.hid (fun c hc => by
    rw [hf]; unfold powI; rw [rollI_succ]; congr 1; omega)
  have HR0 := Lib.hid (show (1 : Int) = rollI wd po 1 (N - N) by rw [Nat.sub_self]; rfl)
  have HPR : Hid (∀ c, 0 ≤ f c ∧ f c < p2 wd) := Lib.hid (fun c => by rw [hf]; exact rollI_range (k := N - 1 - c) h (roll_one h).1 (roll_one h).2)
  have HR : Hid (∀ i, 0 ≤ f i ∧ f i < 16777216) := Lib.hid (fun i => by rw [hf]; exact pow_range h N i)
  rw [← hf]
  clear h hf
  go_enter Try.func55, Try.ntmps55
  go_wp2_with (at_make; refine wpList_make_full _ rfl _ _ 26 rfl (w.heap.size + 1) 2 i0 (.int .i64 0) 1 Try.underlying26 hi hz0 hz1 .i64 .i64 (N : Int) (N : Int) N rfl rfl rfl rfl (by rw [hz2]; omega) (by unfold maxLen; omega) (by simp) ?_)
  intro w1 hown hgrow
  have hO : Own 2 w1 (w.heap.size + 1) (.slice (some ⟨w.heap.size + 1, 0, none⟩) N N) (fillDown f N N) := by
    unfold Own
    rw [length_fillDown, fillDown_top]
    have e : (madeCells #[Value.int IntKind.i64 0] N).toList = (List.replicate N 0).map (Value.int .i64) := by
      simp [toList_madeCells_one]
    rw [← e]; simpa using hown
  have hb1 : Below (w.heap.size + 1) (w.alloc (.cells #[.int .i64 wd, .int .i64 po] 25)) w1 := below_of_grown hgrow (by simp) (fun k h => by cases h)
  have HO := Lib.hid hO
  have HB1 := Lib.hid hb1
  clear hO hb1 hown hgrow
  try simp only [World.size_alloc]
  go_wp2
  go_loopw [6, 7] (fun r i wr => ∃ c : Nat, c ≤ N ∧ i = .int .i64 ((c : Int) - 1) ∧ r = .int .i64 (rollI wd po 1 (N - c)) ∧ Own 2 wr (w.heap.size + 1) (.slice (some ⟨w.heap.size + 1, 0, none⟩) N N) (fillDown f N c) ∧ Below (w.heap.size + 1) (w.alloc (.cells #[.int .i64 wd, .int .i64 po] 25)) wr) (fun _ i _ => (intOf i + 1).toNat)
  case atStart => exact ⟨N, Nat.le_refl _, rfl, by rw [← HR0.out], HO.out, HB1.out⟩
  case round =>
    clear HO HB1 HR0
    obtain ⟨c, hcN, rfl, rfl, hO, hb⟩ := hrel
    have hsz := hb.size
    simp only [World.size_alloc] at hsz
    cases c with
    | succ c =>
      have e0 : ((c + 1 : Nat) : Int) - 1 = (c : Int) := by omega
      rw [e0, HS1.out c (by omega)]
      clear e0
      obtain ⟨c0, c1⟩ := box2 (by omega) hb
      have ho1 := hO.cell c (by rw [length_fillDown]; omega)
      have ho2 := hO.free c
      have hs := hO.set c (f c)
      rw [HFS.out c (by omega)] at hs
      have HOS := Lib.hid hs.1
      have HBS := Lib.hid (hb.setCell (p := ⟨w.heap.size + 1, c, none⟩) (Nat.le_refl _) (.int .i64 (f c)))
      have hr := HPR.out c
      have hnx := HS2.out c (by omega)
      obtain ⟨R, hR⟩ : ∃ R, R = f c := ⟨_, rfl⟩
      rw [← hR] at HOS HBS hr hnx ⊢
      have HR1 := Lib.hid hr
      have HNX := Lib.hid hnx
      have hcx : (c : Int) < (N : Int) := by omega
      have hcy : (0 : Int) ≤ (c : Int) := by omega
      clear hs hO hb hR hr hnx
      go_wp2_with fail
      refine (double_any _ _ _ _ HCR.out HR1.out.1 HR1.out.2).mono ?_
      rw [HNX.out]
      rintro e w2 ⟨rfl, hb2⟩
      have HO2 := Lib.hid (HOS.out.below hb2)
      have HB2 := Lib.hid (HBS.out.trans (hb2.mono (by simp; omega)))
      clear hb2
      go_wp2_with fail
      go_roundw
      case rel => exact ⟨c, by omega, rfl, rfl, HO2.out, HB2.out⟩
      case measure => simp [intOf]
    | zero =>
      have HC := Lib.hid (own_cells hO)
      have HG := Lib.hid (show w.heap.size + 1 < wr.heap.size from World.block_lt_of_cell? wr _ (own_cells hO 0 (by omega)))
      have HW := Lib.hid (HB0.out.trans (hb.mono (by omega)))
      clear hO hb HS1 HS2 HFS HPR HB0
      have e0 : ((0 : Nat) : Int) - 1 = -1 := by decide
      rw [e0]
      clear e0
      obtain ⟨R, hR⟩ : ∃ R, R = rollI wd po 1 (N - 0) := ⟨_, rfl⟩
      rw [← hR]
      clear hR hsz
      obtain ⟨W, hWW⟩ : ∃ W, W = wr := ⟨_, rfl⟩
      rw [← hWW] at HC HG HW ⊢
      clear hWW
      go_wp2
      go_loopw [29] (fun t wz => ∃ i : Nat, i ≤ N ∧ t = .int .i64 i ∧ (∀ j, 0 ≤ j → j < i → (scan (eqP f j) (j + 1) N).isSome = false) ∧ Below W.heap.size W wz) (fun t _ => N - (intOf t).toNat)
      case atStart => exact ⟨0, by omega, rfl, fun j _ a => by omega, Below.refl _ _⟩
      case round =>
        obtain ⟨i, hi, rfl, hno, hb⟩ := hrel
        have HNO := Lib.hid hno
        have HB := Lib.hid hb
        clear hno hb
        by_cases hlt : i < N
        · go_wp2
          go_loopw [9] (fun t wz => ∃ k : Nat, i + 1 ≤ k ∧ k ≤ N ∧ t = .int .i64 k ∧ (∀ j, i + 1 ≤ j → j < k → eqP f i j = false) ∧ Below W.heap.size W wz) (fun t _ => N - (intOf t).toNat)
          case atStart => exact ⟨i + 1, by omega, by omega, by go_num, fun j a b => by omega, HB.out⟩
          case round =>
            obtain ⟨k, hk1, hk2, rfl, hno2, hb2⟩ := hrel
            have HNO2 := Lib.hid hno2
            have HB2 := Lib.hid hb2
            clear hno2
            by_cases hlt2 : k < N
            · have hsk : True := trivial
              have hci := (hb2.cell (p := ⟨w.heap.size + 1, i, none⟩) HG.out).trans (HC.out i (by omega))
              have hix : (i : Int) < (N : Int) := by omega
              have hiy : (0 : Int) ≤ (i : Int) := by omega
              have hck := (hb2.cell (p := ⟨w.heap.size + 1, k, none⟩) HG.out).trans (HC.out k (by omega))
              have hkx : (k : Int) < (N : Int) := by omega
              have hky : (0 : Int) ≤ (k : Int) := by omega
              clear hb2
              obtain ⟨x, hx⟩ : ∃ x, x = f i := ⟨_, rfl⟩
              have hrx := HR.out i
              rw [← hx] at hci hrx
              have HX := Lib.hid hx
              obtain ⟨hrx1, hrx2⟩ := hrx
              clear hx
              obtain ⟨y, hy⟩ : ∃ x, x = f k := ⟨_, rfl⟩
              have hry := HR.out k
              rw [← hy] at hck hry
              have HY := Lib.hid hy
              obtain ⟨hry1, hry2⟩ := hry
              clear hy
              by_cases hxy : x = y
              · have hxy1 : (x == y) = true := by simp [hxy]
                have HXY := Lib.hid hxy
                clear hxy
                go_wp2
                go_quiet (fail)
                have HBQ := Lib.hid (below_drewN HB2.out nq)
                go_wp2
                go_ret
                refine ⟨_, rfl, ?_, ((HW.out.trans (HBQ.out.mono HW.out.size)).alloc (Nat.le_trans HW.out.size HBQ.out.size) _), fun h => ?_⟩
                · rw [missL_pair (f := f) (pairFrom_hit (lo := 0) (Nat.zero_le _) HNO.out (show i < k by omega) hlt2 HNO2.out (by unfold eqP; rw [← HX.out, ← HY.out]; exact decide_eq_true HXY.out))]; exact own_lit2 _ _ _ _ _ _ (by simp) (by have h1 := HW.out.size; have h2 := HB2.out.size; omega)
                · rw [missL_pair (f := f) (pairFrom_hit (lo := 0) (Nat.zero_le _) HNO.out (show i < k by omega) hlt2 HNO2.out (by unfold eqP; rw [← HX.out, ← HY.out]; exact decide_eq_true HXY.out))] at h; cases h
              · have hxy1 : (x == y) = false := by simp [hxy]
                have HXY := Lib.hid hxy
                clear hxy
                go_wp2
                go_quiet (fail)
                go_wp2
                go_roundw
                case rel => exact ⟨k + 1, by omega, by omega, by go_num, fun j a b => by
                    by_cases e : j = k
                    · subst e; unfold eqP; rw [← HX.out, ← HY.out]; exact decide_eq_false HXY.out
                    · exact HNO2.out j a (by omega), below_drewN HB2.out _⟩
                case measure => simp [intOf]; omega
            · obtain rfl : N = k := by omega
              clear hb2
              go_wp2
              go_roundw
              case rel => exact ⟨i + 1, by omega, by go_num, fun j z a => by
                  by_cases e : j = i
                  · subst e; rw [scan_none HNO2.out]; rfl
                  · exact HNO.out j z (by omega), HB2.out⟩
              case measure => simp [intOf]; omega
        · obtain rfl : N = i := by omega
          have HP := Lib.hid (show pairTo (eqP f) N = none from pairFrom_none HNO.out)
          clear hlt HNO
          go_wp2
          go_loopw [53] (fun t wz => ∃ i : Nat, i ≤ N ∧ t = .int .i64 i ∧ (∀ j, j < i → (tripTo.pairFrom (eqT f j) (j + 1) N).isSome = false) ∧ Below W.heap.size W wz) (fun t _ => N - (intOf t).toNat)
          case atStart => exact ⟨0, by omega, rfl, fun j a => by omega, HB.out⟩
          case round =>
            clear HB hi
            obtain ⟨i, hi, rfl, hno, hb⟩ := hrel
            have HNO := Lib.hid hno
            have HB := Lib.hid hb
            clear hno hb
            by_cases hlt : i < N
            · go_wp2
              go_loopw [11] (fun t wz => ∃ k : Nat, i + 1 ≤ k ∧ k ≤ N ∧ t = .int .i64 k ∧ (∀ j, i + 1 ≤ j → j < k → (scan (eqT f i j) (j + 1) N).isSome = false) ∧ Below W.heap.size W wz) (fun t _ => N - (intOf t).toNat)
              case atStart => exact ⟨i + 1, by omega, by omega, by go_num, fun j a b => by omega, HB.out⟩
              case round =>
                obtain ⟨k, hk1, hk2, rfl, hno2, hb2⟩ := hrel
                have HNO2 := Lib.hid hno2
                have HB2 := Lib.hid hb2
                clear hno2 hb2
                by_cases hlt2 : k < N
                · go_wp2
                  go_loopw [12] (fun t wz => ∃ m : Nat, k + 1 ≤ m ∧ m ≤ N ∧ t = .int .i64 m ∧ (∀ j, k + 1 ≤ j → j < m → eqT f i k j = false) ∧ Below W.heap.size W wz) (fun t _ => N - (intOf t).toNat)
                  case atStart => exact ⟨k + 1, by omega, by omega, by go_num, fun j a b => by omega, HB2.out⟩
                  case round =>
                    obtain ⟨m, hm1, hm2, rfl, hno3, hb3⟩ := hrel
                    have HNO3 := Lib.hid hno3
                    have HB3 := Lib.hid hb3
                    clear hno3
                    by_cases hlt3 : m < N
                    · have hsk : True := trivial
                      have hci := (hb3.cell (p := ⟨w.heap.size + 1, i, none⟩) HG.out).trans (HC.out i (by omega))
                      have hix : (i : Int) < (N : Int) := by omega
                      have hiy : (0 : Int) ≤ (i : Int) := by omega
                      have hck := (hb3.cell (p := ⟨w.heap.size + 1, k, none⟩) HG.out).trans (HC.out k (by omega))
                      have hkx : (k : Int) < (N : Int) := by omega
                      have hky : (0 : Int) ≤ (k : Int) := by omega
                      have hcm := (hb3.cell (p := ⟨w.heap.size + 1, m, none⟩) HG.out).trans (HC.out m (by omega))
                      have hmx : (m : Int) < (N : Int) := by omega
                      have hmy : (0 : Int) ≤ (m : Int) := by omega
                      clear hb3
                      obtain ⟨x, hx⟩ : ∃ x, x = f i := ⟨_, rfl⟩
                      have hrx := HR.out i
                      rw [← hx] at hci hrx
                      have HX := Lib.hid hx
                      obtain ⟨hrx1, hrx2⟩ := hrx
                      clear hx
                      obtain ⟨y, hy⟩ : ∃ x, x = f k := ⟨_, rfl⟩
                      have hry := HR.out k
                      rw [← hy] at hck hry
                      have HY := Lib.hid hy
                      obtain ⟨hry1, hry2⟩ := hry
                      clear hy
                      obtain ⟨z, hz⟩ : ∃ x, x = f m := ⟨_, rfl⟩
                      have hrz := HR.out m
                      rw [← hz] at hcm hrz
                      have HZ := Lib.hid hz
                      obtain ⟨hrz1, hrz2⟩ := hrz
                      clear hz
                      have hxr := bits_xor x y hrx1 (by omega) hry1 (by omega)
                      obtain ⟨u, hu⟩ : ∃ u, u = bxor x y := ⟨_, rfl⟩
                      rw [← hu] at hxr
                      have HU := Lib.hid hu.symm
                      clear hu
                      by_cases hxy : u = z
                      · have hxy1 : (u == z) = true := by simp [hxy]
                        have HXY := Lib.hid hxy
                        clear hxy
                        go_wp2
                        go_quiet (fail)
                        have HBQ := Lib.hid (below_drewN HB3.out nq)
                        go_wp2
                        go_ret
                        refine ⟨_, rfl, ?_, ((HW.out.trans (HBQ.out.mono HW.out.size)).alloc (Nat.le_trans HW.out.size HBQ.out.size) _), fun h => ?_⟩
                        · rw [missL_trip (f := f) HP.out (tripTo_hit HNO.out (pairFrom_hit (by omega) HNO2.out (show k < m by omega) hlt3 HNO3.out (by unfold eqT; rw [← HX.out, ← HY.out, ← HZ.out, HU.out]; exact decide_eq_true HXY.out)) hlt)]; exact own_lit3 _ _ _ _ _ _ _ (by simp) (by have h1 := HW.out.size; have h2 := HB3.out.size; omega)
                        · rw [missL_trip (f := f) HP.out (tripTo_hit HNO.out (pairFrom_hit (by omega) HNO2.out (show k < m by omega) hlt3 HNO3.out (by unfold eqT; rw [← HX.out, ← HY.out, ← HZ.out, HU.out]; exact decide_eq_true HXY.out)) hlt)] at h; cases h
                      · have hxy1 : (u == z) = false := by simp [hxy]
                        have HXY := Lib.hid hxy
                        clear hxy
                        go_wp2
                        go_quiet (fail)
                        go_wp2
                        go_roundw
                        case rel => exact ⟨m + 1, by omega, by omega, by go_num, fun j a b => by
                            by_cases e : j = m
                            · subst e; unfold eqT; rw [← HX.out, ← HY.out, ← HZ.out, HU.out]; exact decide_eq_false HXY.out
                            · exact HNO3.out j a (by omega), below_drewN HB3.out _⟩
                        case measure => simp [intOf]; omega
                    · obtain rfl : N = m := by omega
                      clear hb3
                      go_wp2
                      go_roundw
                      case rel => exact ⟨k + 1, by omega, by omega, by go_num, fun j z a => by
                          by_cases e : j = k
                          · subst e; rw [scan_none HNO3.out]; rfl
                          · exact HNO2.out j z (by omega), HB3.out⟩
                      case measure => simp [intOf]; omega
                · obtain rfl : N = k := by omega
                  go_wp2
                  go_roundw
                  case rel => exact ⟨i + 1, by omega, by go_num, fun j a => by
                      by_cases e : j = i
                      · subst e; rw [pairFrom_none HNO2.out]; rfl
                      · exact HNO.out j (by omega), HB2.out⟩
                  case measure => simp [intOf]; omega
            · obtain rfl : N = i := by omega
              have HT := Lib.hid (show tripTo (eqT f) N = none from tripTo_none HNO.out)
              clear hlt HNO
              go_wp2
              go_ret
              refine ⟨_, rfl, ?_, HW.out.trans (HB.out.mono HW.out.size), fun h => rfl⟩
              rw [missL_none HP.out HT.out]; exact Own.nil _ _ _
set_option maxHeartbeats 2000000 in
theorem l03Syndromes_any (wd po : Int) (N : Nat) (w : World) (h : crcB wd po = true) (h1 : 1 ≤ N) (h2 : N ≤ 64) : Calls Try.prog 72 #[.agg #[.int .i64 wd, .int .i64 po], .int .i64 (N : Int)] w (OwnRes 2 w (fillDown (synI wd po N) N 0)) := by
  have HCR := Lib.hid h
  obtain ⟨hw1, hw2, hp1, hp2, _⟩ := crcB_yes h
  obtain ⟨hq1, hq2⟩ := p2_crc hw1 hw2
  have HONE := Lib.hid (feed_single wd po h)
  have HB0 := Lib.hid ((Below.refl w.heap.size w).alloc (Nat.le_refl _) (.cells #[.int .i64 wd, .int .i64 po] 25))
  obtain ⟨i0, hi, hz0, hz1, hz2⟩ := info_parts infoE3
  obtain ⟨f, hf⟩ : ∃ f, f = synI wd po N := ⟨_, rfl⟩
  have HFS := Lib.hid (fillDown_set f N)
  have HS1 : Hid (∀ c, c < N → rollI wd po po (N - (c + 1)) = f c) := Lib.hid (fun c hc => by rw [hf]; unfold synI; congr 1; omega)
  have HS2 : Hid (∀ c, c < N → feedI wd po (f c) [0] = rollI wd po po (N - c)) := Lib.hid (fun c hc => by
    rw [hf]; unfold synI; rw [rollI_succ]; congr 1; omega)
  have HR0 := Lib.hid (show po = rollI wd po po (N - N) by rw [Nat.sub_self]; rfl)
  have HPR : Hid (∀ c, 0 ≤ f c ∧ f c < p2 wd) := Lib.hid (fun c => by rw [hf]; exact rollI_range (k := N - 1 - c) h (show 0 ≤ po by omega) hp2)
  rw [← hf]
  clear h hf
  go_enter Try.func72, Try.ntmps72
  go_wp2_with (at_make; refine wpList_make_full _ rfl _ _ 26 rfl (w.heap.size + 1) 2 i0 (.int .i64 0) 1 Try.underlying26 hi hz0 hz1 .i64 .i64 (N : Int) (N : Int) N rfl rfl rfl rfl (by rw [hz2]; omega) (by unfold maxLen; omega) (by simp) ?_)
  intro w1 hown hgrow
  have hO : Own 2 w1 (w.heap.size + 1) (.slice (some ⟨w.heap.size + 1, 0, none⟩) N N) (fillDown f N N) := by
    unfold Own
    rw [length_fillDown, fillDown_top]
    have e : (madeCells #[Value.int IntKind.i64 0] N).toList = (List.replicate N 0).map (Value.int .i64) := by
      simp [toList_madeCells_one]
    rw [← e]; simpa using hown
  have hb1 : Below (w.heap.size + 1) (w.alloc (.cells #[.int .i64 wd, .int .i64 po] 25)) w1 := below_of_grown hgrow (by simp) (fun k h => by cases h)
  obtain ⟨c0, c1⟩ := box2 (by omega) hb1
  have hsz1 := hb1.size
  simp only [World.size_alloc] at hsz1
  have HO1 := Lib.hid (hO.alloc (.cells #[.int .i64 1] 2))
  have HX1 := Lib.hid (hb1.alloc hsz1 (.cells #[.int .i64 1] 2))
  clear hO hb1 hown hgrow
  try simp only [World.size_alloc]
  go_wp2_with fail
  refine (l02Feed_any _ [1] _ _ _ _ (rd_sg _ _ _ _ _ rfl) allIn_1 HCR.out (by decide) (by omega)).mono ?_
  rw [HONE.out]
  rintro e w2 ⟨rfl, hb2⟩
  have HO2 := Lib.hid (HO1.out.below hb2)
  have HX2 := Lib.hid (HX1.out.trans (hb2.mono (by simp; omega)))
  clear hb2 c0 c1 hsz1
  go_wp2
  go_loopw [6, 7] (fun r i wr => ∃ c : Nat, c ≤ N ∧ i = .int .i64 ((c : Int) - 1) ∧ r = .int .i64 (rollI wd po po (N - c)) ∧ Own 2 wr (w.heap.size + 1) (.slice (some ⟨w.heap.size + 1, 0, none⟩) N N) (fillDown f N c) ∧ Below (w.heap.size + 1) (w.alloc (.cells #[.int .i64 wd, .int .i64 po] 25)) wr) (fun _ i _ => (intOf i + 1).toNat)
  case atStart => exact ⟨N, Nat.le_refl _, rfl, by rw [← HR0.out], HO2.out, HX2.out⟩
  case round =>
    clear HO2 HX2 HO1 HX1 HR0
    obtain ⟨c, hcN, rfl, rfl, hO, hb⟩ := hrel
    have hsz := hb.size
    simp only [World.size_alloc] at hsz
    cases c with
    | succ c =>
      have e0 : ((c + 1 : Nat) : Int) - 1 = (c : Int) := by omega
      rw [e0, HS1.out c (by omega)]
      clear e0
      obtain ⟨c0, c1⟩ := box2 (by omega) hb
      have ho1 := hO.cell c (by rw [length_fillDown]; omega)
      have ho2 := hO.free c
      have hs := hO.set c (f c)
      rw [HFS.out c (by omega)] at hs
      have HOS := Lib.hid (hs.1.alloc (.cells #[.int .i64 0] 2))
      have HBS := Lib.hid ((hb.setCell (p := ⟨w.heap.size + 1, c, none⟩) (Nat.le_refl _) (.int .i64 (f c))).alloc (by simp; omega) (.cells #[.int .i64 0] 2))
      have hr := HPR.out c
      have hnx := HS2.out c (by omega)
      obtain ⟨R, hR⟩ : ∃ R, R = f c := ⟨_, rfl⟩
      rw [← hR] at HOS HBS hr hnx ⊢
      have HR1 := Lib.hid hr
      have HNX := Lib.hid hnx
      have hcx : (c : Int) < (N : Int) := by omega
      have hcy : (0 : Int) ≤ (c : Int) := by omega
      clear hs hO hb hR hr hnx
      go_wp2_with fail
      refine (l02Feed_any _ [0] _ _ _ _ (rd_sg _ _ _ _ _ (by simp)) allIn_0 HCR.out HR1.out.1 HR1.out.2).mono ?_
      rw [HNX.out]
      rintro e w2 ⟨rfl, hb2⟩
      have HO2 := Lib.hid (HOS.out.below hb2)
      have HB2 := Lib.hid (HBS.out.trans (hb2.mono (by simp; omega)))
      clear hb2
      go_wp2_with fail
      go_roundw
      case rel => exact ⟨c, by omega, rfl, rfl, HO2.out, HB2.out⟩
      case measure => simp [intOf]
    | zero =>
      have HO := Lib.hid hO
      have HW := Lib.hid (HB0.out.trans (hb.mono (by omega)))
      clear hO hb HS1 HS2 HFS HPR HB0
      have e0 : ((0 : Nat) : Int) - 1 = -1 := by decide
      rw [e0]
      clear e0
      go_wp2
      go_ret
      exact ⟨_, rfl, HO.out.mono (by omega), HW.out⟩
set_option maxRecDepth 100000 in
set_option maxHeartbeats 8000000 in
theorem l03First_any (wd po : Int) (N : Nat) (w : World) (h : crcB wd po = true) (h1 : 1 ≤ N) (h2 : N ≤ 64) : Calls Try.prog 57 #[.agg #[.int .i64 wd, .int .i64 po], .int .i64 (N : Int)] w (FirstRes 2 w (missL (powI wd po N) N)) := by
  have HCR := Lib.hid h
  have HB0 := Lib.hid ((Below.refl w.heap.size w).alloc (Nat.le_refl _) (.cells #[.int .i64 wd, .int .i64 po] 25))
  rw [← missL_syn h N]
  obtain ⟨f, hf⟩ : ∃ f, f = synI wd po N := ⟨_, rfl⟩
  have HR : Hid (∀ i, 0 ≤ f i ∧ f i < 16777216) := Lib.hid (fun i => by rw [hf]; exact syn_range h N i)
  have HNE : Hid (∀ i, (f i == 0) = false) := Lib.hid (fun i => by rw [hf]; simp [syn_ne h N i])
  rw [← hf]
  have HF := Lib.hid hf
  clear h hf
  go_enter Try.func57, Try.ntmps57
  go_wp2_with fail
  refine (l03Syndromes_any _ _ _ _ HCR.out h1 h2).mono ?_
  rw [← HF.out]
  rintro e wr ⟨v, rfl, hO, hb⟩
  have HW := Lib.hid (HB0.out.trans (hb.mono (by simp)))
  clear hb HB0 HF
  rcases hO.shape with ⟨_, hz⟩ | ⟨g, cap, rfl, hgB, hgS, hlc, hcm⟩
  · exfalso
    have := length_fillDown f N 0
    rw [hz] at this
    simp at this
    omega
  rw [length_fillDown] at hO hlc ⊢
  have HC := Lib.hid (own_cells' hO)
  have HG := Lib.hid hgS
  unfold maxLen at hcm
  clear hO hgB hgS
  obtain ⟨W, hWW⟩ : ∃ W, W = wr := ⟨_, rfl⟩
  rw [← hWW] at HC HG HW ⊢
  clear hWW
  go_wp2
  go_loop [6] (fun t => ∃ i : Nat, i ≤ N ∧ t = .int .i64 i) (fun t => N - (intOf t).toNat)
  case atStart => exact ⟨0, by omega, rfl⟩
  case round =>
    obtain ⟨i, hi, rfl⟩ := hrel
    by_cases hlt : i < N
    · have hc := HC.out i hlt
      have hne := HNE.out i
      have hix : (i : Int) < (N : Int) := by omega
      have hiy : (0 : Int) ≤ (i : Int) := by omega
      obtain ⟨x, hx⟩ : ∃ x, x = f i := ⟨_, rfl⟩
      rw [← hx] at hc hne
      clear hx
      go_wp2
      go_round
      case rel => exact ⟨i + 1, by omega, by go_num⟩
      case measure => simp [intOf]; omega
    · obtain rfl : N = i := by omega
      clear hlt hi HNE
      go_wp2
      go_loopw [7] (fun t wz => ∃ i : Nat, i ≤ N ∧ t = .int .i64 i ∧ (∀ j, 0 ≤ j → j < i → (scan (eqP f j) (j + 1) N).isSome = false) ∧ Below W.heap.size W wz) (fun t _ => N - (intOf t).toNat)
      case atStart => exact ⟨0, by omega, rfl, fun j _ a => by omega, Below.refl _ _⟩
      case round =>
        obtain ⟨i, hi, rfl, hno, hb⟩ := hrel
        have HNO := Lib.hid hno
        have HB := Lib.hid hb
        clear hno hb
        by_cases hlt : i < N
        · go_wp2
          go_loopw [8] (fun t wz => ∃ k : Nat, i + 1 ≤ k ∧ k ≤ N ∧ t = .int .i64 k ∧ (∀ j, i + 1 ≤ j → j < k → eqP f i j = false) ∧ Below W.heap.size W wz) (fun t _ => N - (intOf t).toNat)
          case atStart => exact ⟨i + 1, by omega, by omega, by go_num, fun j a b => by omega, HB.out⟩
          case round =>
            obtain ⟨k, hk1, hk2, rfl, hno2, hb2⟩ := hrel
            have HNO2 := Lib.hid hno2
            have HB2 := Lib.hid hb2
            clear hno2
            by_cases hlt2 : k < N
            · have hsk : True := trivial
              have hci := (hb2.cell (p := ⟨g, i, none⟩) HG.out).trans (HC.out i (by omega))
              have hix : (i : Int) < (N : Int) := by omega
              have hiy : (0 : Int) ≤ (i : Int) := by omega
              have hck := (hb2.cell (p := ⟨g, k, none⟩) HG.out).trans (HC.out k (by omega))
              have hkx : (k : Int) < (N : Int) := by omega
              have hky : (0 : Int) ≤ (k : Int) := by omega
              clear hb2
              obtain ⟨x, hx⟩ : ∃ x, x = f i := ⟨_, rfl⟩
              have hrx := HR.out i
              rw [← hx] at hci hrx
              have HX := Lib.hid hx
              obtain ⟨hrx1, hrx2⟩ := hrx
              clear hx
              obtain ⟨y, hy⟩ : ∃ x, x = f k := ⟨_, rfl⟩
              have hry := HR.out k
              rw [← hy] at hck hry
              have HY := Lib.hid hy
              obtain ⟨hry1, hry2⟩ := hry
              clear hy
              by_cases hxy : x = y
              · have hxy1 : (x == y) = true := by simp [hxy]
                have HXY := Lib.hid hxy
                clear hxy
                go_wp2
                go_quiet (fail)
                have HBQ := Lib.hid (below_drewN HB2.out nq)
                go_wp2
                go_ret
                refine ⟨_, rfl, ?_, ((HW.out.trans (HBQ.out.mono HW.out.size)).alloc (Nat.le_trans HW.out.size HBQ.out.size) _), fun h => ?_⟩
                · rw [missL_pair (f := f) (pairFrom_hit (lo := 0) (Nat.zero_le _) HNO.out (show i < k by omega) hlt2 HNO2.out (by unfold eqP; rw [← HX.out, ← HY.out]; exact decide_eq_true HXY.out))]; exact own_lit2 _ _ _ _ _ _ (by simp) (by have h1 := HW.out.size; have h2 := HB2.out.size; omega)
                · rw [missL_pair (f := f) (pairFrom_hit (lo := 0) (Nat.zero_le _) HNO.out (show i < k by omega) hlt2 HNO2.out (by unfold eqP; rw [← HX.out, ← HY.out]; exact decide_eq_true HXY.out))] at h; cases h
              · have hxy1 : (x == y) = false := by simp [hxy]
                have HXY := Lib.hid hxy
                clear hxy
                go_wp2
                go_quiet (fail)
                go_wp2
                go_roundw
                case rel => exact ⟨k + 1, by omega, by omega, by go_num, fun j a b => by
                    by_cases e : j = k
                    · subst e; unfold eqP; rw [← HX.out, ← HY.out]; exact decide_eq_false HXY.out
                    · exact HNO2.out j a (by omega), below_drewN HB2.out _⟩
                case measure => simp [intOf]; omega
            · obtain rfl : N = k := by omega
              clear hb2
              go_wp2
              go_roundw
              case rel => exact ⟨i + 1, by omega, by go_num, fun j z a => by
                  by_cases e : j = i
                  · subst e; rw [scan_none HNO2.out]; rfl
                  · exact HNO.out j z (by omega), HB2.out⟩
              case measure => simp [intOf]; omega
        · obtain rfl : N = i := by omega
          have HP := Lib.hid (show pairTo (eqP f) N = none from pairFrom_none HNO.out)
          clear hlt HNO
          go_wp2
          go_loopw [9] (fun t wz => ∃ i : Nat, i ≤ N ∧ t = .int .i64 i ∧ (∀ j, j < i → (tripTo.pairFrom (eqT f j) (j + 1) N).isSome = false) ∧ Below W.heap.size W wz) (fun t _ => N - (intOf t).toNat)
          case atStart => exact ⟨0, by omega, rfl, fun j a => by omega, HB.out⟩
          case round =>
            clear HB hi
            obtain ⟨i, hi, rfl, hno, hb⟩ := hrel
            have HNO := Lib.hid hno
            have HB := Lib.hid hb
            clear hno hb
            by_cases hlt : i < N
            · go_wp2
              go_loopw [10] (fun t wz => ∃ k : Nat, i + 1 ≤ k ∧ k ≤ N ∧ t = .int .i64 k ∧ (∀ j, i + 1 ≤ j → j < k → (scan (eqT f i j) (j + 1) N).isSome = false) ∧ Below W.heap.size W wz) (fun t _ => N - (intOf t).toNat)
              case atStart => exact ⟨i + 1, by omega, by omega, by go_num, fun j a b => by omega, HB.out⟩
              case round =>
                obtain ⟨k, hk1, hk2, rfl, hno2, hb2⟩ := hrel
                have HNO2 := Lib.hid hno2
                have HB2 := Lib.hid hb2
                clear hno2 hb2
                by_cases hlt2 : k < N
                · go_wp2
                  go_loopw [11] (fun t wz => ∃ m : Nat, k + 1 ≤ m ∧ m ≤ N ∧ t = .int .i64 m ∧ (∀ j, k + 1 ≤ j → j < m → eqT f i k j = false) ∧ Below W.heap.size W wz) (fun t _ => N - (intOf t).toNat)
                  case atStart => exact ⟨k + 1, by omega, by omega, by go_num, fun j a b => by omega, HB2.out⟩
                  case round =>
                    obtain ⟨m, hm1, hm2, rfl, hno3, hb3⟩ := hrel
                    have HNO3 := Lib.hid hno3
                    have HB3 := Lib.hid hb3
                    clear hno3
                    by_cases hlt3 : m < N
                    · have hsk : True := trivial
                      have hci := (hb3.cell (p := ⟨g, i, none⟩) HG.out).trans (HC.out i (by omega))
                      have hix : (i : Int) < (N : Int) := by omega
                      have hiy : (0 : Int) ≤ (i : Int) := by omega
                      have hck := (hb3.cell (p := ⟨g, k, none⟩) HG.out).trans (HC.out k (by omega))
                      have hkx : (k : Int) < (N : Int) := by omega
                      have hky : (0 : Int) ≤ (k : Int) := by omega
                      have hcm := (hb3.cell (p := ⟨g, m, none⟩) HG.out).trans (HC.out m (by omega))
                      have hmx : (m : Int) < (N : Int) := by omega
                      have hmy : (0 : Int) ≤ (m : Int) := by omega
                      clear hb3
                      obtain ⟨x, hx⟩ : ∃ x, x = f i := ⟨_, rfl⟩
                      have hrx := HR.out i
                      rw [← hx] at hci hrx
                      have HX := Lib.hid hx
                      obtain ⟨hrx1, hrx2⟩ := hrx
                      clear hx
                      obtain ⟨y, hy⟩ : ∃ x, x = f k := ⟨_, rfl⟩
                      have hry := HR.out k
                      rw [← hy] at hck hry
                      have HY := Lib.hid hy
                      obtain ⟨hry1, hry2⟩ := hry
                      clear hy
                      obtain ⟨z, hz⟩ : ∃ x, x = f m := ⟨_, rfl⟩
                      have hrz := HR.out m
                      rw [← hz] at hcm hrz
                      have HZ := Lib.hid hz
                      obtain ⟨hrz1, hrz2⟩ := hrz
                      clear hz
                      have hxr := bits_xor x y hrx1 (by omega) hry1 (by omega)
                      obtain ⟨u, hu⟩ : ∃ u, u = bxor x y := ⟨_, rfl⟩
                      rw [← hu] at hxr
                      have HU := Lib.hid hu.symm
                      clear hu
                      by_cases hxy : u = z
                      · have hxy1 : (u == z) = true := by simp [hxy]
                        have HXY := Lib.hid hxy
                        clear hxy
                        go_wp2
                        go_quiet (fail)
                        have HBQ := Lib.hid (below_drewN HB3.out nq)
                        go_wp2
                        go_ret
                        refine ⟨_, rfl, ?_, ((HW.out.trans (HBQ.out.mono HW.out.size)).alloc (Nat.le_trans HW.out.size HBQ.out.size) _), fun h => ?_⟩
                        · rw [missL_trip (f := f) HP.out (tripTo_hit HNO.out (pairFrom_hit (by omega) HNO2.out (show k < m by omega) hlt3 HNO3.out (by unfold eqT; rw [← HX.out, ← HY.out, ← HZ.out, HU.out]; exact decide_eq_true HXY.out)) hlt)]; exact own_lit3 _ _ _ _ _ _ _ (by simp) (by have h1 := HW.out.size; have h2 := HB3.out.size; omega)
                        · rw [missL_trip (f := f) HP.out (tripTo_hit HNO.out (pairFrom_hit (by omega) HNO2.out (show k < m by omega) hlt3 HNO3.out (by unfold eqT; rw [← HX.out, ← HY.out, ← HZ.out, HU.out]; exact decide_eq_true HXY.out)) hlt)] at h; cases h
                      · have hxy1 : (u == z) = false := by simp [hxy]
                        have HXY := Lib.hid hxy
                        clear hxy
                        go_wp2
                        go_quiet (fail)
                        go_wp2
                        go_roundw
                        case rel => exact ⟨m + 1, by omega, by omega, by go_num, fun j a b => by
                            by_cases e : j = m
                            · subst e; unfold eqT; rw [← HX.out, ← HY.out, ← HZ.out, HU.out]; exact decide_eq_false HXY.out
                            · exact HNO3.out j a (by omega), below_drewN HB3.out _⟩
                        case measure => simp [intOf]; omega
                    · obtain rfl : N = m := by omega
                      clear hb3
                      go_wp2
                      go_roundw
                      case rel => exact ⟨k + 1, by omega, by omega, by go_num, fun j z a => by
                          by_cases e : j = k
                          · subst e; rw [scan_none HNO3.out]; rfl
                          · exact HNO2.out j z (by omega), HB3.out⟩
                      case measure => simp [intOf]; omega
                · obtain rfl : N = k := by omega
                  go_wp2
                  go_roundw
                  case rel => exact ⟨i + 1, by omega, by go_num, fun j a => by
                      by_cases e : j = i
                      · subst e; rw [pairFrom_none HNO2.out]; rfl
                      · exact HNO.out j (by omega), HB2.out⟩
                  case measure => simp [intOf]; omega
            · obtain rfl : N = i := by omega
              have HT := Lib.hid (show tripTo (eqT f) N = none from tripTo_none HNO.out)
              clear hlt HNO
              go_wp2
              go_ret
              refine ⟨_, rfl, ?_, HW.out.trans (HB.out.mono HW.out.size), fun h => rfl⟩
              rw [missL_none HP.out HT.out]; exact Own.nil _ _ _
theorem spanCode_any (wd po n : Int) (w : World) : Calls Try.prog 54 #[.agg #[.int .i64 wd, .int .i64 po], .int .i64 n] w fun e w' => e = .returned (.int .i64 (spanC wd po n)) ∧ Below w.heap.size w w' := by
  have HB0 := Lib.hid ((Below.refl w.heap.size w).alloc (Nat.le_refl _) (.cells #[.int .i64 wd, .int .i64 po] 25))
  cases h1 : crcB wd po
  · have hf : spanC wd po n = 1 := by simp [spanC, h1]
    rw [hf]; clear hf
    go_enter Try.func54, Try.ntmps54
    go_wp2_with fail
    refine (isCrc_any _ _ _).mono ?_
    rintro e w1 ⟨rfl, hb⟩
    have HB := Lib.hid (HB0.out.trans (hb.mono (by simp)))
    clear hb
    go_wp2_with fail
    go_ret
    exact ⟨rfl, HB.out⟩
  cases h2 : inB n 1 64
  all_goals
    have hf : spanC wd po n = (if inB n 1 64 = false then 2 else 0) := by simp [spanC, h1]
    rw [h2] at hf
    first | rw [if_pos rfl] at hf | rw [if_neg (by decide)] at hf
    rw [hf]; clear hf
    go_enter Try.func54, Try.ntmps54
    go_wp2_with fail
    refine (isCrc_any _ _ _).mono ?_
    rintro e w1 ⟨rfl, hb⟩
    have HB := Lib.hid (HB0.out.trans (hb.mono (by simp)))
    clear hb
    go_wp2_with (go_at_call 62; refine (within_any _ _ _ _).mono ?_; rintro e w' ⟨rfl, rfl⟩)
    go_ret
    exact ⟨rfl, HB.out⟩
theorem l03Span_any (wd po n : Int) (w : World) : Calls Try.prog 56 #[.agg #[.int .i64 wd, .int .i64 po], .int .i64 n] w fun e w' => e = .returned (.int .i64 (spanC wd po n)) ∧ Below w.heap.size w w' := by
  have HB0 := Lib.hid ((Below.refl w.heap.size w).alloc (Nat.le_refl _) (.cells #[.int .i64 wd, .int .i64 po] 25))
  cases h1 : crcB wd po
  · have hf : spanC wd po n = 1 := by simp [spanC, h1]
    rw [hf]; clear hf
    go_enter Try.func56, Try.ntmps56
    go_wp2_with fail
    refine (sIsCrc_any _ _ _).mono ?_
    rintro e w1 ⟨rfl, hb⟩
    have HB := Lib.hid (HB0.out.trans (hb.mono (by simp)))
    clear hb
    go_wp2_with fail
    go_ret
    exact ⟨rfl, HB.out⟩
  cases h2 : inB n 1 64
  all_goals
    have hf : spanC wd po n = (if inB n 1 64 = false then 2 else 0) := by simp [spanC, h1]
    rw [h2] at hf
    first | rw [if_pos rfl] at hf | rw [if_neg (by decide)] at hf
    rw [hf]; clear hf
    go_enter Try.func56, Try.ntmps56
    go_wp2_with fail
    refine (sIsCrc_any _ _ _).mono ?_
    rintro e w1 ⟨rfl, hb⟩
    have HB := Lib.hid (HB0.out.trans (hb.mono (by simp)))
    clear hb
    go_wp2_with (go_at_call 66; refine (l01In_any _ _ _ _).mono ?_; rintro e w' ⟨rfl, rfl⟩)
    go_ret
    exact ⟨rfl, HB.out⟩
set_option maxHeartbeats 1000000 in
theorem firstMissedX_any (wd po n : Int) (w : World) : Calls Try.prog 27 #[.agg #[.int .i64 wd, .int .i64 po], .int .i64 n] w (OwnRes2 2 w (firstA wd po n).1 (firstA wd po n).2) := by
  have HB0 := Lib.hid ((Below.refl w.heap.size w).alloc (Nat.le_refl _) (.cells #[.int .i64 wd, .int .i64 po] 25))
  by_cases h0 : spanC wd po n = 0
  rotate_left
  · have hf : firstA wd po n = ([], spanC wd po n) := by simp [firstA, h0]
    rw [hf]; clear hf
    have hne : (spanC wd po n != 0) = true := by simpa using h0
    clear h0
    go_enter Try.func27, Try.ntmps27
    go_wp2_with fail
    refine (spanCode_any _ _ _ _).mono ?_
    rintro e w1 ⟨rfl, hb⟩
    have HB := Lib.hid (HB0.out.trans (hb.mono (by simp)))
    clear hb
    go_wp2_with fail
    go_ret2
    exact ⟨_, rfl, Own.nil _ _ _, HB.out⟩
  obtain ⟨hcr, hn1, hn2⟩ := spanC_ok h0
  obtain ⟨N, rfl⟩ := Int.eq_ofNat_of_zero_le (show 0 ≤ n by omega)
  have HCR := Lib.hid hcr
  have H0 := Lib.hid h0
  obtain ⟨X, hX⟩ : ∃ X, X = missL (powI wd po N) N := ⟨_, rfl⟩
  have hlen : X.length ≤ 3 := by rw [hX]; exact missL_len _ _
  have hf : firstA wd po (N : Int) = (X, if X.length = 0 then 4 else 0) := by simp [firstA, h0, hX]
  rw [hf]; clear hf hcr h0
  have HX := Lib.hid hX
  clear hX
  by_cases hx : X = []
  · subst hx
    simp only [List.length_nil, if_true]
    go_enter Try.func27, Try.ntmps27
    go_wp2_with fail
    refine (spanCode_any _ _ _ _).mono ?_
    rw [H0.out]
    rintro e w1 ⟨rfl, hb⟩
    obtain ⟨c0, c1⟩ := box2 (B := w.heap.size + 1) (by omega) (hb.mono (by simp))
    have HB := Lib.hid (HB0.out.trans (hb.mono (by simp)))
    clear hb
    go_wp2_with fail
    refine (firstMissed_any _ _ N _ HCR.out (by omega) (by omega)).mono ?_
    rw [← HX.out]
    rintro e w2 ⟨v2, rfl, hO2, hb2, hnil⟩
    have HB2 := Lib.hid (bthen HB.out hb2)
    clear hb2 c0 c1
    have hv := hnil rfl
    subst hv
    clear hnil hO2
    have hq := fun wx => Lib.run_eql_slice_nil (P := Try.prog) wx 26 2 none 0 0 0 0 Try.underlying26
    go_wp2_with fail
    go_ret2
    exact ⟨_, rfl, Own.nil _ _ _, HB2.out⟩
  · have hxl : 1 ≤ X.length := by cases X with | nil => exact absurd rfl hx | cons a l => simp
    have hcode : (if X.length = 0 then (4 : Int) else 0) = 0 := by rw [if_neg (by omega)]
    simp only [hcode]
    have hl0 : ((X.length : Int) == 0) = false := by simp; omega
    clear hcode
    go_enter Try.func27, Try.ntmps27
    go_wp2_with fail
    refine (spanCode_any _ _ _ _).mono ?_
    rw [H0.out]
    rintro e w1 ⟨rfl, hb⟩
    obtain ⟨c0, c1⟩ := box2 (B := w.heap.size + 1) (by omega) (hb.mono (by simp))
    have HB := Lib.hid (HB0.out.trans (hb.mono (by simp)))
    clear hb
    go_wp2_with fail
    refine (firstMissed_any _ _ N _ HCR.out (by omega) (by omega)).mono ?_
    rw [← HX.out]
    rintro e w2 ⟨v2, rfl, hO2, hb2, hnil⟩
    have HB2 := Lib.hid (bthen HB.out hb2)
    clear hb2 c0 c1
    clear hnil
    rcases hO2.shape with ⟨_, hz⟩ | ⟨g, cap, rfl, hgB, hgS, hlc, hcm⟩
    · exact absurd hz hx
    have HO2 := Lib.hid (hO2.mono HB.out.size)
    clear hO2 hgB hgS hlc hcm hx
    have hq := fun wx => Lib.run_eql_slice_nil (P := Try.prog) wx 26 2 (some ⟨g, 0, none⟩) X.length cap 0 0 Try.underlying26
    go_wp2_with fail
    go_ret2
    exact ⟨_, rfl, HO2.out, HB2.out⟩
set_option maxHeartbeats 1000000 in
theorem leastWeight_any (wd po n : Int) (w : World) : Calls Try.prog 29 #[.agg #[.int .i64 wd, .int .i64 po], .int .i64 n] w fun e w' => e = .returned (.tuple #[.int .i64 (leastA wd po n).1, .int .i64 (leastA wd po n).2]) ∧ Below w.heap.size w w' := by
  have HB0 := Lib.hid ((Below.refl w.heap.size w).alloc (Nat.le_refl _) (.cells #[.int .i64 wd, .int .i64 po] 25))
  by_cases h0 : spanC wd po n = 0
  rotate_left
  · have hf : leastA wd po n = (0, spanC wd po n) := by simp [leastA, h0]
    rw [hf]; clear hf
    have hne : (spanC wd po n != 0) = true := by simpa using h0
    clear h0
    go_enter Try.func29, Try.ntmps29
    go_wp2_with fail
    refine (spanCode_any _ _ _ _).mono ?_
    rintro e w1 ⟨rfl, hb⟩
    have HB := Lib.hid (HB0.out.trans (hb.mono (by simp)))
    clear hb
    go_wp2_with fail
    go_ret2
    exact ⟨rfl, HB.out⟩
  obtain ⟨hcr, hn1, hn2⟩ := spanC_ok h0
  obtain ⟨N, rfl⟩ := Int.eq_ofNat_of_zero_le (show 0 ≤ n by omega)
  have HCR := Lib.hid hcr
  have H0 := Lib.hid h0
  obtain ⟨X, hX⟩ : ∃ X, X = missL (powI wd po N) N := ⟨_, rfl⟩
  have hlen : X.length ≤ 3 := by rw [hX]; exact missL_len _ _
  have hf : leastA wd po (N : Int) = (if X.length = 0 then 4 else (X.length : Int), 0) := by simp [leastA, h0, hX]
  rw [hf]; clear hf hcr h0
  have HX := Lib.hid hX
  clear hX
  by_cases hx : X = []
  · subst hx
    simp only [List.length_nil, if_true]
    go_enter Try.func29, Try.ntmps29
    go_wp2_with fail
    refine (spanCode_any _ _ _ _).mono ?_
    rw [H0.out]
    rintro e w1 ⟨rfl, hb⟩
    obtain ⟨c0, c1⟩ := box2 (B := w.heap.size + 1) (by omega) (hb.mono (by simp))
    have HB := Lib.hid (HB0.out.trans (hb.mono (by simp)))
    clear hb
    go_wp2_with fail
    refine (firstMissed_any _ _ N _ HCR.out (by omega) (by omega)).mono ?_
    rw [← HX.out]
    rintro e w2 ⟨v2, rfl, hO2, hb2, hnil⟩
    have HB2 := Lib.hid (bthen HB.out hb2)
    clear hb2 c0 c1
    have hv := hnil rfl
    subst hv
    clear hnil hO2
    have hq := fun wx => Lib.run_eql_slice_nil (P := Try.prog) wx 26 2 none 0 0 0 0 Try.underlying26
    go_wp2_with fail
    go_ret2
    exact ⟨rfl, HB2.out⟩
  · have hxl : 1 ≤ X.length := by cases X with | nil => exact absurd rfl hx | cons a l => simp
    have hcode : (if X.length = 0 then (4 : Int) else (X.length : Int)) = (X.length : Int) := by rw [if_neg (by omega)]
    simp only [hcode]
    have hl0 : ((X.length : Int) == 0) = false := by simp; omega
    clear hcode
    go_enter Try.func29, Try.ntmps29
    go_wp2_with fail
    refine (spanCode_any _ _ _ _).mono ?_
    rw [H0.out]
    rintro e w1 ⟨rfl, hb⟩
    obtain ⟨c0, c1⟩ := box2 (B := w.heap.size + 1) (by omega) (hb.mono (by simp))
    have HB := Lib.hid (HB0.out.trans (hb.mono (by simp)))
    clear hb
    go_wp2_with fail
    refine (firstMissed_any _ _ N _ HCR.out (by omega) (by omega)).mono ?_
    rw [← HX.out]
    rintro e w2 ⟨v2, rfl, hO2, hb2, hnil⟩
    have HB2 := Lib.hid (bthen HB.out hb2)
    clear hb2 c0 c1
    clear hnil
    rcases hO2.shape with ⟨_, hz⟩ | ⟨g, cap, rfl, hgB, hgS, hlc, hcm⟩
    · exact absurd hz hx
    have HO2 := Lib.hid (hO2.mono HB.out.size)
    clear hO2 hgB hgS hlc hcm hx
    have hq := fun wx => Lib.run_eql_slice_nil (P := Try.prog) wx 26 2 (some ⟨g, 0, none⟩) X.length cap 0 0 Try.underlying26
    go_wp2_with fail
    go_ret2
    exact ⟨rfl, HB2.out⟩
set_option maxHeartbeats 1000000 in
theorem sFirstMissed_any (wd po n : Int) (w : World) : Calls Try.prog 28 #[.agg #[.int .i64 wd, .int .i64 po], .int .i64 n] w (OwnRes2 2 w (firstA wd po n).1 (firstA wd po n).2) := by
  have HB0 := Lib.hid ((Below.refl w.heap.size w).alloc (Nat.le_refl _) (.cells #[.int .i64 wd, .int .i64 po] 25))
  by_cases h0 : spanC wd po n = 0
  rotate_left
  · have hf : firstA wd po n = ([], spanC wd po n) := by simp [firstA, h0]
    rw [hf]; clear hf
    have hne : (spanC wd po n != 0) = true := by simpa using h0
    clear h0
    go_enter Try.func28, Try.ntmps28
    go_wp2_with fail
    refine (l03Span_any _ _ _ _).mono ?_
    rintro e w1 ⟨rfl, hb⟩
    have HB := Lib.hid (HB0.out.trans (hb.mono (by simp)))
    clear hb
    go_wp2_with fail
    go_ret2
    exact ⟨_, rfl, Own.nil _ _ _, HB.out⟩
  obtain ⟨hcr, hn1, hn2⟩ := spanC_ok h0
  obtain ⟨N, rfl⟩ := Int.eq_ofNat_of_zero_le (show 0 ≤ n by omega)
  have HCR := Lib.hid hcr
  have H0 := Lib.hid h0
  obtain ⟨X, hX⟩ : ∃ X, X = missL (powI wd po N) N := ⟨_, rfl⟩
  have hlen : X.length ≤ 3 := by rw [hX]; exact missL_len _ _
  have hf : firstA wd po (N : Int) = (X, if X.length = 0 then 4 else 0) := by simp [firstA, h0, hX]
  rw [hf]; clear hf hcr h0
  have HX := Lib.hid hX
  clear hX
  by_cases hx : X = []
  · subst hx
    simp only [List.length_nil, if_true]
    go_enter Try.func28, Try.ntmps28
    go_wp2_with fail
    refine (l03Span_any _ _ _ _).mono ?_
    rw [H0.out]
    rintro e w1 ⟨rfl, hb⟩
    obtain ⟨c0, c1⟩ := box2 (B := w.heap.size + 1) (by omega) (hb.mono (by simp))
    have HB := Lib.hid (HB0.out.trans (hb.mono (by simp)))
    clear hb
    go_wp2_with fail
    refine (l03First_any _ _ N _ HCR.out (by omega) (by omega)).mono ?_
    rw [← HX.out]
    rintro e w2 ⟨v2, rfl, hO2, hb2, hnil⟩
    have HB2 := Lib.hid (bthen HB.out hb2)
    clear hb2 c0 c1
    have hv := hnil rfl
    subst hv
    clear hnil hO2
    go_wp2_with fail
    go_ret2
    exact ⟨_, rfl, Own.nil _ _ _, HB2.out⟩
  · have hxl : 1 ≤ X.length := by cases X with | nil => exact absurd rfl hx | cons a l => simp
    have hcode : (if X.length = 0 then (4 : Int) else 0) = 0 := by rw [if_neg (by omega)]
    simp only [hcode]
    have hl0 : ((X.length : Int) == 0) = false := by simp; omega
    clear hcode
    go_enter Try.func28, Try.ntmps28
    go_wp2_with fail
    refine (l03Span_any _ _ _ _).mono ?_
    rw [H0.out]
    rintro e w1 ⟨rfl, hb⟩
    obtain ⟨c0, c1⟩ := box2 (B := w.heap.size + 1) (by omega) (hb.mono (by simp))
    have HB := Lib.hid (HB0.out.trans (hb.mono (by simp)))
    clear hb
    go_wp2_with fail
    refine (l03First_any _ _ N _ HCR.out (by omega) (by omega)).mono ?_
    rw [← HX.out]
    rintro e w2 ⟨v2, rfl, hO2, hb2, hnil⟩
    have HB2 := Lib.hid (bthen HB.out hb2)
    clear hb2 c0 c1
    clear hnil
    rcases hO2.shape with ⟨_, hz⟩ | ⟨g, cap, rfl, hgB, hgS, hlc, hcm⟩
    · exact absurd hz hx
    have HO2 := Lib.hid (hO2.mono HB.out.size)
    clear hO2 hgB hgS hlc hcm hx
    go_wp2_with fail
    go_ret2
    exact ⟨_, rfl, HO2.out, HB2.out⟩
set_option maxHeartbeats 1000000 in
theorem sLeastWeight_any (wd po n : Int) (w : World) : Calls Try.prog 30 #[.agg #[.int .i64 wd, .int .i64 po], .int .i64 n] w fun e w' => e = .returned (.tuple #[.int .i64 (leastA wd po n).1, .int .i64 (leastA wd po n).2]) ∧ Below w.heap.size w w' := by
  have HB0 := Lib.hid ((Below.refl w.heap.size w).alloc (Nat.le_refl _) (.cells #[.int .i64 wd, .int .i64 po] 25))
  by_cases h0 : spanC wd po n = 0
  rotate_left
  · have hf : leastA wd po n = (0, spanC wd po n) := by simp [leastA, h0]
    rw [hf]; clear hf
    have hne : (spanC wd po n != 0) = true := by simpa using h0
    clear h0
    go_enter Try.func30, Try.ntmps30
    go_wp2_with fail
    refine (l03Span_any _ _ _ _).mono ?_
    rintro e w1 ⟨rfl, hb⟩
    have HB := Lib.hid (HB0.out.trans (hb.mono (by simp)))
    clear hb
    go_wp2_with fail
    go_ret2
    exact ⟨rfl, HB.out⟩
  obtain ⟨hcr, hn1, hn2⟩ := spanC_ok h0
  obtain ⟨N, rfl⟩ := Int.eq_ofNat_of_zero_le (show 0 ≤ n by omega)
  have HCR := Lib.hid hcr
  have H0 := Lib.hid h0
  obtain ⟨X, hX⟩ : ∃ X, X = missL (powI wd po N) N := ⟨_, rfl⟩
  have hlen : X.length ≤ 3 := by rw [hX]; exact missL_len _ _
  have hf : leastA wd po (N : Int) = (if X.length = 0 then 4 else (X.length : Int), 0) := by simp [leastA, h0, hX]
  rw [hf]; clear hf hcr h0
  have HX := Lib.hid hX
  clear hX
  by_cases hx : X = []
  · subst hx
    simp only [List.length_nil, if_true]
    go_enter Try.func30, Try.ntmps30
    go_wp2_with fail
    refine (l03Span_any _ _ _ _).mono ?_
    rw [H0.out]
    rintro e w1 ⟨rfl, hb⟩
    obtain ⟨c0, c1⟩ := box2 (B := w.heap.size + 1) (by omega) (hb.mono (by simp))
    have HB := Lib.hid (HB0.out.trans (hb.mono (by simp)))
    clear hb
    go_wp2_with fail
    refine (l03First_any _ _ N _ HCR.out (by omega) (by omega)).mono ?_
    rw [← HX.out]
    rintro e w2 ⟨v2, rfl, hO2, hb2, hnil⟩
    have HB2 := Lib.hid (bthen HB.out hb2)
    clear hb2 c0 c1
    have hv := hnil rfl
    subst hv
    clear hnil hO2
    go_wp2_with fail
    go_ret2
    exact ⟨rfl, HB2.out⟩
  · have hxl : 1 ≤ X.length := by cases X with | nil => exact absurd rfl hx | cons a l => simp
    have hcode : (if X.length = 0 then (4 : Int) else (X.length : Int)) = (X.length : Int) := by rw [if_neg (by omega)]
    simp only [hcode]
    have hl0 : ((X.length : Int) == 0) = false := by simp; omega
    clear hcode
    go_enter Try.func30, Try.ntmps30
    go_wp2_with fail
    refine (l03Span_any _ _ _ _).mono ?_
    rw [H0.out]
    rintro e w1 ⟨rfl, hb⟩
    obtain ⟨c0, c1⟩ := box2 (B := w.heap.size + 1) (by omega) (hb.mono (by simp))
    have HB := Lib.hid (HB0.out.trans (hb.mono (by simp)))
    clear hb
    go_wp2_with fail
    refine (l03First_any _ _ N _ HCR.out (by omega) (by omega)).mono ?_
    rw [← HX.out]
    rintro e w2 ⟨v2, rfl, hO2, hb2, hnil⟩
    have HB2 := Lib.hid (bthen HB.out hb2)
    clear hb2 c0 c1
    clear hnil
    rcases hO2.shape with ⟨_, hz⟩ | ⟨g, cap, rfl, hgB, hgS, hlc, hcm⟩
    · exact absurd hz hx
    have HO2 := Lib.hid (hO2.mono HB.out.size)
    clear hO2 hgB hgS hlc hcm hx
    go_wp2_with fail
    go_ret2
    exact ⟨rfl, HB2.out⟩
end Go.Proofs.Ytmlingcnbdpbmaa
