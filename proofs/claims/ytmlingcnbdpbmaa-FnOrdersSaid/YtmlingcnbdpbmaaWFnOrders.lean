/- The walk of the law FnOrders: it returns true, and nothing that was there is written. -/
import Derived.Test.YtmlingcnbdpbmaaDrO
import Derived.Test.YtmlingcnbdpbmaaOrdL
import Derived.Test.YtmlingcnbdpbmaaDice
import Derived.Test.YtmlingcnbdpbmaaOrd
import Derived.Test.YtmlingcnbdpbmaaLike
namespace Go.Proofs.Ytmlingcnbdpbmaa
open Go.RowKit
set_option linter.unusedVariables false
set_option linter.unusedSimpArgs false

set_option maxHeartbeats 8000000 in
theorem fnOrders_walk {w : World} (a0 : Option Addr) (len0 cap0 : Nat) (z0 : List Int) (w0 : IsRow .u8 w a0 len0 cap0 z0) :
    Calls Try.prog 4 #[.slice a0 len0 cap0] w fun e w' => e = .returned (.bool true) ∧ Below w.heap.size w w' := by
  obtain ⟨hl0, hr0⟩ := w0.rd
  have ho0 := w0.bytes
  obtain ⟨cs, hcs⟩ : ∃ cs, cs = z0.take len0 := ⟨_, rfl⟩
  rw [← hcs] at hl0 hr0 ho0
  clear hcs w0
  subst hl0
  have HR := Lib.hid hr0
  have HO8 := Lib.hid ho0
  clear hr0 ho0
  by_cases hbig : 4096 < cs.length
  · have hd : decide ((4096 : Int) < (cs.length : Int)) = true := decide_eq_true (by omega)
    go_enter Try.func4, Try.ntmps4
    go_wp2_with (go_at_call 7; refine (big_any _ cs _ HR.out).mono ?_; rw [hd]; rintro e w' ⟨rfl, rfl⟩)
    go_ret
    exact ⟨rfl, Below.refl _ _⟩
  have hd : decide ((4096 : Int) < (cs.length : Int)) = false := decide_eq_false (by omega)
  have hcl : cs.length ≤ 4096 := by omega
  have HB := Lib.hid (Below.refl w.heap.size w)
  go_enter Try.func4, Try.ntmps4
  go_wp2_with fail
  refine (big_any _ cs _ HR.out).mono ?_
  rw [hd]
  rintro e w' ⟨rfl, rfl⟩
  go_wp2_with fail
  refine (drawOrderOf_any _ cs _ (HR.out.below HB.out) hcl HO8.out).mono ?_
  rintro e w1x ⟨wd, po, rfl, hb1⟩
  replace HB := Lib.hid (bthen HB.out hb1)
  clear hb1
  obtain ⟨X, hX⟩ : ∃ X, X = ordA wd po := ⟨_, rfl⟩
  have HX := Lib.hid hX
  clear hX
  have hzG := HB.out.size
  have HG := Lib.hid (Cell2.new w1x wd po 25)
  replace HB := Lib.hid (HB.out.alloc HB.out.size (.cells #[.int .i64 wd, .int .i64 po] 25))
  obtain ⟨W, hW⟩ : ∃ W, W = w1x.alloc (.cells #[.int .i64 wd, .int .i64 po] 25) := ⟨_, rfl⟩
  obtain ⟨G, hG⟩ : ∃ G, G = w1x.heap.size := ⟨_, rfl⟩
  have hsW : W.heap.size = G + 1 := by rw [hW, hG]; simp
  rw [← hG] at HG hzG
  rw [← hW] at HB HG 
  obtain ⟨c0G, c1G, f0G, f1G⟩ := HG.out
  go_wp2_with fail
  rw [← hW, ← hG]
  clear hW hG
  clear c0G c1G f0G f1G
  refine (orderOfX_any wd po _).mono ?_
  rw [← HX.out]
  rintro e w2x ⟨rfl, hb2⟩
  replace HG := Lib.hid (HG.out.next hb2)
  replace HB := Lib.hid (bthen HB.out hb2)
  clear hb2
  obtain ⟨c0G, c1G, f0G, f1G⟩ := HG.out
  go_wp2_with fail
  clear c0G c1G f0G f1G
  refine (sOrderOf_any wd po _).mono ?_
  rw [← HX.out]
  rintro e w3x ⟨rfl, hb3⟩
  replace HG := Lib.hid (HG.out.next hb3)
  replace HB := Lib.hid (bthen HB.out hb3)
  clear hb3
  have hb1 : (X.1 != X.1) = false := by simp
  have hb2 : (X.2 != X.2) = false := by simp
  by_cases hok : X.2 = 0
  rotate_left
  · have hne : (X.2 != 0) = true := by simpa using hok
    clear hok
    obtain ⟨c0G, c1G, f0G, f1G⟩ := HG.out
    go_wp2_with fail
    clear c0G c1G f0G f1G
    go_ret
    exact ⟨rfl, HB.out⟩
  have hne : (X.2 != 0) = false := by simp [hok]
  obtain ⟨N, hN, hN1, hN2, hm1, hm2⟩ := order_pairs (HX.out ▸ hok)
  rw [← HX.out] at hN
  rw [hN] at hb1 ⊢
  have HM1 := Lib.hid hm1
  have HM2 := Lib.hid hm2
  clear hok hN hm1 hm2
  obtain ⟨i0, hi, hz0, hz1, hz2⟩ := info_parts infoD
  have hsz := HB.out.size
  have hs3 : IntKind.i64.wrap ((N : Int) + 1) = (N : Int) + 1 := IntWalk.i64_in _ (by omega)
  go_wp2_with (at_make; refine wpList_make_full _ rfl _ _ 26 rfl w3x.heap.size 2 i0 (.int .i64 0) 1 Try.underlying26 hi hz0 hz1 .i64 .i64 ((N : Int) + 1) ((N : Int) + 1) (N + 1) rfl rfl (by omega) (by omega) (by rw [hz2]; omega) (by unfold maxLen; omega) (Nat.le_refl _) ?_)
  intro w4x hown hgrow
  have HO := Lib.hid (own_zeros hown)
  have HB4 := Lib.hid (below_of_grown hgrow (Nat.le_refl _) (fun k h => by cases h))
  clear hown hgrow
  have hp0 : (0 : Int) < (N : Int) + 1 := by omega
  have hpN : (N : Int) < (N : Int) + 1 := by omega
  have hpN0 : (0 : Int) ≤ (N : Int) := by omega
  have hcell := HO.out.cell 0 (by rw [List.length_replicate]; omega)
  have hfree := HO.out.free 0
  have HO1 := Lib.hid (HO.out.set 0 1).1
  have hcell1 := HO1.out.cell N (by rw [List.length_set, List.length_replicate]; omega)
  have hfree1 := HO1.out.free N
  have hnn : ¬ (N = 0) := by omega
  have hnn2 : ¬ (0 = N) := by omega
  have HO2 : Hid (Own 2 ((w4x.setCell ⟨w3x.heap.size, 0, none⟩ (.int .i64 1)).setCell ⟨w3x.heap.size, N, none⟩ (.int .i64 1)) w3x.heap.size (.slice (some ⟨w3x.heap.size, 0, none⟩) (N + 1) (N + 1)) (pairL N)) := Lib.hid (HO1.out.set N 1).1
  have HB5 := Lib.hid ((HB4.out.setCell (p := ⟨w3x.heap.size, 0, none⟩) (Nat.le_refl _) (.int .i64 1)).setCell (p := ⟨w3x.heap.size, N, none⟩) (Nat.le_refl _) (.int .i64 1))
  clear HB4 HO HO1
  go_wp2_with fail
  obtain ⟨w5x, hw5⟩ : ∃ w5x, w5x = (w4x.setCell ⟨w3x.heap.size, 0, none⟩ (.int .i64 1)).setCell ⟨w3x.heap.size, N, none⟩ (.int .i64 1) := ⟨_, rfl⟩
  rw [← hw5] at HO2 HB5 ⊢
  clear hw5 hcell hfree hcell1 hfree1
  replace HG := Lib.hid (HG.out.next HB5.out)
  replace HB := Lib.hid (HB.out.trans (HB5.out.mono hsz))
  have HR2 := Lib.hid HO2.out.rd
  clear HB5 HO2
  refine (roll_any _ cs _ _ (HR.out.below HB.out) hcl HO8.out).mono ?_
  rintro e w6x ⟨rfl, hD, hb6⟩
  have HD := Lib.hid hD
  have HBD := Lib.hid hb6
  clear hD hb6
  go_wp2_with fail
  refine (dieBelow_any _ _ _ HD.out (by omega)).mono ?_
  rintro e w7x ⟨x, rfl, hx0, hx1, hD, hg⟩
  have hzD := HD.out.lt
  replace HBD := Lib.hid (HBD.out.trans (grown_below hg (Nat.le_refl _) (Nat.le_of_lt hzD)))
  clear hD hg HD hzD
  obtain ⟨M, rfl⟩ := Int.eq_ofNat_of_zero_le hx0
  have hM : M < N := by omega
  have hz7 : w5x.heap.size ≤ w7x.heap.size := HBD.out.size
  have hs4 : IntKind.i64.wrap (1 + (M : Int)) = 1 + (M : Int) := IntWalk.i64_in _ (by omega)
  have hs5 : IntKind.i64.wrap (1 + (M : Int) + 1) = 1 + (M : Int) + 1 := IntWalk.i64_in _ (by omega)
  clear hx0 hx1
  go_wp2_with (at_make; refine wpList_make_full _ rfl _ _ 26 rfl w7x.heap.size 2 i0 (.int .i64 0) 1 Try.underlying26 hi hz0 hz1 .i64 .i64 (1 + (M : Int) + 1) (1 + (M : Int) + 1) (1 + M + 1) rfl rfl (by omega) (by omega) (by rw [hz2]; omega) (by unfold maxLen; omega) (Nat.le_refl _) ?_)
  intro w8x hown hgrow
  have HO := Lib.hid (own_zeros hown)
  have HB4 := Lib.hid (below_of_grown hgrow (Nat.le_refl _) (fun k h => by cases h))
  clear hown hgrow
  have hq0 : (0 : Int) < 1 + (M : Int) + 1 := by omega
  have hqN : 1 + (M : Int) < 1 + (M : Int) + 1 := by omega
  have hqN0 : (0 : Int) ≤ 1 + (M : Int) := by omega
  have hto : (1 + (M : Int)).toNat = 1 + M := by omega
  have hcell := HO.out.cell 0 (by rw [List.length_replicate]; omega)
  have hfree := HO.out.free 0
  have HO1 := Lib.hid (HO.out.set 0 1).1
  have hcell1 := HO1.out.cell (1 + M) (by rw [List.length_set, List.length_replicate]; omega)
  have hfree1 := HO1.out.free (1 + M)
  have hnn3 : ¬ (1 + M = 0) := by omega
  have hnn4 : ¬ (0 = 1 + M) := by omega
  have HO2 : Hid (Own 2 ((w8x.setCell ⟨w7x.heap.size, 0, none⟩ (.int .i64 1)).setCell ⟨w7x.heap.size, 1 + M, none⟩ (.int .i64 1)) w7x.heap.size (.slice (some ⟨w7x.heap.size, 0, none⟩) (1 + M + 1) (1 + M + 1)) (pairL (1 + M))) := Lib.hid (HO1.out.set (1 + M) 1).1
  have HB5 := Lib.hid ((HB4.out.setCell (p := ⟨w7x.heap.size, 0, none⟩) (Nat.le_refl _) (.int .i64 1)).setCell (p := ⟨w7x.heap.size, 1 + M, none⟩) (Nat.le_refl _) (.int .i64 1))
  obtain ⟨w9x, hw9⟩ : ∃ w9x, w9x = (w8x.setCell ⟨w7x.heap.size, 0, none⟩ (.int .i64 1)).setCell ⟨w7x.heap.size, 1 + M, none⟩ (.int .i64 1) := ⟨_, rfl⟩
  rw [← hw9] at HO2 HB5
  replace HBD := Lib.hid (HBD.out.trans (HB5.out.mono hz7))
  replace HG := Lib.hid (HG.out.next HBD.out)
  replace HB := Lib.hid (HB.out.trans (HBD.out.mono HB.out.size))
  replace HR2 := Lib.hid (HR2.out.below HBD.out)
  clear HB4 HO HO1 HB5 HBD
  obtain ⟨c0, c1, f0, f1⟩ := HG.out
  rw [hw9] at c0 c1
  go_wp2_with fail
  rw [← hw9]
  clear hcell hfree hcell1 hfree1 c0 c1 f0 f1 hw9
  refine (isMissed_any wd po _ _ _ HR2.out).mono ?_
  rw [HM1.out]
  rintro e w10x ⟨rfl, hb10⟩
  replace HG := Lib.hid (HG.out.next hb10)
  replace HB := Lib.hid (bthen HB.out hb10)
  replace HO2 := Lib.hid (HO2.out.below hb10)
  clear hb10
  obtain ⟨c0, c1, f0, f1⟩ := HG.out
  go_wp2_with fail
  clear c0 c1 f0 f1
  have hmm := HM2.out (1 + M) (by omega) (by omega)
  by_cases hMN : 1 + M = N
  · have e1 : decide (((1 + M : Nat) : Int) = (N : Int)) = true := decide_eq_true (by omega)
    have e2 : (1 + (M : Int) == (N : Int)) = true := by simp; omega
    rw [e1] at hmm
    clear e1
    refine (isMissed_any wd po _ _ _ HO2.out.rd).mono ?_
    rw [hmm]
    rintro e w11x ⟨rfl, hb11⟩
    replace HB := Lib.hid (bthen HB.out hb11)
    clear hb11 hmm hMN
    go_wp2_with fail
    go_ret
    exact ⟨rfl, HB.out⟩
  · have e1 : decide (((1 + M : Nat) : Int) = (N : Int)) = false := decide_eq_false (by omega)
    have e2 : (1 + (M : Int) == (N : Int)) = false := by simp; omega
    rw [e1] at hmm
    clear e1
    refine (isMissed_any wd po _ _ _ HO2.out.rd).mono ?_
    rw [hmm]
    rintro e w11x ⟨rfl, hb11⟩
    replace HB := Lib.hid (bthen HB.out hb11)
    clear hb11 hmm hMN
    go_wp2_with fail
    go_ret
    exact ⟨rfl, HB.out⟩
end Go.Proofs.Ytmlingcnbdpbmaa