/- Contracts: SumErrors (program and reference). -/
import Derived.Test.YtmlingcnbdpbmaaDiff
import Derived.Deep.RegionLaw
namespace Go.Proofs.Ytmlingcnbdpbmaa
open Go.RowKit
set_option linter.unusedVariables false

theorem bits_at {xs : List Int} (h : isBitsB xs = true) (k : Nat) (hk : k < xs.length) : 0 ≤ xs.getD k 0 ∧ xs.getD k 0 ≤ 1 := allIn_at (isBitsB_yes h).2 k hk
theorem xor_bits {x y : Int} (hx : 0 ≤ x ∧ x ≤ 1) (hy : 0 ≤ y ∧ y ≤ 1) : bits BinOp.xor IntKind.i64 x y = bxor x y := bits_xor x y (by omega) (by omega) (by omega) (by omega)

set_option maxHeartbeats 1000000 in
theorem sumErrors_any (u v : Value) (xs ys : List Int) (w : World) (hr : Rd .i64 w u xs) (hr2 : Rd .i64 w v ys) :
    Calls Try.prog 22 #[u, v] w (OwnRes2 2 w (sumE xs ys).1 (sumE xs ys).2) := by
  have HR := Lib.hid hr
  have HR2 := Lib.hid hr2
  by_cases h0 : twoCode xs ys = 0
  rotate_left
  · have hf : sumE xs ys = ([], twoCode xs ys) := by simp [sumE, h0]
    rw [hf]; clear hf hr hr2
    obtain ⟨c, hc⟩ : ∃ c, c = twoCode xs ys := ⟨_, rfl⟩
    rw [← hc] at h0 ⊢
    have HC := Lib.hid hc
    have hne : (c != 0) = true := by simpa using h0
    clear hc h0
    go_enter Try.func22, Try.ntmps22
    go_wp2_with (go_at_call 52; refine (twoLists_any _ _ xs ys _ HR.out HR2.out).mono ?_; rw [← HC.out]; rintro e w' ⟨rfl, rfl⟩)
    go_ret2
    exact ⟨_, rfl, Own.nil _ _ _, Below.refl _ _⟩
  have hf : sumE xs ys = (xorUpto xs ys xs.length, 0) := by simp [sumE, h0]
  obtain ⟨hb1, hb2, hlen⟩ := twoCode_ok h0
  obtain ⟨hb3, _⟩ := isBitsB_yes hb1
  rw [hf]; clear hf
  have HBX := Lib.hid hb1
  have HBY := Lib.hid hb2
  obtain ⟨a, cap, rfl, hl, hm, hn, hc⟩ := hr
  obtain ⟨a2, cap2, rfl, hl2, hm2, hn2, hc2⟩ := hr2
  obtain ⟨i0, hi, hz0, hz1, hz2⟩ := info_parts infoE
  unfold maxLen at hm hm2
  have HC := Lib.hid hc
  have HC2 := Lib.hid hc2
  have HM := Lib.hid (Own.made 2 w w.heap.size (Nat.le_refl _))
  have HB0 := Lib.hid ((Below.refl w.heap.size w).alloc (Nat.le_refl _) (.cells #[] 2))
  have hly : xs.length ≤ ys.length := by omega
  clear hc hn hc2 hn2 hlen hb1 hb2
  go_enter Try.func22, Try.ntmps22
  go_wp2_with (go_at_call 52; refine (twoLists_any _ _ xs ys _ HR.out HR2.out).mono ?_; rintro e w' ⟨rfl, rfl⟩)
  go_loopw [7, 8, 18] (fun u q i wr => ∃ (k : Nat) (v0 q0 : Value), k ≤ xs.length ∧ v0 = u ∧ q0 = q ∧ i = .int .i64 k ∧ Own 2 wr w.heap.size v0 (xorUpto xs ys k) ∧ Below w.heap.size w wr) (fun _ _ i _ => xs.length - (intOf i).toNat)
  case atStart => exact ⟨0, _, _, Nat.zero_le _, rfl, rfl, rfl, HM.out, HB0.out⟩
  case round =>
    obtain ⟨k, v0, q0, hk, rfl, rfl, rfl, hO, hbw⟩ := hrel
    by_cases hlt : k < xs.length
    · obtain ⟨b, off, rfl, hcell⟩ := HC.out k hlt
      obtain ⟨b2, off2, rfl, hcell2⟩ := HC2.out k (by omega)
      have hc1 : wr.cell? ⟨b, off + k, none⟩ = some (.int .i64 (xs.getD k 0)) := (hbw.cell (p := ⟨b, off + k, none⟩) (World.block_lt_of_cell? w _ hcell)).trans hcell
      have hc2 : wr.cell? ⟨b2, off2 + k, none⟩ = some (.int .i64 (ys.getD k 0)) := (hbw.cell (p := ⟨b2, off2 + k, none⟩) (World.block_lt_of_cell? w _ hcell2)).trans hcell2
      have hxor := xor_bits (bits_at HBX.out k hlt) (bits_at HBY.out k (by omega))
      have hs := xorUpto_succ xs ys k
      have hlen := length_xorUpto xs ys k
      obtain ⟨x, hx⟩ : ∃ x, x = xs.getD k 0 := ⟨_, rfl⟩
      obtain ⟨y, hy⟩ : ∃ y, y = ys.getD k 0 := ⟨_, rfl⟩
      rw [← hx] at hc1 hxor hs
      rw [← hy] at hc2 hxor hs
      obtain ⟨D, hD⟩ : ∃ D, D = xorUpto xs ys k := ⟨_, rfl⟩
      rw [← hD] at hs hO hlen
      have HS := Lib.hid hs
      have HLN := Lib.hid hlen
      have hO2 : Own 2 wr.drew w.heap.size v0 D := hO.drew
      have hB2 : Below w.heap.size w wr.drew := hbw.drew
      have hkx : (k : Int) < (xs.length : Int) := by omega
      have hky : (k : Int) < (ys.length : Int) := by omega
      have hkx2 : (0 : Int) ≤ (k : Int) := by omega
      have HO2 := Lib.hid hO2
      have HB2 := Lib.hid hB2
      clear hcell hcell2 hx hy hs hO hbw hlen hD hO2 hB2
      have hsz2 := HB2.out.size
      have HOA : ∀ o, Hid (Own 2 (wr.alloc o).drew w.heap.size v0 D) := fun o => HO2.out.alloc o
      have HBA : ∀ o, Hid (Below w.heap.size w (wr.alloc o).drew) := fun o => (HB2.out.alloc hsz2 o)
      go_wp2
      go_region_law ((refine step_app1 Try.underlying26 hi hz0 hz1 hz2 rfl _ _ rfl _ wr.heap.size (bxor x y) w.heap.size v0 D rfl rfl (by simp) (HOA _).out (by have := HLN.out; omega) (HBA _).out.size ?_; intro v1 w3 hO3 hb3))
      all_goals
        rw [← HS.out] at hO3
        have HO3 := Lib.hid hO3
        have HB3 := Lib.hid ((HBA _).out.trans hb3)
        clear hO3 hb3 HOA HBA
        go_wp2
        go_roundw
        case rel => exact ⟨k + 1, v1, _, by omega, rfl, rfl, by go_num, HO3.out, HB3.out⟩
        case measure => simp [intOf]; omega
    · have : k = xs.length := by omega
      subst this
      have HO := Lib.hid hO
      have HBW := Lib.hid hbw
      clear hO hbw
      go_wp2
      go_ret2
      exact ⟨_, rfl, HO.out, HBW.out⟩
set_option maxHeartbeats 1000000 in
theorem sSumErrors_any (u v : Value) (xs ys : List Int) (w : World) (hr : Rd .i64 w u xs) (hr2 : Rd .i64 w v ys) :
    Calls Try.prog 23 #[u, v] w (OwnRes2 2 w (sumE xs ys).1 (sumE xs ys).2) := by
  have hr0 := hr
  have hr20 := hr2
  obtain ⟨a, cap, rfl, hl, hm, hn, hc⟩ := hr
  obtain ⟨a2, cap2, rfl, hl2, hm2, hn2, hc2⟩ := hr2
  have HR := Lib.hid hr0
  have HR2 := Lib.hid hr20
  have HC := Lib.hid hc
  have HC2 := Lib.hid hc2
  clear hr0 hr20 hn hn2 hc hc2
  unfold maxLen at hm hm2
  cases h1 : isBitsB xs
  · have hf : sumE xs ys = ([], 1) := by simp [sumE, twoCode, h1]
    rw [hf]; clear hf
    go_enter Try.func23, Try.ntmps23
    go_wp2_with fail
    refine (sIsBits_any _ xs _ HR.out).mono ?_
    rintro e w' ⟨rfl, rfl⟩
    go_wp2_with fail
    go_ret2
    exact ⟨_, rfl, Own.nil _ _ _, Below.refl _ _⟩
  cases h2 : isBitsB ys
  · have hf : sumE xs ys = ([], 1) := by simp [sumE, twoCode, h1, h2]
    rw [hf]; clear hf
    go_enter Try.func23, Try.ntmps23
    go_wp2_with fail
    refine (sIsBits_any _ xs _ HR.out).mono ?_
    rintro e w' ⟨rfl, rfl⟩
    go_wp2_with fail
    refine (sIsBits_any _ ys _ HR2.out).mono ?_
    rintro e w' ⟨rfl, rfl⟩
    go_wp2_with fail
    go_ret2
    exact ⟨_, rfl, Own.nil _ _ _, Below.refl _ _⟩
  by_cases h3 : xs.length = ys.length
  rotate_left
  · have hf : sumE xs ys = ([], 5) := by simp [sumE, twoCode, h1, h2, h3]
    rw [hf]; clear hf
    have hne : ((xs.length : Int) != (ys.length : Int)) = true := by simp; omega
    clear h3
    go_enter Try.func23, Try.ntmps23
    go_wp2_with fail
    refine (sIsBits_any _ xs _ HR.out).mono ?_
    rintro e w' ⟨rfl, rfl⟩
    go_wp2_with fail
    refine (sIsBits_any _ ys _ HR2.out).mono ?_
    rintro e w' ⟨rfl, rfl⟩
    go_wp2_with fail
    go_ret2
    exact ⟨_, rfl, Own.nil _ _ _, Below.refl _ _⟩
  have hf : sumE xs ys = (xorUpto xs ys xs.length, 0) := by simp [sumE, twoCode, h1, h2, h3]
  rw [hf]; clear hf
  have hne : ((xs.length : Int) != (ys.length : Int)) = false := by simp [h3]
  obtain ⟨hb3, _⟩ := isBitsB_yes h1
  have HBX := Lib.hid h1
  have HBY := Lib.hid h2
  obtain ⟨i0, hi, hz0, hz1, hz2⟩ := info_parts infoE
  have HM := Lib.hid (Own.made 2 w w.heap.size (Nat.le_refl _))
  have HB0 := Lib.hid ((Below.refl w.heap.size w).alloc (Nat.le_refl _) (.cells #[] 2))
  have hly : xs.length ≤ ys.length := by omega
  clear h3
  go_enter Try.func23, Try.ntmps23
  go_wp2_with fail
  refine (sIsBits_any _ xs _ HR.out).mono ?_
  rintro e w' ⟨rfl, rfl⟩
  go_wp2_with fail
  refine (sIsBits_any _ ys _ HR2.out).mono ?_
  rintro e w' ⟨rfl, rfl⟩
  go_wp2_with fail
  go_loopw [6, 7] (fun u i wr => ∃ (k : Nat) (v0 : Value), k ≤ xs.length ∧ v0 = u ∧ i = .int .i64 k ∧ Own 2 wr w.heap.size v0 (xorUpto xs ys k) ∧ Below w.heap.size w wr) (fun _ i _ => xs.length - (intOf i).toNat)
  case atStart => exact ⟨0, _, Nat.zero_le _, rfl, rfl, HM.out, HB0.out⟩
  case round =>
    obtain ⟨k, v0, hk, rfl, rfl, hO, hbw⟩ := hrel
    by_cases hlt : k < xs.length
    · obtain ⟨b, off, rfl, hcell⟩ := HC.out k hlt
      obtain ⟨b2, off2, rfl, hcell2⟩ := HC2.out k (by omega)
      have hc1 : wr.cell? ⟨b, off + k, none⟩ = some (.int .i64 (xs.getD k 0)) := (hbw.cell (p := ⟨b, off + k, none⟩) (World.block_lt_of_cell? w _ hcell)).trans hcell
      have hc2 : wr.cell? ⟨b2, off2 + k, none⟩ = some (.int .i64 (ys.getD k 0)) := (hbw.cell (p := ⟨b2, off2 + k, none⟩) (World.block_lt_of_cell? w _ hcell2)).trans hcell2
      have hxor := xor_bits (bits_at HBX.out k hlt) (bits_at HBY.out k (by omega))
      have hs := xorUpto_succ xs ys k
      have hlen := length_xorUpto xs ys k
      obtain ⟨x, hx⟩ : ∃ x, x = xs.getD k 0 := ⟨_, rfl⟩
      obtain ⟨y, hy⟩ : ∃ y, y = ys.getD k 0 := ⟨_, rfl⟩
      rw [← hx] at hc1 hxor hs
      rw [← hy] at hc2 hxor hs
      obtain ⟨D, hD⟩ : ∃ D, D = xorUpto xs ys k := ⟨_, rfl⟩
      rw [← hD] at hs hO hlen
      have HS := Lib.hid hs
      have HLN := Lib.hid hlen
      have hO2 : Own 2 wr.drew w.heap.size v0 D := hO.drew
      have hB2 : Below w.heap.size w wr.drew := hbw.drew
      have hkx : (k : Int) < (xs.length : Int) := by omega
      have hky : (k : Int) < (ys.length : Int) := by omega
      have hkx2 : (0 : Int) ≤ (k : Int) := by omega
      have HO2 := Lib.hid hO2
      have HB2 := Lib.hid hB2
      clear hcell hcell2 hx hy hs hO hbw hlen hD hO2 hB2
      have hsz2 := HB2.out.size
      have HOA : ∀ o, Hid (Own 2 (wr.alloc o).drew w.heap.size v0 D) := fun o => HO2.out.alloc o
      have HBA : ∀ o, Hid (Below w.heap.size w (wr.alloc o).drew) := fun o => (HB2.out.alloc hsz2 o)
      go_wp2
      go_region_law ((refine step_app1 Try.underlying26 hi hz0 hz1 hz2 rfl _ _ rfl _ wr.heap.size (bxor x y) w.heap.size v0 D rfl rfl (by simp) (HOA _).out (by have := HLN.out; omega) (HBA _).out.size ?_; intro v1 w3 hO3 hb3))
      all_goals
        rw [← HS.out] at hO3
        have HO3 := Lib.hid hO3
        have HB3 := Lib.hid ((HBA _).out.trans hb3)
        clear hO3 hb3 HOA HBA
        go_wp2
        go_roundw
        case rel => exact ⟨k + 1, v1, by omega, rfl, by go_num, HO3.out, HB3.out⟩
        case measure => simp [intOf]; omega
    · have : k = xs.length := by omega
      subst this
      have HO := Lib.hid hO
      have HBW := Lib.hid hbw
      clear hO hbw
      go_wp2
      go_ret2
      exact ⟨_, rfl, HO.out, HBW.out⟩
end Go.Proofs.Ytmlingcnbdpbmaa
