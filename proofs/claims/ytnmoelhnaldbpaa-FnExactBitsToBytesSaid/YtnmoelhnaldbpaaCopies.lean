/- Contracts: the laws' helpers on lists: toInt64S copies, eqInt64S compares, markInt64S and heldInt64S mark and look at marks. -/
import Derived.Test.YtnmoelhnaldbpaaLists
namespace Go.Proofs.Ytnmoelhnaldbpaa
open Go.RowKit
set_option linter.unusedVariables false

set_option maxHeartbeats 400000 in
theorem toInt64S_any (v : Value) (xs : List Int) (w : World) (hr : Rd .i64 w v xs) (hsz : xs.length ≤ 4294967296) : Calls Try.prog 16 #[v] w (OwnRes 2 w xs) := by
  obtain ⟨a, cap, rfl, hl, hm, hn, hc⟩ := hr
  unfold maxLen at hm
  obtain ⟨i0, hi, hz0, hz1, hz2⟩ := info_parts infoE
  have hB := Lib.hid (rfl : w.heap.size = w.heap.size)
  have HC := Lib.hid hc
  clear hc hn
  go_enter Try.func16, Try.ntmps16
  go_wp2_with (at_make; refine wpList_make_full _ rfl _ _ 22 rfl w.heap.size 2 i0 (.int .i64 0) 1 Try.underlying22 hi hz0 hz1 .i64 .i64 (xs.length : Int) (xs.length : Int) xs.length rfl rfl rfl rfl (by rw [hz2]; omega) (by unfold maxLen; omega) (Nat.le_refl _) ?_)
  intro w1 hown hgrow
  have hO : Own 2 w1 w.heap.size (.slice (some ⟨w.heap.size, 0, none⟩) xs.length xs.length) (fill xs 0) := by
    unfold Own
    rw [length_fill xs 0 (Nat.zero_le _), fill_zero]
    have e : (madeCells #[Value.int IntKind.i64 0] xs.length).toList = (List.replicate xs.length 0).map (Value.int .i64) := by
      simp [toList_madeCells_one]
    rw [← e]; exact hown
  have hb1 : Below w.heap.size w w1 := below_of_grown hgrow (Nat.le_refl _) (fun k h => by cases h)
  clear hown hgrow
  go_wp2
  go_loopw [4] (fun i wr => ∃ k : Nat, k ≤ xs.length ∧ i = .int .i64 k ∧ Own 2 wr w.heap.size (.slice (some ⟨w.heap.size, 0, none⟩) xs.length xs.length) (fill xs k) ∧ Below w.heap.size w wr) (fun i _ => xs.length - (intOf i).toNat)
  case atStart => exact ⟨0, Nat.zero_le _, rfl, hO, hb1⟩
  case round =>
    clear hO hb1
    obtain ⟨k, hk, rfl, hO, hb⟩ := hrel
    by_cases hlt : k < xs.length
    · obtain ⟨b, off, rfl, hcell⟩ := HC.out k hlt
      have hbl : b < w.heap.size := World.block_lt_of_cell? w _ hcell
      have hcell2 : wr.cell? ⟨b, off + k, none⟩ = some (.int .i64 (xs.getD k 0)) := (hb.cell (p := ⟨b, off + k, none⟩) hbl).trans hcell
      have hlen := length_fill xs k hk
      have ho1 := hO.cell k (by omega)
      have ho2 := hO.free k
      have hs := hO.set k (xs.getD k 0)
      rw [fill_set xs k hlt] at hs
      obtain ⟨hs1, hs2⟩ := hs
      have hb2 := hb.setCell (p := ⟨w.heap.size, k, none⟩) (Nat.le_refl _) (.int .i64 (xs.getD k 0))
      obtain ⟨x, hx⟩ : ∃ x, x = xs.getD k 0 := ⟨_, rfl⟩
      rw [← hx] at hcell2 hs1 hb2
      have HS1 := Lib.hid hs1
      have HB2 := Lib.hid hb2
      clear hcell hs1 hs2 hb2 hx hlen
      go_wp2
      go_roundw
      case rel => exact ⟨k + 1, by omega, by go_num, HS1.out, HB2.out⟩
      case measure => simp [intOf]; omega
    · have : k = xs.length := by omega
      subst this
      have HO := Lib.hid hO
      have HB := Lib.hid hb
      clear hO hb
      go_wp2
      go_ret
      exact ⟨_, rfl, by have := HO.out; rwa [fill_all] at this, HB.out⟩
set_option maxHeartbeats 400000 in
theorem eqInt64S_any (u v : Value) (xs ys : List Int) (w : World) (hr : Rd .i64 w u xs) (hr2 : Rd .i64 w v ys) : Calls Try.prog 18 #[u, v] w fun e w' => e = .returned (.bool (eqB xs ys)) ∧ Below w.heap.size w w' := by
  obtain ⟨a, cap, rfl, hl, hm, hn, hc⟩ := hr
  obtain ⟨a2, cap2, rfl, hl2, hm2, hn2, hc2⟩ := hr2
  unfold maxLen at hm hm2
  have HC := Lib.hid hc
  have HC2 := Lib.hid hc2
  clear hc hn hc2 hn2
  by_cases hlen : xs.length = ys.length
  rotate_left
  · have hf : eqB xs ys = false := eqB_len hlen
    have HF := Lib.hid hf
    have hne : ((xs.length : Int) == (ys.length : Int)) = false := by simp; omega
    have hne2 : ((xs.length : Int) != (ys.length : Int)) = true := by simp; omega
    clear hf hlen
    go_enter Try.func18, Try.ntmps18
    go_wp2
    go_ret
    exact ⟨by rw [HF.out]; rfl, Below.refl _ _⟩
  have hne : ((ys.length : Int) != (ys.length : Int)) = false := by simp
  have hl' : ys.length ≤ cap := by omega
  have HL := Lib.hid hlen
  rw [hlen]
  clear hlen hl
  go_enter Try.func18, Try.ntmps18
  go_wp2
  go_loopw [5] (fun i wr => ∃ k : Nat, k ≤ ys.length ∧ i = .int .i64 k ∧ xs.take k = ys.take k ∧ Below w.heap.size w wr) (fun i _ => ys.length - (intOf i).toNat)
  case atStart => exact ⟨0, Nat.zero_le _, rfl, rfl, Below.refl _ _⟩
  case round =>
    obtain ⟨k, hk, rfl, ht, hb⟩ := hrel
    have HT := Lib.hid ht
    clear ht
    by_cases hlt : k < ys.length
    · have hltx : k < xs.length := by rw [HL.out]; exact hlt
      obtain ⟨b, off, rfl, hcell⟩ := HC.out k hltx
      obtain ⟨b2, off2, rfl, hcell2⟩ := HC2.out k hlt
      have hbl : b < w.heap.size := World.block_lt_of_cell? w _ hcell
      have hbl2 : b2 < w.heap.size := World.block_lt_of_cell? w _ hcell2
      have hc1 : wr.cell? ⟨b, off + k, none⟩ = some (.int .i64 (xs.getD k 0)) := (hb.cell (p := ⟨b, off + k, none⟩) hbl).trans hcell
      have hc2 : wr.cell? ⟨b2, off2 + k, none⟩ = some (.int .i64 (ys.getD k 0)) := (hb.cell (p := ⟨b2, off2 + k, none⟩) hbl2).trans hcell2
      have hTx := take_succ_getD xs k hltx
      have hTy := take_succ_getD ys k hlt
      have hat : xs.getD k 0 ≠ ys.getD k 0 → eqB xs ys = false := fun h => eqB_at k h
      obtain ⟨x, hx⟩ : ∃ x, x = xs.getD k 0 := ⟨_, rfl⟩
      obtain ⟨y, hy⟩ : ∃ y, y = ys.getD k 0 := ⟨_, rfl⟩
      rw [← hx] at hc1 hTx hat
      rw [← hy] at hc2 hTy hat
      have HTX := Lib.hid hTx
      have HTY := Lib.hid hTy
      have HAT := Lib.hid hat
      have hkx : (k : Int) < (ys.length : Int) := by omega
      have hkx2 : (0 : Int) ≤ (k : Int) := by omega
      clear hcell hcell2 hTx hTy hx hy hat
      by_cases hxy : x = y
      · have hxy1 : (x != y) = false := by simp [hxy]
        have HXY := Lib.hid hxy
        clear hxy
        go_wp2
        go_quiet (fail)
        go_wp2
        go_roundw
        case rel => exact ⟨k + 1, by omega, by go_num, by rw [HTX.out, HTY.out, HT.out, HXY.out], below_drewN hb _⟩
        case measure => simp [intOf]; omega
      · have hxy1 : (x != y) = true := by simp [hxy]
        have HXY := Lib.hid hxy
        clear hxy
        go_wp2
        go_quiet (fail)
        go_wp2
        go_ret
        exact ⟨by rw [HAT.out HXY.out]; rfl, below_drewN hb _⟩
    · have : k = ys.length := by omega
      subst this
      have HB := Lib.hid hb
      clear hb
      go_wp2
      go_ret
      refine ⟨?_, HB.out⟩
      have e : xs = ys := by
        have h1 := HT.out
        rw [List.take_length] at h1
        have h2 : xs.take ys.length = xs := List.take_of_length_le (by rw [HL.out]; exact Nat.le_refl _)
        rw [h2] at h1; exact h1
      rw [e, eqB_self]; rfl
set_option maxHeartbeats 400000 in
theorem markInt64S_any (v : Value) (xs : List Int) (k : Int) (B : Nat) (w : World) (hO : Own 2 w B v xs) (hk0 : 0 ≤ k) (hk1 : k ≤ 4294967296) (hk2 : xs.length ≤ 4294967296) :
    Calls Try.prog 23 #[v, .int .i64 k] w fun e w' => e = .returned (.int .i64 (k + (xs.length : Int))) ∧ Own 2 w' B v (marks k xs.length) ∧ w.grownBy w' v.ownBlock := by
  rcases hO.shape with ⟨rfl, rfl⟩ | ⟨g, cap, rfl, hBg, hgs, hlc, hcm⟩
  · go_enter Try.func23, Try.ntmps23
    go_wp2
    refine wp_loop_rounds 1 ?_
    rw [rounds_succ]
    go_wp2
    go_ret
    exact ⟨by simp, hO, World.grownBy.refl _ _⟩
  · unfold maxLen at hcm
    have HO := Lib.hid hO
    clear hO
    go_enter Try.func23, Try.ntmps23
    go_wp2
    go_loopw [1, 5] (fun m i wr => ∃ j : Nat, j ≤ xs.length ∧ i = .int .i64 j ∧ m = .int .i64 (k + (j : Int)) ∧ Own 2 wr B (.slice (some ⟨g, 0, none⟩) xs.length cap) (marked k xs j) ∧ w.grownBy wr (some g)) (fun _ i _ => xs.length - (intOf i).toNat)
    case atStart => exact ⟨0, Nat.zero_le _, rfl, by simp, by rw [marked_zero]; exact HO.out, World.grownBy.refl _ _⟩
    case round =>
      obtain ⟨j, hj, rfl, rfl, hO, hg⟩ := hrel
      by_cases hlt : j < xs.length
      · have hlen := length_marked k xs j hj
        have ho1 := hO.cell j (by omega)
        have ho2 := hO.free j
        have hs := hO.set j (k + (j : Int))
        rw [marked_set k xs j hlt] at hs
        have HS := Lib.hid hs.1
        have HG := Lib.hid (grownBy_trans hg hs.2)
        obtain ⟨x, hx⟩ : ∃ x, x = (marked k xs j).getD j 0 := ⟨_, rfl⟩
        rw [← hx] at ho1
        clear hlen hs hx hO hg
        go_wp2
        go_roundw
        case rel => exact ⟨j + 1, by omega, by go_num, by go_num, HS.out, HG.out⟩
        case measure => simp [intOf]; omega
      · have : j = xs.length := by omega
        subst this
        have HO2 := Lib.hid hO
        have HG := Lib.hid hg
        clear hO hg
        go_wp2
        go_ret
        exact ⟨rfl, by have := HO2.out; rwa [marked_all] at this, HG.out⟩
theorem heldInt64S_any (v : Value) (k : Int) (n : Nat) (w : World) (hr : Rd .i64 w v (marks k n)) (hk0 : 0 ≤ k) (hk1 : k ≤ 4294967296) (hk2 : n ≤ 4294967296) :
    Calls Try.prog 24 #[v, .int .i64 k] w fun e w' => e = .returned (.int .i64 (k + (n : Int))) ∧ w = w' := by
  obtain ⟨a, cap, rfl, hl, hm, hn, hc⟩ := hr
  unfold RdA at hc
  rw [length_marks] at hl hc ⊢
  unfold maxLen at hm
  have HC := Lib.hid hc
  clear hc hn
  go_enter Try.func24, Try.ntmps24
  go_wp2
  go_loop [1, 5] (fun m i => ∃ j : Nat, j ≤ n ∧ i = .int .i64 j ∧ m = .int .i64 (k + (j : Int))) (fun _ i => n - (intOf i).toNat)
  case atStart => exact ⟨0, Nat.zero_le _, rfl, by simp⟩
  case round =>
    obtain ⟨j, hj, rfl, rfl⟩ := hrel
    by_cases hlt : j < n
    · obtain ⟨b, off, rfl, hcell⟩ := HC.out j hlt
      rw [marks_getD k n j hlt] at hcell
      have hne : (k + (j : Int) != k + (j : Int)) = false := by simp
      go_wp2
      go_round
      case rel => exact ⟨j + 1, by omega, by go_num, by go_num⟩
      case measure => simp [intOf]; omega
    · have : j = n := by omega
      subst this
      go_wp2
      go_ret
      exact ⟨rfl, rfl⟩
end Go.Proofs.Ytnmoelhnaldbpaa
