/- Contracts: numbers and their bits: appendNumber, l01Append, slices.Clone, numberOf, l01Number. -/
import Derived.Test.YtkhmnkpdlodepaaDoorLists
import Derived.Test.YtkhmnkpdlodepaaDoorApps
import Derived.WalkSpells
namespace Go.Proofs.YtkhmnkpdlodepaaDoor
open Go.RowKit
set_option linter.unusedVariables false

theorem bit_and_nat (m : Int) (c : Nat) (h0 : 0 ≤ m) (h1 : m ≤ 9223372036854775807) : bits BinOp.and IntKind.i64 (m / 2 ^ c) 1 = bitB m c := by
  have := bit_and m (c : Int) h0 h1
  simpa using this
theorem bitsUpto_down (x : Int) (n c : Nat) (h : c + 1 ≤ n) : bitsUpto x n (n - (c + 1)) ++ [bitB x c] = bitsUpto x n (n - c) := by
  have e : n - c = (n - (c + 1)) + 1 := by omega
  rw [e, bitsUpto_succ]
  have e2 : ((n : Int) - 1 - ((n - (c + 1) : Nat) : Int)) = (c : Int) := by omega
  rw [e2]

set_option maxHeartbeats 400000 in
theorem appendNumber_any (v : Value) (xs : List Int) (B : Nat) (x n : Int) (w : World) (hO : Own 2 w B v xs) (hl : xs.length ≤ 4294967296) (hB : B ≤ w.heap.size)
    (hx : 0 ≤ x) (hx2 : x ≤ 9223372036854775807) (hn : 0 ≤ n) (hn2 : n ≤ 62) :
    Calls Tryd.prog 45 #[v, .int .i64 x, .int .i64 n] w fun e w' => ∃ v', e = .returned v' ∧ Own 2 w' B v' (xs ++ bitsOf x n.toNat) ∧ Below B w w' := by
  obtain ⟨N, rfl⟩ := Int.eq_ofNat_of_zero_le hn
  rw [Int.toNat_natCast]
  obtain ⟨i0, hi, hz0, hz1, hz2⟩ := info_parts infoE
  have HO := Lib.hid hO
  clear hO
  go_enter Tryd.func45, Tryd.ntmps45
  go_wp2
  go_loopw [0, 7] (fun u i wr => ∃ (c : Nat) (v0 : Value), c ≤ N ∧ v0 = u ∧ i = .int .i64 ((c : Int) - 1) ∧ Own 2 wr B v0 (xs ++ bitsUpto x N (N - c)) ∧ Below B w wr) (fun _ i _ => (intOf i + 1).toNat)
  case atStart => exact ⟨N, v, Nat.le_refl _, rfl, rfl, by rw [Nat.sub_self]; simpa [bitsUpto] using HO.out, Below.refl _ _⟩
  case round =>
    obtain ⟨c, v0, hc, rfl, rfl, hO, hb⟩ := hrel
    have hsz := hb.size
    cases c with
    | zero =>
      have e0 : ((0 : Nat) : Int) - 1 = -1 := by decide
      rw [e0]
      have HO2 := Lib.hid hO
      have HB := Lib.hid hb
      clear hO hb
      go_wp2
      go_ret
      exact ⟨_, rfl, HO2.out, HB.out⟩
    | succ c =>
      have e0 : ((c + 1 : Nat) : Int) - 1 = (c : Int) := by omega
      have hbit := bit_and_nat x c hx hx2
      have hlen : (xs ++ bitsUpto x N (N - (c + 1))).length ≤ 1099511627776 := by rw [List.length_append, length_bitsUpto]; omega
      rw [e0]
      have HO2 := Lib.hid hO
      have HB := Lib.hid hb
      have HL := Lib.hid hlen
      clear hO hb e0 hlen
      go_wp2_with (at_builtin; refine wpList_app1 Tryd.underlying31 hi hz0 hz1 hz2 rfl _ _ rfl wr (bitB x c) B v0 (xs ++ bitsUpto x N (N - (c + 1))) rfl rfl HO2.out HL.out (by omega) ?_)
      intro v' w1 hO' hb' _
      rw [bitsUpto_down x N c (by omega)] at hO'
      have HO3 := Lib.hid hO'
      have HB3 := Lib.hid (HB.out.trans hb')
      clear hO' hb' hbit
      go_wp2
      go_roundw
      case rel => exact ⟨c, v', by omega, rfl, rfl, HO3.out, HB3.out⟩
      case measure => simp [intOf]
set_option maxHeartbeats 400000 in
theorem l01Append_any (v : Value) (xs : List Int) (x n : Int) (w : World) (hr : Rd .i64 w v xs) (hl : xs.length ≤ 4294967296)
    (hx : 0 ≤ x) (hx2 : x ≤ 9223372036854775807) (hn : 0 ≤ n) (hn2 : n ≤ 62) :
    Calls Tryd.prog 46 #[v, .int .i64 x, .int .i64 n] w (OwnRes 2 w (xs ++ bitsOf x n.toNat)) := by
  obtain ⟨N, rfl⟩ := Int.eq_ofNat_of_zero_le hn
  rw [Int.toNat_natCast]
  obtain ⟨i0, hi, hz0, hz1, hz2⟩ := info_parts infoE
  have hM := Own.made 2 w w.heap.size (Nat.le_refl _)
  have hr2 := hr.below ((Below.refl w.heap.size w).alloc (Nat.le_refl _) (.cells #[] 2))
  have HM := Lib.hid hM
  have HR := Lib.hid hr2
  have HZ := Lib.hid (rfl : (xs ++ bitsOf x N).length = (xs ++ bitsOf x N).length)
  clear hM hr2 hr HZ
  go_enter Tryd.func46, Tryd.ntmps46
  go_wp2_with (at_builtin; refine wpList_appAll Tryd.underlying31 hi hz0 hz1 hz2 rfl _ _ rfl _ w.heap.size (.slice (some ⟨w.heap.size, 0, none⟩) 0 0) v [] xs rfl rfl HM.out HR.out (by simp) (by omega) (by simp) ?_)
  intro v' w1 hO' hb' _
  have HO' := Lib.hid hO'
  have HB' := Lib.hid (((Below.refl w.heap.size w).alloc (Nat.le_refl _) (.cells #[] 2)).trans hb')
  clear hO' hb'
  go_wp2
  go_loopw [7, 8] (fun u i wr => ∃ (c : Nat) (v0 : Value), c ≤ N ∧ v0 = u ∧ i = .int .i64 ((c : Int) - 1) ∧ Own 2 wr w.heap.size v0 (xs ++ bitsUpto x N (N - c)) ∧ Below w.heap.size w wr) (fun _ i _ => (intOf i + 1).toNat)
  case atStart => exact ⟨N, v', Nat.le_refl _, rfl, rfl, by rw [Nat.sub_self]; simpa [bitsUpto] using HO'.out, HB'.out⟩
  case round =>
    obtain ⟨c, v0, hc, rfl, rfl, hO, hb⟩ := hrel
    have hsz := hb.size
    cases c with
    | zero =>
      have e0 : ((0 : Nat) : Int) - 1 = -1 := by decide
      rw [e0]
      have HO2 := Lib.hid hO
      have HB := Lib.hid hb
      clear hO hb
      go_wp2
      go_ret
      exact ⟨_, rfl, HO2.out, HB.out⟩
    | succ c =>
      have e0 : ((c + 1 : Nat) : Int) - 1 = (c : Int) := by omega
      have hbit := bit_and_nat x c hx hx2
      have hlen : (xs ++ bitsUpto x N (N - (c + 1))).length ≤ 1099511627776 := by rw [List.length_append, length_bitsUpto]; omega
      rw [e0]
      have HO2 := Lib.hid hO
      have HB := Lib.hid hb
      have HL := Lib.hid hlen
      clear hO hb e0 hlen
      go_wp2_with (at_builtin; refine wpList_app1 Tryd.underlying31 hi hz0 hz1 hz2 rfl _ _ rfl wr (bitB x c) w.heap.size v0 (xs ++ bitsUpto x N (N - (c + 1))) rfl rfl HO2.out HL.out (by omega) ?_)
      intro v2 w2 hO' hb' _
      rw [bitsUpto_down x N c (by omega)] at hO'
      have HO3 := Lib.hid hO'
      have HB3 := Lib.hid (HB.out.trans hb')
      clear hO' hb' hbit
      go_wp2
      go_roundw
      case rel => exact ⟨c, v2, by omega, rfl, rfl, HO3.out, HB3.out⟩
      case measure => simp [intOf]
theorem numberOf_any (v : Value) (xs : List Int) (w : World) (hr : Rd .i64 w v xs) (hb : allIn xs 0 1 = true) (hl : xs.length ≤ 60) :
    Calls Tryd.prog 48 #[v] w fun e w' => e = .returned (.int .i64 (numOf xs)) ∧ w = w' := by
  obtain ⟨a, cap, rfl, hl2, hm, hn, hc⟩ := hr
  have HC := Lib.hid hc
  have HBT := Lib.hid hb
  unfold maxLen at hm
  clear hc hn hb
  go_enter Tryd.func48, Tryd.ntmps48
  go_wp2
  go_loop [3, 8] (fun m i => ∃ k : Nat, k ≤ xs.length ∧ i = .int .i64 k ∧ m = .int .i64 (numOf (xs.take k))) (fun _ i => xs.length - (intOf i).toNat)
  case atStart => exact ⟨0, Nat.zero_le _, rfl, rfl⟩
  case round =>
    obtain ⟨k, hk, rfl, rfl⟩ := hrel
    by_cases hlt : k < xs.length
    · obtain ⟨b, off, rfl, hcell⟩ := HC.out k hlt
      have hq := numOf_le (k := 60) (c := 1152921504606846976) (allIn_take k HBT.out) (by rw [List.length_take]; omega) (by decide)
      have hx := allIn_at HBT.out k hlt
      have hs : numOf (xs.take (k + 1)) = 2 * numOf (xs.take k) + xs.getD k 0 := by rw [take_succ_getD xs k hlt, numOf_snoc]
      have HS := Lib.hid hs
      clear hs
      obtain ⟨q, hq0⟩ : ∃ q, q = numOf (xs.take k) := ⟨_, rfl⟩
      obtain ⟨x, hx0⟩ : ∃ x, x = xs.getD k 0 := ⟨_, rfl⟩
      have HS2 : Hid (numOf (xs.take (k + 1)) = 2 * q + x) := by rw [hq0, hx0]; exact HS.out
      clear HS
      rw [← hq0] at hq ⊢
      rw [← hx0] at hx hcell
      clear hq0 hx0
      obtain ⟨hq1, hq2⟩ := hq
      obtain ⟨hx1, hx2⟩ := hx
      go_wp2
      go_round
      case rel => exact ⟨k + 1, by omega, by go_num, by rw [HS2.out]⟩
      case measure => simp [intOf]; omega
    · have : k = xs.length := by omega
      subst this
      rw [List.take_length]
      go_wp2
      go_ret
      exact ⟨rfl, rfl⟩
theorem l01Number_any (v : Value) (xs : List Int) (at0 n : Nat) (w : World) (hr : Rd .i64 w v xs) (hb : allIn xs 0 1 = true) (hl : n ≤ 60) (ha : at0 + n ≤ xs.length) :
    Calls Tryd.prog 50 #[v, .int .i64 (at0 : Int), .int .i64 (n : Int)] w fun e w' => e = .returned (.int .i64 (numOf ((xs.drop at0).take n))) ∧ w = w' := by
  obtain ⟨a, cap, rfl, hl2, hm, hn, hc⟩ := hr
  have hc' := slice_rd hc at0 n ha
  have hlen : ((xs.drop at0).take n).length = n := by rw [List.length_take, List.length_drop]; omega
  have hbt : allIn ((xs.drop at0).take n) 0 1 = true := allIn_take _ (allIn_drop _ hb)
  obtain ⟨ys, hys⟩ : ∃ ys, ys = (xs.drop at0).take n := ⟨_, rfl⟩
  rw [← hys] at hc' hlen hbt ⊢
  have HC := Lib.hid hc'
  have HBT := Lib.hid hbt
  have HL := Lib.hid hlen
  unfold maxLen at hm
  clear hc hn hb hc' hbt hlen hys
  go_enter Tryd.func50, Tryd.ntmps50
  go_wp2
  go_loop [7, 8] (fun m i => ∃ k : Nat, k ≤ n ∧ i = .int .i64 k ∧ m = .int .i64 (numOf (ys.take k))) (fun _ i => n - (intOf i).toNat)
  case atStart => exact ⟨0, Nat.zero_le _, rfl, rfl⟩
  case round =>
    obtain ⟨k, hk, rfl, rfl⟩ := hrel
    by_cases hlt : k < n
    · obtain ⟨b, off, rfl, hcell⟩ := HC.out k hlt
      have hltx : k < ys.length := by rw [HL.out]; exact hlt
      have hq := numOf_le (k := 60) (c := 1152921504606846976) (allIn_take k HBT.out) (by rw [List.length_take]; omega) (by decide)
      have hx := allIn_at HBT.out k hltx
      have hs : numOf (ys.take (k + 1)) = 2 * numOf (ys.take k) + ys.getD k 0 := by rw [take_succ_getD ys k hltx, numOf_snoc]
      have HS := Lib.hid hs
      clear hs
      obtain ⟨q, hq0⟩ : ∃ q, q = numOf (ys.take k) := ⟨_, rfl⟩
      obtain ⟨x, hx0⟩ : ∃ x, x = ys.getD k 0 := ⟨_, rfl⟩
      have HS2 : Hid (numOf (ys.take (k + 1)) = 2 * q + x) := by rw [hq0, hx0]; exact HS.out
      clear HS
      rw [← hq0] at hq ⊢
      rw [← hx0] at hx hcell
      clear hq0 hx0
      obtain ⟨hq1, hq2⟩ := hq
      obtain ⟨hx1, hx2⟩ := hx
      rw [Nat.add_assoc] at hcell
      go_wp2
      go_round
      case rel => exact ⟨k + 1, by omega, by go_num, by rw [HS2.out]⟩
      case measure => simp [intOf]; omega
    · have : k = n := by omega
      subst this
      have he : ys.take k = ys := List.take_of_length_le (by rw [HL.out]; exact Nat.le_refl _)
      rw [he]
      clear he
      go_wp2
      go_ret
      exact ⟨rfl, rfl⟩
end Go.Proofs.YtkhmnkpdlodepaaDoor
