/- Contracts: numbers and their bits: appendNumber, l01Append, slices.Clone, numberOf, l01Number. -/
import Derived.Test.YtmlingcnbdpbmaaLists
import Derived.Test.YtmlingcnbdpbmaaApps
import Derived.WalkSpells
namespace Go.Proofs.Ytmlingcnbdpbmaa
open Go.RowKit
set_option linter.unusedVariables false

theorem bit_and_nat (m : Int) (c : Nat) (h0 : 0 ≤ m) (h1 : m ≤ 9223372036854775807) : bits BinOp.and IntKind.i64 (m / 2 ^ c) 1 = bitB m c := by
  have := bit_and m (c : Int) h0 h1
  simpa using this
theorem bitsUpto_down (x : Int) (n c : Nat) (h : c + 1 ≤ n) : bitsUpto x n (n - (c + 1)) ++ [bitB x c] = bitsUpto x n (n - c) := by
  have e : n - c = (n - (c + 1)) + 1 := by omega
  rw [e, bitsUpto_succ]
  have e2 : ((n : Int) - 1 - ((n - (c + 1) : Nat) : Int)) = (c : Int) := by omega
  rw [e2]

set_option maxHeartbeats 400000 in
theorem l01Append_any (v : Value) (xs : List Int) (x n : Int) (w : World) (hr : Rd .i64 w v xs) (hl : xs.length ≤ 4294967296)
    (hx : 0 ≤ x) (hx2 : x ≤ 9223372036854775807) (hn : 0 ≤ n) (hn2 : n ≤ 62) :
    Calls Try.prog 44 #[v, .int .i64 x, .int .i64 n] w (OwnRes 2 w (xs ++ bitsOf x n.toNat)) := by
  obtain ⟨N, rfl⟩ := Int.eq_ofNat_of_zero_le hn
  rw [Int.toNat_natCast]
  obtain ⟨i0, hi, hz0, hz1, hz2⟩ := info_parts infoE
  have hM := Own.made 2 w w.heap.size (Nat.le_refl _)
  have hr2 := hr.below ((Below.refl w.heap.size w).alloc (Nat.le_refl _) (.cells #[] 2))
  have HM := Lib.hid hM
  have HR := Lib.hid hr2
  have HZ := Lib.hid (rfl : (xs ++ bitsOf x N).length = (xs ++ bitsOf x N).length)
  clear hM hr2 hr HZ
  go_enter Try.func44, Try.ntmps44
  go_wp2_with (at_builtin; refine wpList_appAll Try.underlying26 hi hz0 hz1 hz2 rfl _ _ rfl _ w.heap.size (.slice (some ⟨w.heap.size, 0, none⟩) 0 0) v [] xs rfl rfl HM.out HR.out (by simp) (by omega) (by simp) ?_)
  intro v' w1 hO' hb' _
  have HO' := Lib.hid hO'
  have HB' := Lib.hid (((Below.refl w.heap.size w).alloc (Nat.le_refl _) (.cells #[] 2)).trans hb')
  clear hO' hb'
  go_wp2
  go_loopw [7, 8] (fun u i wr => ∃ (c : Nat) (v0 : Value), c ≤ N ∧ v0 = u ∧ i = .int .i64 ((c : Int) - 1) ∧ Own 2 wr w.heap.size v0 (xs ++ bitsUpto x N (N - c)) ∧ Below w.heap.size w wr) (fun _ i _ => (intOf i + 1).toNat)
  case atStart => exact ⟨N, v', Nat.le_refl _, rfl, rfl, by rw [Nat.sub_self]; simpa [bitsUpto] using HO'.out, HB'.out⟩
  case round =>
    obtain ⟨c, v0, hc, rfl, rfl, hO, hb⟩ := hrel
    have hsz := hb.size
    cases c with
    | zero =>
      have e0 : ((0 : Nat) : Int) - 1 = -1 := by decide
      rw [e0]
      have HO2 := Lib.hid hO
      have HB := Lib.hid hb
      clear hO hb
      go_wp2
      go_ret
      exact ⟨_, rfl, HO2.out, HB.out⟩
    | succ c =>
      have e0 : ((c + 1 : Nat) : Int) - 1 = (c : Int) := by omega
      have hbit := bit_and_nat x c hx hx2
      have hlen : (xs ++ bitsUpto x N (N - (c + 1))).length ≤ 1099511627776 := by rw [List.length_append, length_bitsUpto]; omega
      rw [e0]
      have HO2 := Lib.hid hO
      have HB := Lib.hid hb
      have HL := Lib.hid hlen
      clear hO hb e0 hlen
      go_wp2_with (at_builtin; refine wpList_app1 Try.underlying26 hi hz0 hz1 hz2 rfl _ _ rfl wr (bitB x c) w.heap.size v0 (xs ++ bitsUpto x N (N - (c + 1))) rfl rfl HO2.out HL.out (by omega) ?_)
      intro v2 w2 hO' hb' _
      rw [bitsUpto_down x N c (by omega)] at hO'
      have HO3 := Lib.hid hO'
      have HB3 := Lib.hid (HB.out.trans hb')
      clear hO' hb' hbit
      go_wp2
      go_roundw
      case rel => exact ⟨c, v2, by omega, rfl, rfl, HO3.out, HB3.out⟩
      case measure => simp [intOf]
theorem clone_any (v : Value) (xs : List Int) (w : World) (hr : Rd .i64 w v xs) (hl : xs.length ≤ 4294967296) :
    Calls Try.prog 59 #[v] w (OwnRes 2 w xs) := by
  have hr0 := hr
  obtain ⟨a, cap, rfl, hl2, hm, hn, hc⟩ := hr
  obtain ⟨i0, hi, hz0, hz1, hz2⟩ := info_parts infoE
  have heq := fun wx => Lib.run_eql_slice_nil (P := Try.prog) wx 26 2 a xs.length cap 0 0 Try.underlying26
  have hM := Own.made 2 w w.heap.size (Nat.le_refl _)
  have hr2 := hr0.below ((Below.refl w.heap.size w).alloc (Nat.le_refl _) (.cells #[] 2))
  have HM := Lib.hid hM
  have HR := Lib.hid hr2
  have HN := Lib.hid hn
  clear hM hr2 hr0 hc hn
  cases a with
  | none =>
    have hx : xs = [] := List.eq_nil_of_length_eq_zero (by have := HN.out rfl; omega)
    subst hx
    have heq0 := fun wx => Lib.run_eql_slice_nil (P := Try.prog) wx 26 2 none 0 cap 0 0 Try.underlying26
    clear heq HM HR
    go_enter Try.func59, Try.ntmps59
    go_wp2
    go_ret
    exact ⟨_, rfl, Own.nil _ _ _, Below.refl _ _⟩
  | some a =>
    go_enter Try.func59, Try.ntmps59
    go_wp2_with (at_builtin; refine wpList_appAll Try.underlying26 hi hz0 hz1 hz2 rfl _ _ rfl _ w.heap.size (.slice (some ⟨w.heap.size, 0, none⟩) 0 0) (.slice (some a) xs.length cap) [] xs rfl rfl HM.out HR.out (by simp) (by omega) (by simp) ?_)
    intro v' w1 hO' hb' _
    have HO' := Lib.hid hO'
    have HB' := Lib.hid (((Below.refl w.heap.size w).alloc (Nat.le_refl _) (.cells #[] 2)).trans hb')
    clear hO' hb'
    go_wp2
    go_ret
    exact ⟨_, rfl, by simpa using HO'.out, HB'.out⟩
end Go.Proofs.Ytmlingcnbdpbmaa
