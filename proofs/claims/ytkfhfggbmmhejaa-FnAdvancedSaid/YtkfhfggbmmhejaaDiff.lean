/- Contracts: two lists: twoLists, differing, l01Differ, DifferingBits, SumErrors (program and reference). -/
import Derived.Test.YtkfhfggbmmhejaaLists
import Derived.Test.YtkfhfggbmmhejaaApps
import Derived.StillTailTactics
namespace Go.Proofs.Ytkfhfggbmmhejaa
open Go.RowKit
set_option linter.unusedVariables false

/-- The code for two bit lists. -/
def twoCode (xs ys : List Int) : Int := if isBitsB xs = false then 1 else if isBitsB ys = false then 1 else if xs.length = ys.length then 0 else 5
theorem twoCode_ok {xs ys : List Int} (h : twoCode xs ys = 0) : isBitsB xs = true ∧ isBitsB ys = true ∧ xs.length = ys.length := by
  unfold twoCode at h
  cases h1 : isBitsB xs
  · simp [h1] at h
  · cases h2 : isBitsB ys
    · simp [h1, h2] at h
    · by_cases h3 : xs.length = ys.length
      · exact ⟨rfl, rfl, h3⟩
      · simp [h1, h2, h3] at h
theorem twoCode_range (xs ys : List Int) : twoCode xs ys = 0 ∨ twoCode xs ys = 1 ∨ twoCode xs ys = 5 := by
  unfold twoCode
  split
  · exact .inr (.inl rfl)
  · split
    · exact .inr (.inl rfl)
    · split
      · exact .inl rfl
      · exact .inr (.inr rfl)
/-- The indices of the first k at which two lists differ. -/
def diffUpto (xs ys : List Int) (k : Nat) : List Int := ((List.range k).filter fun i => xs.getD i 0 != ys.getD i 0).map fun i : Nat => (i : Int)
theorem diffUpto_yes (xs ys : List Int) (k : Nat) (h : (xs.getD k 0 != ys.getD k 0) = true) : diffUpto xs ys (k + 1) = diffUpto xs ys k ++ [(k : Int)] := by
  simp only [diffUpto, List.range_succ, List.filter_append, List.map_append, List.filter_cons, h]
  simp
theorem diffUpto_no (xs ys : List Int) (k : Nat) (h : (xs.getD k 0 != ys.getD k 0) = false) : diffUpto xs ys (k + 1) = diffUpto xs ys k := by
  simp only [diffUpto, List.range_succ, List.filter_append, List.map_append, List.filter_cons, h]
  simp
theorem length_diffUpto (xs ys : List Int) (k : Nat) : (diffUpto xs ys k).length ≤ k := by
  have := List.length_filter_le (fun i => xs.getD i 0 != ys.getD i 0) (List.range k)
  simpa [diffUpto] using this
/-- All of them. -/
def diffs (xs ys : List Int) : List Int := diffUpto xs ys xs.length
/-- DifferingBits' answer. -/
def diffB (xs ys : List Int) : List Int × Int := if twoCode xs ys = 0 then (diffs xs ys, 0) else ([], twoCode xs ys)
/-- The exclusive or of two lists, the first k. -/
def xorUpto (xs ys : List Int) (k : Nat) : List Int := (List.range k).map fun i : Nat => bxor (xs.getD i 0) (ys.getD i 0)
theorem xorUpto_succ (xs ys : List Int) (k : Nat) : xorUpto xs ys (k + 1) = xorUpto xs ys k ++ [bxor (xs.getD k 0) (ys.getD k 0)] := by simp [xorUpto, List.range_succ]
theorem length_xorUpto (xs ys : List Int) (k : Nat) : (xorUpto xs ys k).length = k := by simp [xorUpto]
/-- SumErrors' answer. -/
def sumE (xs ys : List Int) : List Int × Int := if twoCode xs ys = 0 then (xorUpto xs ys xs.length, 0) else ([], twoCode xs ys)

theorem diffB_len (xs ys : List Int) : (diffB xs ys).1.length ≤ 16384 := by
  unfold diffB
  split
  · rename_i h
    have h1 := (isBitsB_yes (twoCode_ok h).1).1
    have h2 := length_diffUpto xs ys xs.length
    simp only [diffs]
    omega
  · simp
theorem sumE_len (xs ys : List Int) : (sumE xs ys).1.length ≤ 16384 := by
  unfold sumE
  split
  · rename_i h
    have h1 := (isBitsB_yes (twoCode_ok h).1).1
    simp only [length_xorUpto]
    omega
  · simp

set_option maxHeartbeats 400000 in
theorem differing_any (u v : Value) (xs ys : List Int) (w : World) (hr : Rd .i64 w u xs) (hr2 : Rd .i64 w v ys) (hlen : xs.length = ys.length) (hsm : xs.length ≤ 4294967296) :
    Calls Try.prog 23 #[u, v] w (OwnRes 2 w (diffs xs ys)) := by
  obtain ⟨a, cap, rfl, hl, hm, hn, hc⟩ := hr
  obtain ⟨a2, cap2, rfl, hl2, hm2, hn2, hc2⟩ := hr2
  obtain ⟨i0, hi, hz0, hz1, hz2⟩ := info_parts infoE
  unfold maxLen at hm hm2
  have HC := Lib.hid hc
  have HC2 := Lib.hid hc2
  have HL := Lib.hid hlen
  have HM := Lib.hid (Own.made 2 w w.heap.size (Nat.le_refl _))
  have HB0 := Lib.hid ((Below.refl w.heap.size w).alloc (Nat.le_refl _) (.cells #[] 2))
  have hly : xs.length ≤ ys.length := by omega
  clear hc hn hc2 hn2 hlen
  go_enter Try.func23, Try.ntmps23
  go_wp2
  go_loopw [5, 6, 10] (fun u q i wr => ∃ (k : Nat) (v0 q0 : Value), k ≤ xs.length ∧ v0 = u ∧ q0 = q ∧ i = .int .i64 k ∧ Own 2 wr w.heap.size v0 (diffUpto xs ys k) ∧ Below w.heap.size w wr) (fun _ _ i _ => xs.length - (intOf i).toNat)
  case atStart => exact ⟨0, _, _, Nat.zero_le _, rfl, rfl, rfl, HM.out, HB0.out⟩
  case round =>
    obtain ⟨k, v0, q0, hk, rfl, rfl, rfl, hO, hbw⟩ := hrel
    by_cases hlt : k < xs.length
    · obtain ⟨b, off, rfl, hcell⟩ := HC.out k hlt
      obtain ⟨b2, off2, rfl, hcell2⟩ := HC2.out k (by omega)
      have hc1 : wr.cell? ⟨b, off + k, none⟩ = some (.int .i64 (xs.getD k 0)) := (hbw.cell (p := ⟨b, off + k, none⟩) (World.block_lt_of_cell? w _ hcell)).trans hcell
      have hc2 : wr.cell? ⟨b2, off2 + k, none⟩ = some (.int .i64 (ys.getD k 0)) := (hbw.cell (p := ⟨b2, off2 + k, none⟩) (World.block_lt_of_cell? w _ hcell2)).trans hcell2
      have hyes := diffUpto_yes xs ys k
      have hno := diffUpto_no xs ys k
      have hlen := length_diffUpto xs ys k
      obtain ⟨x, hx⟩ : ∃ x, x = xs.getD k 0 := ⟨_, rfl⟩
      obtain ⟨y, hy⟩ : ∃ y, y = ys.getD k 0 := ⟨_, rfl⟩
      rw [← hx] at hc1 hyes hno
      rw [← hy] at hc2 hyes hno
      obtain ⟨D, hD⟩ : ∃ D, D = diffUpto xs ys k := ⟨_, rfl⟩
      rw [← hD] at hyes hno hO hlen
      have HYES := Lib.hid hyes
      have HNO := Lib.hid hno
      have HO := Lib.hid hO
      have HBW := Lib.hid hbw
      have HLN := Lib.hid hlen
      have hsz := hbw.size
      have hkx : (k : Int) < (xs.length : Int) := by omega
      have hky : (k : Int) < (ys.length : Int) := by omega
      have hkx2 : (0 : Int) ≤ (k : Int) := by omega
      clear hcell hcell2 hx hy hyes hno hO hbw hlen hD
      cases hxy : (x != y)
      · go_wp2
        go_quiet (fail)
        go_wp2
        go_roundw
        case rel => exact ⟨k + 1, v0, _, by omega, rfl, rfl, by go_num, by rw [HNO.out hxy]; exact HO.out.drewN _, below_drewN HBW.out _⟩
        case measure => simp [intOf]; omega
      · go_wp2
        go_quiet (fail)
        rename_i nq
        obtain ⟨w2, hw2⟩ : ∃ w2, w2 = wr.drewN nq := ⟨_, rfl⟩
        have HO2 : Hid (Own 2 w2 w.heap.size v0 D) := by rw [hw2]; exact HO.out.drewN _
        have HB2 : Hid (Below w.heap.size w w2) := by rw [hw2]; exact below_drewN HBW.out _
        have hsz2 : w.heap.size ≤ w2.heap.size := HB2.out.size
        rw [← hw2]
        clear hw2 hc1 hc2
        go_wp2_with (at_builtin; refine wpList_app1 Try.underlying38 hi hz0 hz1 hz2 rfl _ _ rfl w2 (k : Int) w.heap.size v0 D rfl rfl HO2.out (by have := HLN.out; omega) (by omega) ?_)
        intro v1 w3 hO3 hb3 _
        rw [← HYES.out hxy] at hO3
        have HO3 := Lib.hid hO3
        have HB3 := Lib.hid (HB2.out.trans hb3)
        clear hO3 hb3
        go_wp2
        go_roundw
        case rel => exact ⟨k + 1, v1, _, by omega, rfl, rfl, by go_num, HO3.out, HB3.out⟩
        case measure => simp [intOf]; omega
    · have : k = xs.length := by omega
      subst this
      have HO := Lib.hid hO
      have HBW := Lib.hid hbw
      clear hO hbw
      go_wp2
      go_ret
      exact ⟨_, rfl, HO.out, HBW.out⟩
set_option maxHeartbeats 400000 in
theorem l01Differ_any (u v : Value) (xs ys : List Int) (w : World) (hr : Rd .i64 w u xs) (hr2 : Rd .i64 w v ys) (hlen : xs.length = ys.length) (hsm : xs.length ≤ 4294967296) :
    Calls Try.prog 25 #[u, v] w (OwnRes 2 w (diffs xs ys)) := by
  obtain ⟨a, cap, rfl, hl, hm, hn, hc⟩ := hr
  obtain ⟨a2, cap2, rfl, hl2, hm2, hn2, hc2⟩ := hr2
  obtain ⟨i0, hi, hz0, hz1, hz2⟩ := info_parts infoE
  unfold maxLen at hm hm2
  have HC := Lib.hid hc
  have HC2 := Lib.hid hc2
  have HL := Lib.hid hlen
  have HM := Lib.hid (Own.made 2 w w.heap.size (Nat.le_refl _))
  have HB0 := Lib.hid ((Below.refl w.heap.size w).alloc (Nat.le_refl _) (.cells #[] 2))
  have hly : xs.length ≤ ys.length := by omega
  clear hc hn hc2 hn2 hlen
  go_enter Try.func25, Try.ntmps25
  go_wp2
  go_loopw [5, 6] (fun u i wr => ∃ (k : Nat) (v0 : Value), k ≤ xs.length ∧ v0 = u ∧ i = .int .i64 k ∧ Own 2 wr w.heap.size v0 (diffUpto xs ys k) ∧ Below w.heap.size w wr) (fun _ i _ => xs.length - (intOf i).toNat)
  case atStart => exact ⟨0, _, Nat.zero_le _, rfl, rfl, HM.out, HB0.out⟩
  case round =>
    obtain ⟨k, v0, hk, rfl, rfl, hO, hbw⟩ := hrel
    by_cases hlt : k < xs.length
    · obtain ⟨b, off, rfl, hcell⟩ := HC.out k hlt
      obtain ⟨b2, off2, rfl, hcell2⟩ := HC2.out k (by omega)
      have hc1 : wr.cell? ⟨b, off + k, none⟩ = some (.int .i64 (xs.getD k 0)) := (hbw.cell (p := ⟨b, off + k, none⟩) (World.block_lt_of_cell? w _ hcell)).trans hcell
      have hc2 : wr.cell? ⟨b2, off2 + k, none⟩ = some (.int .i64 (ys.getD k 0)) := (hbw.cell (p := ⟨b2, off2 + k, none⟩) (World.block_lt_of_cell? w _ hcell2)).trans hcell2
      have hyes := diffUpto_yes xs ys k
      have hno := diffUpto_no xs ys k
      have hlen := length_diffUpto xs ys k
      obtain ⟨x, hx⟩ : ∃ x, x = xs.getD k 0 := ⟨_, rfl⟩
      obtain ⟨y, hy⟩ : ∃ y, y = ys.getD k 0 := ⟨_, rfl⟩
      rw [← hx] at hc1 hyes hno
      rw [← hy] at hc2 hyes hno
      obtain ⟨D, hD⟩ : ∃ D, D = diffUpto xs ys k := ⟨_, rfl⟩
      rw [← hD] at hyes hno hO hlen
      have HYES := Lib.hid hyes
      have HNO := Lib.hid hno
      have HO := Lib.hid hO
      have HBW := Lib.hid hbw
      have HLN := Lib.hid hlen
      have hsz := hbw.size
      have hkx : (k : Int) < (xs.length : Int) := by omega
      have hky : (k : Int) < (ys.length : Int) := by omega
      have hkx2 : (0 : Int) ≤ (k : Int) := by omega
      clear hcell hcell2 hx hy hyes hno hO hbw hlen hD
      cases hxy : (x != y)
      · go_wp2
        go_quiet (fail)
        go_wp2
        go_roundw
        case rel => exact ⟨k + 1, v0, by omega, rfl, by go_num, by rw [HNO.out hxy]; exact HO.out.drewN _, below_drewN HBW.out _⟩
        case measure => simp [intOf]; omega
      · go_wp2
        go_quiet (fail)
        rename_i nq
        obtain ⟨w2, hw2⟩ : ∃ w2, w2 = wr.drewN nq := ⟨_, rfl⟩
        have HO2 : Hid (Own 2 w2 w.heap.size v0 D) := by rw [hw2]; exact HO.out.drewN _
        have HB2 : Hid (Below w.heap.size w w2) := by rw [hw2]; exact below_drewN HBW.out _
        have hsz2 : w.heap.size ≤ w2.heap.size := HB2.out.size
        rw [← hw2]
        clear hw2 hc1 hc2
        go_wp2_with (at_builtin; refine wpList_app1 Try.underlying38 hi hz0 hz1 hz2 rfl _ _ rfl w2 (k : Int) w.heap.size v0 D rfl rfl HO2.out (by have := HLN.out; omega) (by omega) ?_)
        intro v1 w3 hO3 hb3 _
        rw [← HYES.out hxy] at hO3
        have HO3 := Lib.hid hO3
        have HB3 := Lib.hid (HB2.out.trans hb3)
        clear hO3 hb3
        go_wp2
        go_roundw
        case rel => exact ⟨k + 1, v1, by omega, rfl, by go_num, HO3.out, HB3.out⟩
        case measure => simp [intOf]; omega
    · have : k = xs.length := by omega
      subst this
      have HO := Lib.hid hO
      have HBW := Lib.hid hbw
      clear hO hbw
      go_wp2
      go_ret
      exact ⟨_, rfl, HO.out, HBW.out⟩
end Go.Proofs.Ytkfhfggbmmhejaa
