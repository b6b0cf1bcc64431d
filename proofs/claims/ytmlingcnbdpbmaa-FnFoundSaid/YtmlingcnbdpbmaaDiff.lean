/- Contracts: two lists: twoLists, differing, l01Differ, DifferingBits, SumErrors (program and reference). -/
import Derived.Test.YtmlingcnbdpbmaaLists
import Derived.Test.YtmlingcnbdpbmaaApps
import Derived.StillTailTactics
namespace Go.Proofs.Ytmlingcnbdpbmaa
open Go.RowKit
set_option linter.unusedVariables false

/-- The code for two bit lists. -/
def twoCode (xs ys : List Int) : Int := if isBitsB xs = false then 1 else if isBitsB ys = false then 1 else if xs.length = ys.length then 0 else 5
theorem twoCode_ok {xs ys : List Int} (h : twoCode xs ys = 0) : isBitsB xs = true ∧ isBitsB ys = true ∧ xs.length = ys.length := by
  unfold twoCode at h
  cases h1 : isBitsB xs
  · simp [h1] at h
  · cases h2 : isBitsB ys
    · simp [h1, h2] at h
    · by_cases h3 : xs.length = ys.length
      · exact ⟨rfl, rfl, h3⟩
      · simp [h1, h2, h3] at h
theorem twoCode_range (xs ys : List Int) : twoCode xs ys = 0 ∨ twoCode xs ys = 1 ∨ twoCode xs ys = 5 := by
  unfold twoCode
  split
  · exact .inr (.inl rfl)
  · split
    · exact .inr (.inl rfl)
    · split
      · exact .inl rfl
      · exact .inr (.inr rfl)
/-- The indices of the first k at which two lists differ. -/
def diffUpto (xs ys : List Int) (k : Nat) : List Int := ((List.range k).filter fun i => xs.getD i 0 != ys.getD i 0).map fun i : Nat => (i : Int)
theorem diffUpto_yes (xs ys : List Int) (k : Nat) (h : (xs.getD k 0 != ys.getD k 0) = true) : diffUpto xs ys (k + 1) = diffUpto xs ys k ++ [(k : Int)] := by
  simp only [diffUpto, List.range_succ, List.filter_append, List.map_append, List.filter_cons, h]
  simp
theorem diffUpto_no (xs ys : List Int) (k : Nat) (h : (xs.getD k 0 != ys.getD k 0) = false) : diffUpto xs ys (k + 1) = diffUpto xs ys k := by
  simp only [diffUpto, List.range_succ, List.filter_append, List.map_append, List.filter_cons, h]
  simp
theorem length_diffUpto (xs ys : List Int) (k : Nat) : (diffUpto xs ys k).length ≤ k := by
  have := List.length_filter_le (fun i => xs.getD i 0 != ys.getD i 0) (List.range k)
  simpa [diffUpto] using this
/-- All of them. -/
def diffs (xs ys : List Int) : List Int := diffUpto xs ys xs.length
/-- DifferingBits' answer. -/
def diffB (xs ys : List Int) : List Int × Int := if twoCode xs ys = 0 then (diffs xs ys, 0) else ([], twoCode xs ys)
/-- The exclusive or of two lists, the first k. -/
def xorUpto (xs ys : List Int) (k : Nat) : List Int := (List.range k).map fun i : Nat => bxor (xs.getD i 0) (ys.getD i 0)
theorem xorUpto_succ (xs ys : List Int) (k : Nat) : xorUpto xs ys (k + 1) = xorUpto xs ys k ++ [bxor (xs.getD k 0) (ys.getD k 0)] := by simp [xorUpto, List.range_succ]
theorem length_xorUpto (xs ys : List Int) (k : Nat) : (xorUpto xs ys k).length = k := by simp [xorUpto]
/-- SumErrors' answer. -/
def sumE (xs ys : List Int) : List Int × Int := if twoCode xs ys = 0 then (xorUpto xs ys xs.length, 0) else ([], twoCode xs ys)

theorem diffB_len (xs ys : List Int) : (diffB xs ys).1.length ≤ 16384 := by
  unfold diffB
  split
  · rename_i h
    have h1 := (isBitsB_yes (twoCode_ok h).1).1
    have h2 := length_diffUpto xs ys xs.length
    simp only [diffs]
    omega
  · simp
theorem sumE_len (xs ys : List Int) : (sumE xs ys).1.length ≤ 16384 := by
  unfold sumE
  split
  · rename_i h
    have h1 := (isBitsB_yes (twoCode_ok h).1).1
    simp only [length_xorUpto]
    omega
  · simp

theorem twoLists_any (u v : Value) (xs ys : List Int) (w : World) (hr : Rd .i64 w u xs) (hr2 : Rd .i64 w v ys) :
    Calls Try.prog 52 #[u, v] w fun e w' => e = .returned (.int .i64 (twoCode xs ys)) ∧ w = w' := by
  have hr0 := hr
  have hr20 := hr2
  obtain ⟨a, cap, rfl, hl, hm, hn, hc⟩ := hr
  obtain ⟨a2, cap2, rfl, hl2, hm2, hn2, hc2⟩ := hr2
  have HR := Lib.hid hr0
  have HR2 := Lib.hid hr20
  clear hr0 hr20 hn hn2 hc hc2
  unfold maxLen at hm hm2
  cases h1 : isBitsB xs
  · have hf : twoCode xs ys = 1 := by simp [twoCode, h1]
    rw [hf]; clear hf
    go_enter Try.func52, Try.ntmps52
    go_wp2_with (go_at_call 34; refine (isBits_any _ xs _ HR.out).mono ?_; rintro e w' ⟨rfl, rfl⟩)
    go_ret
    exact ⟨rfl, rfl⟩
  · cases h2 : isBitsB ys
    · have hf : twoCode xs ys = 1 := by simp [twoCode, h1, h2]
      rw [hf]; clear hf
      go_enter Try.func52, Try.ntmps52
      go_wp2_with fail
      refine (isBits_any _ xs _ HR.out).mono ?_
      rintro e w' ⟨rfl, rfl⟩
      go_wp2_with fail
      refine (isBits_any _ ys _ HR2.out).mono ?_
      rintro e w' ⟨rfl, rfl⟩
      go_wp2_with fail
      go_ret
      exact ⟨rfl, rfl⟩
    · by_cases h3 : xs.length = ys.length
      · have hf : twoCode xs ys = 0 := by simp [twoCode, h1, h2, h3]
        rw [hf]; clear hf
        have hne : ((xs.length : Int) != (ys.length : Int)) = false := by simp [h3]
        clear h3
        go_enter Try.func52, Try.ntmps52
        go_wp2_with fail
        refine (isBits_any _ xs _ HR.out).mono ?_
        rintro e w' ⟨rfl, rfl⟩
        go_wp2_with fail
        refine (isBits_any _ ys _ HR2.out).mono ?_
        rintro e w' ⟨rfl, rfl⟩
        go_wp2_with fail
        go_ret
        exact ⟨rfl, rfl⟩
      · have hf : twoCode xs ys = 5 := by simp [twoCode, h1, h2, h3]
        rw [hf]; clear hf
        have hne : ((xs.length : Int) != (ys.length : Int)) = true := by simp; omega
        clear h3
        go_enter Try.func52, Try.ntmps52
        go_wp2_with fail
        refine (isBits_any _ xs _ HR.out).mono ?_
        rintro e w' ⟨rfl, rfl⟩
        go_wp2_with fail
        refine (isBits_any _ ys _ HR2.out).mono ?_
        rintro e w' ⟨rfl, rfl⟩
        go_wp2_with fail
        go_ret
        exact ⟨rfl, rfl⟩
end Go.Proofs.Ytmlingcnbdpbmaa
