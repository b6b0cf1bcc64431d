/- Contracts: without, l05Set, SetMember (program and reference). -/
import Derived.Test.YtmjccemocffefaaMem
import Derived.Test.YtmjccemocffefaaSetB
namespace Go.Proofs.Ytmjccemocffefaa
open Go.RowKit
set_option linter.unusedVariables false
set_option linter.unusedSimpArgs false

/-- SetMember's answer. -/
def setM (m n : Int) (b : Bool) : Int × Int := if (inB m 0 4294967295 && inB n 0 31) = true then (setB m n b, 0) else (0, 2)
theorem p2_31 {n : Int} (h4 : n ≤ 31) : 1 ≤ p2 n ∧ p2 n ≤ 2147483648 := ⟨p2_pos n, p2_le (k := 31) h4 (by decide)⟩
theorem without_any (m n : Int) (w : World) (h1 : 0 ≤ m) (h2 : m ≤ 4294967295) (h3 : 0 ≤ n) (h4 : n ≤ 31) : Calls Try.prog 38 #[.int .i64 m, .int .i64 n] w fun e w' => e = .returned (.int .i64 (setB m n false)) ∧ w = w' := by
  have hb := bits_not_set h1 h2 h3 h4
  have hs := p2_wrap64 (n := n) (by omega)
  obtain ⟨hp1, hp2⟩ := p2_31 h4
  go_enter Try.func38, Try.ntmps38
  go_wp2
  go_ret
  exact ⟨rfl, rfl⟩
theorem l05Set_any (m n : Int) (b : Bool) (w : World) (h1 : 0 ≤ m) (h2 : m ≤ 4294967295) (h3 : 0 ≤ n) (h4 : n ≤ 31) : Calls Try.prog 35 #[.int .i64 m, .int .i64 n, .bool b] w fun e w' => e = .returned (.int .i64 (setB m n b)) ∧ w = w' := by
  obtain ⟨hp1, hp2⟩ := p2_31 h4
  have hx := bits_xor m (p2 n) h1 (by omega) (by omega) (by omega)
  have hs := p2_wrap64 (n := n) (by omega)
  unfold setB
  by_cases he : hasB m n = b
  · have htb : (hasB m n == b) = true := by simp [he]
    rw [if_pos he]
    clear he
    go_enter Try.func35, Try.ntmps35
    go_wp2_with (go_at_call 42; refine (sHas_any _ _ _ (by omega) (by omega) (by omega) (by omega)).mono ?_; rintro e w' ⟨rfl, rfl⟩)
    go_ret
    exact ⟨rfl, rfl⟩
  · have htb : (hasB m n == b) = false := by simp [he]
    rw [if_neg he]
    clear he
    go_enter Try.func35, Try.ntmps35
    go_wp2_with (go_at_call 42; refine (sHas_any _ _ _ (by omega) (by omega) (by omega) (by omega)).mono ?_; rintro e w' ⟨rfl, rfl⟩)
    go_ret
    exact ⟨rfl, rfl⟩
theorem setMember_any (m n : Int) (b : Bool) (w : World) : Calls Try.prog 12 #[.int .i64 m, .int .i64 n, .bool b] w fun e w' => e = .returned (.tuple #[.int .i64 (setM m n b).1, .int .i64 (setM m n b).2]) ∧ w = w' := by
  unfold setM
  cases h1 : inB m 0 4294967295
  · go_enter Try.func12, Try.ntmps12
    go_wp2_with (go_at_call 36; refine (isVector_any _ _).mono ?_; rintro e w' ⟨rfl, rfl⟩)
    go_ret2
    exact ⟨rfl, rfl⟩
  cases h2 : inB n 0 31
  · go_enter Try.func12, Try.ntmps12
    go_wp2_with (first | (go_at_call 36; refine (isVector_any _ _).mono ?_; rintro e w' ⟨rfl, rfl⟩) | (go_at_call 37; refine (isNode_any _ _).mono ?_; rintro e w' ⟨rfl, rfl⟩) | fail)
    go_ret2
    exact ⟨rfl, rfl⟩
  obtain ⟨b1, b2⟩ := inB_yes h1
  obtain ⟨b3, b4⟩ := inB_yes h2
  cases b
  · go_enter Try.func12, Try.ntmps12
    go_wp2_with (first | (go_at_call 36; refine (isVector_any _ _).mono ?_; rintro e w' ⟨rfl, rfl⟩) | (go_at_call 37; refine (isNode_any _ _).mono ?_; rintro e w' ⟨rfl, rfl⟩) | (go_at_call 38; refine (without_any _ _ _ (by omega) (by omega) (by omega) (by omega)).mono ?_; rintro e w' ⟨rfl, rfl⟩) | fail)
    go_ret2
    exact ⟨rfl, rfl⟩
  · have hb := bits_or_set b1 b2 b3 b4
    have hs := p2_wrap64 (n := n) (by omega)
    obtain ⟨hp1, hp2⟩ := p2_31 b4
    go_enter Try.func12, Try.ntmps12
    go_wp2_with (first | (go_at_call 36; refine (isVector_any _ _).mono ?_; rintro e w' ⟨rfl, rfl⟩) | (go_at_call 37; refine (isNode_any _ _).mono ?_; rintro e w' ⟨rfl, rfl⟩) | fail)
    go_ret2
    exact ⟨rfl, rfl⟩
theorem sSetMember_any (m n : Int) (b : Bool) (w : World) : Calls Try.prog 11 #[.int .i64 m, .int .i64 n, .bool b] w fun e w' => e = .returned (.tuple #[.int .i64 (setM m n b).1, .int .i64 (setM m n b).2]) ∧ Below w.heap.size w w' := by
  have hv : vecs [m] = inB m 0 4294967295 := by simp [vecs]
  unfold setM
  cases h1 : inB m 0 4294967295
  rotate_left
  cases h2 : inB n 0 31
  rotate_left
  obtain ⟨b1, b2⟩ := inB_yes h1
  obtain ⟨b3, b4⟩ := inB_yes h2
  all_goals
    rw [h1] at hv
    go_enter Try.func11, Try.ntmps11
    go_wp2_with (first | (go_at_call 33; refine (sVector_any _ [m] _ (rd_one _ _ _ _)).mono ?_; rintro e w' ⟨rfl, rfl⟩) | (go_at_call 34; refine (sNode_any _ _).mono ?_; rintro e w' ⟨rfl, rfl⟩) | (go_at_call 35; refine (l05Set_any _ _ _ _ (by omega) (by omega) (by omega) (by omega)).mono ?_; rintro e w' ⟨rfl, rfl⟩) | fail)
    go_ret2
    exact ⟨rfl, (Below.refl _ _).alloc (Nat.le_refl _) _⟩
end Go.Proofs.Ytmjccemocffefaa
