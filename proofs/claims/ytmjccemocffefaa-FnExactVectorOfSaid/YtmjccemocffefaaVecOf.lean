/- Contracts: VectorOf (program and reference). -/
import Derived.Test.YtmjccemocffefaaSet
namespace Go.Proofs.Ytmjccemocffefaa
open Go.RowKit
set_option linter.unusedVariables false
set_option linter.unusedSimpArgs false

def vecStep (o : Option Int) (x : Int) : Option Int :=
  match o with
  | none => none
  | some m => if (inB x 0 31 && !hasB m x) = true then some (setB m x true) else none
def vecFold (xs : List Int) : Option Int := xs.foldl vecStep (some 0)
/-- VectorOf's answer. -/
def vecOf (xs : List Int) : Int × Int :=
  match vecFold xs with
  | some m => (m, 0)
  | none => (0, 2)
theorem vecFold_snoc (xs : List Int) (x : Int) : vecFold (xs ++ [x]) = vecStep (vecFold xs) x := by simp [vecFold]
theorem vec_none : ∀ (ys : List Int), ys.foldl vecStep none = none := by
  intro ys
  induction ys with
  | nil => rfl
  | cons y ys ih => exact ih
theorem vecFold_none {xs : List Int} {k : Nat} (h : vecFold (xs.take k) = none) : vecFold xs = none := by
  have e : vecFold xs = (xs.drop k).foldl vecStep (vecFold (xs.take k)) := by
    unfold vecFold
    rw [← List.foldl_append, List.take_append_drop]
  rw [e, h]; exact vec_none _
theorem vecOf_none {xs : List Int} {k : Nat} {m : Int} (hlt : k < xs.length) (hm : vecFold (xs.take k) = some m) (hx : (inB (xs.getD k 0) 0 31 && !hasB m (xs.getD k 0)) = false) : vecOf xs = (0, 2) := by
  have h1 : vecFold (xs.take (k + 1)) = none := by
    rw [take_succ_getD xs k hlt, vecFold_snoc, hm]
    simp only [vecStep, hx]; simp
  simp [vecOf, vecFold_none h1]
theorem vecFold_next {xs : List Int} {k : Nat} {m : Int} (hlt : k < xs.length) (hm : vecFold (xs.take k) = some m) (hx : (inB (xs.getD k 0) 0 31 && !hasB m (xs.getD k 0)) = true) : vecFold (xs.take (k + 1)) = some (setB m (xs.getD k 0) true) := by
  rw [take_succ_getD xs k hlt, vecFold_snoc, hm]
  simp only [vecStep, hx]; simp
set_option maxHeartbeats 1000000 in
theorem vectorOf_any (v : Value) (xs : List Int) (w : World) (hr : Rd .i64 w v xs) : Calls Try.prog 18 #[v] w fun e w' => e = .returned (.tuple #[.int .i64 (vecOf xs).1, .int .i64 (vecOf xs).2]) ∧ w = w' := by
  obtain ⟨a, cap, rfl, hl, hm, hn, hc⟩ := hr
  unfold maxLen at hm
  have HC := Lib.hid hc
  clear hc hn
  go_enter Try.func18, Try.ntmps18
  go_wp2
  go_loop [4, 6, 9] (fun m q i => ∃ (k : Nat) (g : Int) (q0 : Value), k ≤ xs.length ∧ q0 = q ∧ i = .int .i64 k ∧ m = .int .i64 g ∧ vecFold (xs.take k) = some g ∧ 0 ≤ g ∧ g ≤ 4294967295) (fun _ _ i => xs.length - (intOf i).toNat)
  case atStart => exact ⟨0, 0, _, Nat.zero_le _, rfl, rfl, rfl, rfl, by decide, by decide⟩
  case round =>
    obtain ⟨k, g, q0, hk, rfl, rfl, rfl, hv, hg1, hg2⟩ := hrel
    by_cases hlt : k < xs.length
    · obtain ⟨b, off, rfl, hcell⟩ := HC.out k hlt
      have HF := Lib.hid (vecOf_none hlt hv)
      have HN := Lib.hid (vecFold_next hlt hv)
      obtain ⟨x, hx⟩ : ∃ x, x = xs.getD k 0 := ⟨_, rfl⟩
      rw [← hx] at hcell HF HN
      clear hx hv
      cases h1 : inB x 0 31
      · have HFF := Lib.hid (HF.out (by rw [h1]; rfl))
        clear HF HN
        go_wp2_with (go_at_call 37; refine (isNode_any _ _).mono ?_; rintro e w' ⟨rfl, rfl⟩)
        go_ret2
        exact ⟨by rw [HFF.out]; rfl, rfl⟩
      · obtain ⟨x1, x2⟩ := inB_yes h1
        cases h2 : hasB g x
        · have HNN := Lib.hid (HN.out (by rw [h1, h2]; rfl))
          have hb := bits_or_set hg1 hg2 x1 x2
          have hs := p2_wrap64 (n := x) (by omega)
          obtain ⟨hp1, hp2⟩ := p2_31 x2
          have HSB := Lib.hid (setB_bound true hg1 hg2 x1 x2)
          clear HF HN
          go_wp2_with (first | (go_at_call 37; refine (isNode_any _ _).mono ?_; rintro e w' ⟨rfl, rfl⟩) | (go_at_call 43; refine (has_any _ _ _ (by omega) (by omega) (by omega) (by omega)).mono ?_; rintro e w' ⟨rfl, rfl⟩) | fail)
          go_round
          case rel => exact ⟨k + 1, _, _, by omega, rfl, by go_num, rfl, HNN.out, HSB.out.1, HSB.out.2⟩
          case measure => simp [intOf]; omega
        · have HFF := Lib.hid (HF.out (by rw [h1, h2]; rfl))
          clear HF HN
          go_wp2_with (first | (go_at_call 37; refine (isNode_any _ _).mono ?_; rintro e w' ⟨rfl, rfl⟩) | (go_at_call 43; refine (has_any _ _ _ (by omega) (by omega) (by omega) (by omega)).mono ?_; rintro e w' ⟨rfl, rfl⟩) | fail)
          go_ret2
          exact ⟨by rw [HFF.out]; rfl, rfl⟩
    · have : k = xs.length := by omega
      subst this
      have HV : Hid (vecOf xs = (g, 0)) := by
        show vecOf xs = (g, 0)
        rw [List.take_length] at hv
        simp [vecOf, hv]
      clear hv
      go_wp2
      go_ret2
      exact ⟨by rw [HV.out]; rfl, rfl⟩
set_option maxHeartbeats 1000000 in
theorem sVectorOf_any (v : Value) (xs : List Int) (w : World) (hr : Rd .i64 w v xs) : Calls Try.prog 16 #[v] w fun e w' => e = .returned (.tuple #[.int .i64 (vecOf xs).1, .int .i64 (vecOf xs).2]) ∧ w = w' := by
  obtain ⟨a, cap, rfl, hl, hm, hn, hc⟩ := hr
  unfold maxLen at hm
  have HC := Lib.hid hc
  clear hc hn
  go_enter Try.func16, Try.ntmps16
  go_wp2
  go_loop [4, 5] (fun m i => ∃ (k : Nat) (g : Int), k ≤ xs.length ∧ i = .int .i64 k ∧ m = .int .i64 g ∧ vecFold (xs.take k) = some g ∧ 0 ≤ g ∧ g ≤ 4294967295) (fun _ i => xs.length - (intOf i).toNat)
  case atStart => exact ⟨0, 0, Nat.zero_le _, rfl, rfl, rfl, by decide, by decide⟩
  case round =>
    obtain ⟨k, g, hk, rfl, rfl, hv, hg1, hg2⟩ := hrel
    by_cases hlt : k < xs.length
    · obtain ⟨b, off, rfl, hcell⟩ := HC.out k hlt
      have HF := Lib.hid (vecOf_none hlt hv)
      have HN := Lib.hid (vecFold_next hlt hv)
      obtain ⟨x, hx⟩ : ∃ x, x = xs.getD k 0 := ⟨_, rfl⟩
      rw [← hx] at hcell HF HN
      clear hx hv
      cases h1 : inB x 0 31
      · have HFF := Lib.hid (HF.out (by rw [h1]; rfl))
        clear HF HN
        go_wp2_with (go_at_call 34; refine (sNode_any _ _).mono ?_; rintro e w' ⟨rfl, rfl⟩)
        go_ret2
        exact ⟨by rw [HFF.out]; rfl, rfl⟩
      · obtain ⟨x1, x2⟩ := inB_yes h1
        cases h2 : hasB g x
        · have HNN := Lib.hid (HN.out (by rw [h1, h2]; rfl))
          have HSB := Lib.hid (setB_bound true hg1 hg2 x1 x2)
          clear HF HN
          go_wp2_with (first | (go_at_call 34; refine (sNode_any _ _).mono ?_; rintro e w' ⟨rfl, rfl⟩) | (go_at_call 42; refine (sHas_any _ _ _ (by omega) (by omega) (by omega) (by omega)).mono ?_; rintro e w' ⟨rfl, rfl⟩) | (go_at_call 35; refine (l05Set_any _ _ _ _ (by omega) (by omega) (by omega) (by omega)).mono ?_; rintro e w' ⟨rfl, rfl⟩) | fail)
          go_round
          case rel => exact ⟨k + 1, _, by omega, by go_num, rfl, HNN.out, HSB.out.1, HSB.out.2⟩
          case measure => simp [intOf]; omega
        · have HFF := Lib.hid (HF.out (by rw [h1, h2]; rfl))
          clear HF HN
          go_wp2_with (first | (go_at_call 34; refine (sNode_any _ _).mono ?_; rintro e w' ⟨rfl, rfl⟩) | (go_at_call 42; refine (sHas_any _ _ _ (by omega) (by omega) (by omega) (by omega)).mono ?_; rintro e w' ⟨rfl, rfl⟩) | fail)
          go_ret2
          exact ⟨by rw [HFF.out]; rfl, rfl⟩
    · have : k = xs.length := by omega
      subst this
      have HV : Hid (vecOf xs = (g, 0)) := by
        show vecOf xs = (g, 0)
        rw [List.take_length] at hv
        simp [vecOf, hv]
      clear hv
      go_wp2
      go_ret2
      exact ⟨by rw [HV.out]; rfl, rfl⟩
end Go.Proofs.Ytmjccemocffefaa
