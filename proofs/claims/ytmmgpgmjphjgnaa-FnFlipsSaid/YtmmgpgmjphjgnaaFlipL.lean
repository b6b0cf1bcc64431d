/- Plain laws of flips and differences: flipping the differing bits of two lists turns one into the other. -/
import Derived.Test.YtmmgpgmjphjgnaaFlip
import Derived.Test.YtmmgpgmjphjgnaaDiff
namespace Go.Proofs.Ytmmgpgmjphjgnaa
open Go.RowKit
set_option linter.unusedVariables false

theorem riseAt_append {L : List Int} {k n : Int} {i : Nat} (h : i < L.length) : riseAt (L ++ [k]) n i = riseAt L n i := by
  have e1 : (L ++ [k]).getD i 0 = L.getD i 0 := by simp [List.getD, List.getElem?_append_left h]
  have e2 : (L ++ [k]).getD (i - 1) 0 = L.getD (i - 1) 0 := by
    have h2 : i - 1 < L.length := by omega
    simp [List.getD, List.getElem?_append_left h2]
  unfold riseAt
  rw [e1, e2]
theorem rises_snoc {L : List Int} {k n : Int} (h : risesB L n = true) (h0 : 0 ≤ k) (h1 : k < n) (hl : ∀ x ∈ L, x < k) : risesB (L ++ [k]) n = true := by
  unfold risesB at h ⊢
  rw [List.length_append, List.length_singleton, risesUpto_succ, Bool.and_eq_true]
  constructor
  · unfold risesUpto at h ⊢
    rw [List.all_eq_true] at h ⊢
    intro i hi
    have hi' := List.mem_range.1 hi
    rw [riseAt_append hi']
    exact h i hi
  · have e1 : (L ++ [k]).getD L.length 0 = k := by simp [List.getD]
    unfold riseAt
    rw [e1, inB_mk (by omega), Bool.true_and]
    by_cases h2 : L.length = 0
    · simp [h2]
    · have h3 : L.length - 1 < L.length := by omega
      have e2 : (L ++ [k]).getD (L.length - 1) 0 = L[L.length - 1] := by simp [List.getD, List.getElem?_append_left h3, h3]
      rw [e2]
      have := hl _ (List.getElem_mem h3)
      simp [this]
theorem diff_rises (xs ys : List Int) : ∀ k, k ≤ xs.length → risesB (diffUpto xs ys k) (xs.length : Int) = true ∧ ∀ x ∈ diffUpto xs ys k, 0 ≤ x ∧ x < (k : Int) := by
  intro k
  induction k with
  | zero => intro _; exact ⟨rfl, fun x hx => by simp [diffUpto] at hx⟩
  | succ k ih =>
    intro hk
    obtain ⟨h1, h2⟩ := ih (by omega)
    cases hd : (xs.getD k 0 != ys.getD k 0)
    · rw [diffUpto_no _ _ _ hd]
      exact ⟨h1, fun x hx => by have := h2 x hx; omega⟩
    · rw [diffUpto_yes _ _ _ hd]
      refine ⟨rises_snoc h1 (by omega) (by omega) (fun x hx => (h2 x hx).2), fun x hx => ?_⟩
      rcases List.mem_append.1 hx with hx | hx
      · have := h2 x hx; omega
      · simp at hx; omega
theorem flips_diff {xs ys : List Int} (hx : allIn xs 0 1 = true) (hy : allIn ys 0 1 = true) (hl : xs.length = ys.length) : ∀ k, k ≤ xs.length → flips xs (diffUpto xs ys k) = ys.take k ++ xs.drop k := by
  intro k
  induction k with
  | zero => intro _; simp [diffUpto, flips]
  | succ k ih =>
    intro hk
    have h := ih (by omega)
    have hkx : k < xs.length := by omega
    have hky : k < ys.length := by omega
    have bx := allIn_at hx k hkx
    have by' := allIn_at hy k hky
    have ex : xs.drop k = xs.getD k 0 :: xs.drop (k + 1) := by rw [getD_of_lt _ _ hkx]; exact List.drop_eq_getElem_cons hkx
    have ey := take_succ_getD ys k hky
    cases hd : (xs.getD k 0 != ys.getD k 0)
    · have he : xs.getD k 0 = ys.getD k 0 := by simpa using hd
      rw [diffUpto_no _ _ _ hd, h, ey, ex, List.append_assoc, he]
      rfl
    · have hne : xs.getD k 0 ≠ ys.getD k 0 := by simpa using hd
      rw [diffUpto_yes _ _ _ hd, flips_snoc, h, flip1, Int.toNat_natCast]
      have hl2 : (ys.take k).length = k := by rw [List.length_take]; omega
      have e1 : (ys.take k ++ xs.drop k).getD k 0 = xs.getD k 0 := by
        rw [ex]
        simp [List.getD, hl2]
      rw [e1, ex, List.set_append_right _ _ (by rw [hl2]; exact Nat.le_refl _), hl2, Nat.sub_self, ey, List.append_assoc]
      have : 1 - xs.getD k 0 = ys.getD k 0 := by omega
      rw [this]
      rfl
theorem flip_back {xs ys : List Int} (h : twoCode xs ys = 0) : flipA xs (diffs xs ys) = (ys, 0) := by
  obtain ⟨h1, h2, h3⟩ := twoCode_ok h
  have g1 := (isBitsB_yes h1).2
  have g2 := (isBitsB_yes h2).2
  have e1 := (diff_rises xs ys xs.length (Nat.le_refl _)).1
  have e2 := flips_diff g1 g2 h3 xs.length (Nat.le_refl _)
  have e3 : ys.take xs.length ++ xs.drop xs.length = ys := by rw [List.drop_length, List.append_nil]; exact List.take_of_length_le (by omega)
  rw [e3] at e2
  unfold flipA diffs
  rw [h1, e1, e2]
  simp
end Go.Proofs.Ytmmgpgmjphjgnaa
