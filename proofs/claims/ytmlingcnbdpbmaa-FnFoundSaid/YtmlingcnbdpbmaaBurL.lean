/- Plain laws of bursts and sums: outside of its burst a list is 0; a list that is added twice is gone. No program in sight. -/
import Derived.Test.YtmlingcnbdpbmaaMiss
import Derived.Test.YtmlingcnbdpbmaaDiff
namespace Go.Proofs.Ytmlingcnbdpbmaa
open Go.RowKit
set_option linter.unusedVariables false

theorem bxor_self_right {x y : Int} (hx : 0 ≤ x ∧ x ≤ 1) (hy : 0 ≤ y ∧ y ≤ 1) : bxor (bxor x y) y = x ∧ 0 ≤ bxor x y ∧ bxor x y ≤ 1 := by
  have h1 : x = 0 ∨ x = 1 := by omega
  have h2 : y = 0 ∨ y = 1 := by omega
  rcases h1 with rfl | rfl <;> rcases h2 with rfl | rfl <;> decide
theorem xorUpto_getD (xs ys : List Int) (n j : Nat) (h : j < n) : (xorUpto xs ys n).getD j 0 = bxor (xs.getD j 0) (ys.getD j 0) := by
  simp [xorUpto, List.getD, h]
/-- A SUM IS THE FIRST LIST AGAIN WHEN THE SECOND IS ADDED TO IT. -/
theorem sum_back {xs ys : List Int} (h : (sumE xs ys).2 = 0) : sumE (sumE xs ys).1 ys = (xs, 0) := by
  by_cases h0 : twoCode xs ys = 0
  rotate_left
  · exfalso
    have e : sumE xs ys = ([], twoCode xs ys) := by simp [sumE, h0]
    rw [e] at h; exact h0 h
  have e : sumE xs ys = (xorUpto xs ys xs.length, 0) := by simp [sumE, h0]
  rw [e]
  obtain ⟨hx, hy, hl⟩ := twoCode_ok h0
  obtain ⟨hxl, hxb⟩ := isBitsB_yes hx
  obtain ⟨hyl, hyb⟩ := isBitsB_yes hy
  have hall : allIn (xorUpto xs ys xs.length) 0 1 = true := by
    refine allIn_mk fun z hz => ?_
    simp only [xorUpto, List.mem_map, List.mem_range] at hz
    obtain ⟨i, hi, rfl⟩ := hz
    exact (bxor_self_right (allIn_at hxb i hi) (allIn_at hyb i (by omega))).2
  have hs : isBitsB (xorUpto xs ys xs.length) = true := isBitsB_mk (by rw [length_xorUpto]; exact hxl) hall
  have h2 : twoCode (xorUpto xs ys xs.length) ys = 0 := by
    unfold twoCode
    rw [hs, hy, length_xorUpto, if_neg (by decide), if_neg (by decide), if_pos hl]
  show sumE (xorUpto xs ys xs.length) ys = (xs, 0)
  unfold sumE
  rw [if_pos h2, length_xorUpto]
  congr 1
  apply List.ext_getElem
  · rw [length_xorUpto]
  · intro j h3 h4
    have e1 := xorUpto_getD (xorUpto xs ys xs.length) ys xs.length j h4
    rw [xorUpto_getD xs ys xs.length j h4, (bxor_self_right (allIn_at hxb j h4) (allIn_at hyb j (by omega))).1, getD_of_lt _ _ h3, getD_of_lt _ _ h4] at e1
    exact e1

/-- The sum of a list. -/
def sumL (xs : List Int) : Int := wtTo xs xs.length
theorem wtTo_zeros {xs : List Int} (a b : Nat) (h : ∀ j, a ≤ j → j < a + b → xs.getD j 0 = 0) : wtTo xs (a + b) = wtTo xs a := by
  induction b with
  | zero => rfl
  | succ b ih =>
    have h1 := ih fun j h1 h2 => h j h1 (by omega)
    have h2 := h (a + b) (by omega) (by omega)
    show wtTo xs (a + b) + xs.getD (a + b) 0 = _
    rw [h1, h2]; omega
theorem wtTo_part (xs : List Int) (f n : Nat) : ∀ j, j ≤ n → wtTo xs (f + j) = wtTo xs f + wtTo ((xs.drop f).take n) j := by
  intro j
  induction j with
  | zero => intro _; simp [wtTo]
  | succ j ih =>
    intro h
    have h1 := ih (by omega)
    have e : ((xs.drop f).take n).getD j 0 = xs.getD (f + j) 0 := by
      simp [List.getD, List.getElem?_drop, (by omega : j < n)]
    show wtTo xs (f + j) + xs.getD (f + j) 0 = wtTo xs f + (wtTo ((xs.drop f).take n) j + ((xs.drop f).take n).getD j 0)
    rw [h1, e]; omega
/-- OUTSIDE OF ITS BURST A LIST IS 0. -/
theorem burst_law {xs : List Int} (h : (burstA xs).2.2 = 0) :
    ∃ f n : Nat, (burstA xs).1 = f ∧ (burstA xs).2.1 = n ∧ 1 ≤ n ∧ f + n ≤ xs.length ∧ xs.length ≤ 8192 ∧ allIn xs 0 1 = true ∧
      sumL xs = sumL ((xs.drop f).take n) ∧ xs.getD f 0 = 1 ∧ xs.getD (f + n - 1) 0 = 1 := by
  cases hb : isBitsB xs
  · exfalso
    have : (burstA xs).2.2 = 1 := by simp [burstA, hb]
    omega
  cases hh : hasY xs 1
  · exfalso
    have : (burstA xs).2.2 = 4 := by simp [burstA, hb, hh]
    omega
  obtain ⟨hl, hall⟩ := isBitsB_yes hb
  have hlt : firstTo xs 1 xs.length < xs.length := by simpa [hasY] using hh
  have hf := firstTo_is xs.length hlt
  obtain ⟨l1, l2, l3⟩ := lastTo_ge hf xs.length hlt
  obtain ⟨f, hfe⟩ : ∃ f, f = firstTo xs 1 xs.length := ⟨_, rfl⟩
  obtain ⟨l, hle⟩ : ∃ l, l = lastTo xs xs.length := ⟨_, rfl⟩
  have hn1 : ∀ j, j < f → xs.getD j 0 = 0 := by
    intro j hj
    have a1 := firstTo_no (xs := xs) (y := 1) xs.length j (by omega)
    have a2 := allIn_at hall j (by omega)
    omega
  have hn2 : ∀ j, l < j → j < xs.length → xs.getD j 0 = 0 := by
    intro j hj hj2
    have a1 := lastTo_no (xs := xs) xs.length j (by omega) hj2
    have a2 := allIn_at hall j hj2
    omega
  rw [← hfe] at hlt hf l1
  rw [← hle] at l1 l2 l3
  refine ⟨f, l - f + 1, ?_, ?_, by omega, by omega, hl, hall, ?_, hf, ?_⟩
  · simp [burstA, hb, hh, burst, ← hfe]
  · simp only [burstA, hb, hh, burst, ← hfe, ← hle]
    simp only [Bool.true_eq_false, if_false]
    omega
  · unfold sumL
    have hlen : ((xs.drop f).take (l - f + 1)).length = l - f + 1 := by rw [List.length_take, List.length_drop]; omega
    rw [hlen]
    have e1 : wtTo xs xs.length = wtTo xs (l + 1) := by
      have := wtTo_zeros (xs := xs) (l + 1) (xs.length - (l + 1)) (fun j h1 h2 => hn2 j (by omega) (by omega))
      have e : l + 1 + (xs.length - (l + 1)) = xs.length := by omega
      rw [e] at this; exact this
    have e2 := wtTo_part xs f (l - f + 1) (l - f + 1) (Nat.le_refl _)
    have e3 : f + (l - f + 1) = l + 1 := by omega
    have e4 : wtTo xs f = 0 := by
      have := wtTo_zeros (xs := xs) 0 f (fun j h1 h2 => hn1 j (by omega))
      rw [Nat.zero_add] at this
      rw [this]; rfl
    rw [e1, ← e3, e2, e4]; omega
  · have e : f + (l - f + 1) - 1 = l := by omega
    rw [e]; exact l3
end Go.Proofs.Ytmlingcnbdpbmaa
