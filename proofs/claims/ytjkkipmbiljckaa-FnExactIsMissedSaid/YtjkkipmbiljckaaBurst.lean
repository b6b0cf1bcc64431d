/- Contracts: bursts: slices.Index, slices.Contains, burstOf, l03Burst, BurstOf (program and reference). -/
import Derived.Test.YtjkkipmbiljckaaLists
namespace Go.Proofs.Ytjkkipmbiljckaa
open Go.RowKit
set_option linter.unusedVariables false

/-- The first index below k with the number y; k, if there is none. -/
def firstTo (xs : List Int) (y : Int) : Nat → Nat
  | 0 => 0
  | k + 1 => if firstTo xs y k < k then firstTo xs y k else if xs.getD k 0 = y then k else k + 1
theorem firstTo_le (xs : List Int) (y : Int) : ∀ k, firstTo xs y k ≤ k := by
  intro k
  induction k with
  | zero => exact Nat.le_refl _
  | succ k ih =>
    unfold firstTo
    split
    · omega
    · split <;> omega
theorem firstTo_none {xs : List Int} {y : Int} : ∀ k, (∀ j, j < k → xs.getD j 0 ≠ y) → firstTo xs y k = k := by
  intro k
  induction k with
  | zero => intro _; rfl
  | succ k ih =>
    intro h
    have h1 := ih fun j hj => h j (by omega)
    unfold firstTo
    rw [h1, if_neg (by omega), if_neg (h k (by omega))]
theorem firstTo_at {xs : List Int} {y : Int} {f : Nat} (hf : xs.getD f 0 = y) (hno : ∀ j, j < f → xs.getD j 0 ≠ y) : ∀ k, f < k → firstTo xs y k = f := by
  intro k
  induction k with
  | zero => intro h; omega
  | succ k ih =>
    intro h
    unfold firstTo
    by_cases e : f < k
    · rw [ih e, if_pos e]
    · have : f = k := by omega
      subst this
      rw [firstTo_none f hno, if_neg (by omega), if_pos hf]
theorem firstTo_no {xs : List Int} {y : Int} : ∀ k j, j < firstTo xs y k → xs.getD j 0 ≠ y := by
  intro k
  induction k with
  | zero => intro j hj; simp [firstTo] at hj
  | succ k ih =>
    intro j hj
    unfold firstTo at hj
    split at hj
    · exact ih j hj
    · rename_i h1
      have h2 := firstTo_le xs y k
      split at hj
      · exact ih j (by omega)
      · rename_i h3
        by_cases e : j = k
        · rw [e]; exact h3
        · exact ih j (by omega)
theorem firstTo_is {xs : List Int} {y : Int} : ∀ k, firstTo xs y k < k → xs.getD (firstTo xs y k) 0 = y := by
  intro k
  induction k with
  | zero => intro h; omega
  | succ k ih =>
    intro h
    unfold firstTo at h ⊢
    split
    · rename_i h1; exact ih h1
    · rename_i h1
      rw [if_neg h1] at h
      split
      · rename_i h2; exact h2
      · rename_i h2; rw [if_neg h2] at h; omega
/-- The last index below k with the number 1; 0, if there is none. -/
def lastTo (xs : List Int) : Nat → Nat
  | 0 => 0
  | k + 1 => if xs.getD k 0 = 1 then k else lastTo xs k
theorem lastTo_at {xs : List Int} {l : Nat} (hl : xs.getD l 0 = 1) : ∀ k, l < k → (∀ j, l < j → j < k → xs.getD j 0 ≠ 1) → lastTo xs k = l := by
  intro k
  induction k with
  | zero => intro h; omega
  | succ k ih =>
    intro h hno
    unfold lastTo
    by_cases e : l = k
    · subst e; rw [if_pos hl]
    · rw [if_neg (hno k (by omega) (by omega))]
      exact ih (by omega) fun j h1 h2 => hno j h1 (by omega)
theorem lastTo_ge {xs : List Int} {f : Nat} (hf : xs.getD f 0 = 1) : ∀ k, f < k → f ≤ lastTo xs k ∧ lastTo xs k < k ∧ xs.getD (lastTo xs k) 0 = 1 := by
  intro k
  induction k with
  | zero => intro h; omega
  | succ k ih =>
    intro h
    unfold lastTo
    split
    · rename_i h1; exact ⟨by omega, by omega, h1⟩
    · rename_i h1
      have : f ≠ k := fun e => h1 (e ▸ hf)
      have := ih (by omega)
      exact ⟨this.1, by omega, this.2.2⟩
theorem lastTo_no {xs : List Int} : ∀ k j, lastTo xs k < j → j < k → xs.getD j 0 ≠ 1 := by
  intro k
  induction k with
  | zero => intro j _ h; omega
  | succ k ih =>
    intro j h1 h2
    unfold lastTo at h1
    split at h1
    · omega
    · rename_i h3
      by_cases e : j = k
      · rw [e]; exact h3
      · exact ih j h1 (by omega)
/-- slices.Index' answer. -/
def idxOf (xs : List Int) (y : Int) : Int := if firstTo xs y xs.length < xs.length then (firstTo xs y xs.length : Int) else -1
/-- slices.Contains' answer. -/
def hasY (xs : List Int) (y : Int) : Bool := decide (firstTo xs y xs.length < xs.length)
/-- The burst of a list with a one: its first index, its length. -/
def burst (xs : List Int) : Int × Int := ((firstTo xs 1 xs.length : Int), (lastTo xs xs.length : Int) - (firstTo xs 1 xs.length : Int) + 1)
/-- BurstOf's answer. -/
def burstA (xs : List Int) : Int × Int × Int := if isBitsB xs = false then (0, 0, 1) else if hasY xs 1 = false then (0, 0, 4) else ((burst xs).1, (burst xs).2, 0)
theorem idxOf_nonneg (xs : List Int) (y : Int) : decide (0 ≤ idxOf xs y) = hasY xs y := by
  unfold idxOf hasY
  split
  · rename_i h
    rw [decide_eq_true h, decide_eq_true (by omega)]
  · rename_i h
    rw [decide_eq_false h]; rfl

theorem index_any (v : Value) (xs : List Int) (y : Int) (w : World) (hr : Rd .i64 w v xs) : Calls Try.prog 54 #[v, .int .i64 y] w fun e w' => e = .returned (.int .i64 (idxOf xs y)) ∧ w = w' := by
  obtain ⟨a, cap, rfl, hl, hm, hn, hc⟩ := hr
  unfold maxLen at hm
  have HC := Lib.hid hc
  clear hc hn
  go_enter Try.func54, Try.ntmps54
  go_wp2
  go_loop [5, 8] (fun q i => ∃ (k : Nat) (q0 : Value), k ≤ xs.length ∧ q0 = q ∧ i = .int .i64 k ∧ ∀ j, j < k → xs.getD j 0 ≠ y) (fun _ i => xs.length - (intOf i).toNat)
  case atStart => exact ⟨0, _, Nat.zero_le _, rfl, rfl, fun j hj => absurd hj (Nat.not_lt_zero _)⟩
  case round =>
    obtain ⟨k, q0, hk, rfl, rfl, hv⟩ := hrel
    have HV := Lib.hid hv
    clear hv
    by_cases hlt : k < xs.length
    · obtain ⟨b, off, rfl, hcell⟩ := HC.out k hlt
      obtain ⟨x, hx⟩ : ∃ x, x = xs.getD k 0 := ⟨_, rfl⟩
      rw [← hx] at hcell
      have HX := Lib.hid hx
      clear hx
      by_cases hxy : y = x
      · have hb : (y == x) = true := by simp [hxy]
        have hres : idxOf xs y = (k : Int) := by
          have h1 := firstTo_at (xs := xs) (y := y) (f := k) (by rw [← HX.out, hxy]) HV.out xs.length hlt
          unfold idxOf; rw [h1, if_pos hlt]
        have HR := Lib.hid hres
        clear hxy hres
        go_wp2
        go_ret
        exact ⟨by rw [HR.out]; rfl, rfl⟩
      · have hb : (y == x) = false := by simp [hxy]
        have HXY := Lib.hid hxy
        clear hxy
        go_wp2
        go_round
        case rel => exact ⟨k + 1, _, by omega, rfl, by go_num, fun j hj => by
            by_cases e : j = k
            · rw [e, ← HX.out]; exact fun h => HXY.out h.symm
            · exact HV.out j (by omega)⟩
        case measure => simp [intOf]; omega
    · have hkl : k = xs.length := by omega
      subst hkl
      have hres : idxOf xs y = -1 := by
        unfold idxOf; rw [firstTo_none _ HV.out, if_neg (by omega)]
      have HR := Lib.hid hres
      clear hres
      go_wp2
      go_ret
      exact ⟨by rw [HR.out]; rfl, rfl⟩
theorem contains_any (v : Value) (xs : List Int) (y : Int) (w : World) (hr : Rd .i64 w v xs) : Calls Try.prog 41 #[v, .int .i64 y] w fun e w' => e = .returned (.bool (hasY xs y)) ∧ w = w' := by
  have h := idxOf_nonneg xs y
  rw [← h]
  clear h
  have HR := Lib.hid hr
  clear hr
  go_enter Try.func41, Try.ntmps41
  go_wp2_with (go_at_call 54; refine (index_any _ xs y _ HR.out).mono ?_; rintro e w' ⟨rfl, rfl⟩)
  go_ret
  exact ⟨rfl, rfl⟩
end Go.Proofs.Ytjkkipmbiljckaa
