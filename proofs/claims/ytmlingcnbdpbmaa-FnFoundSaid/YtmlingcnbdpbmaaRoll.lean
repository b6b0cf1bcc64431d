/- Plain mathematics of a register that is fed bits 0: the order of a code; the first number at which something holds. No program in sight. -/
import Derived.Test.YtmlingcnbdpbmaaRegI
namespace Go.Proofs.Ytmlingcnbdpbmaa
open Go.RowKit
set_option linter.unusedVariables false

/-- The register after k bits 0. -/
def rollI (wd po r : Int) (k : Nat) : Int := feedI wd po r (List.replicate k 0)
theorem rollI_zero (wd po r : Int) : rollI wd po r 0 = r := rfl
theorem rollI_succ (wd po r : Int) (k : Nat) : feedI wd po (rollI wd po r k) [0] = rollI wd po r (k + 1) := by
  unfold rollI; rw [List.replicate_succ', feedI_append]
theorem rollI_range {wd po r : Int} (h : crcB wd po = true) (h0 : 0 ≤ r) (h1 : r < p2 wd) (k : Nat) : 0 ≤ rollI wd po r k ∧ rollI wd po r k < p2 wd := feedI_range h h0 h1 _
theorem allIn_zeros (k : Nat) : allIn (List.replicate k 0) 0 1 = true := allIn_mk fun x hx => by
  have := List.eq_of_mem_replicate hx; omega
theorem bools_zeros (k : Nat) : bools (List.replicate k 0) = List.replicate k false := by simp [bools]
theorem rollI_nat {W P : Nat} (hW : 3 ≤ W) (hP : P < 2 ^ W) (R : Nat) (hR : R < 2 ^ W) (k : Nat) : rollI (W : Int) (P : Int) (R : Int) k = ((Reg.dblN W P k R : Nat) : Int) := by
  unfold rollI
  rw [feedI_nat hW hP _ (allIn_zeros k) R hR, bools_zeros, Reg.feed_zeros]

namespace Reg
variable {W P : Nat}
theorem dblN_one (hW : 1 ≤ W) : ∀ k, k < W → dblN W P k 1 = 2 ^ k := by
  intro k
  induction k with
  | zero => intro _; rfl
  | succ k ih =>
    intro h
    rw [dblN_succ, ih (by omega), dbl_small hW (Nat.pow_lt_pow_right (by decide) (by omega)), Nat.pow_succ, Nat.mul_comm]
theorem dblN_W (hW : 1 ≤ W) : dblN W P W 1 = P := by
  obtain ⟨V, rfl⟩ : ∃ V, W = V + 1 := ⟨W - 1, by omega⟩
  rw [dblN_succ, dblN_one hW V (by omega)]
  have e := two_pow_pred (W := V + 1) hW
  have e1 : V + 1 - 1 = V := by omega
  rw [e1] at e
  rw [dbl_top hW (by rw [e1]; exact Nat.le_refl _) (by have := Nat.two_pow_pos V; omega)]
  have : 2 * 2 ^ V - 2 ^ (V + 1) = 0 := by omega
  rw [this, Nat.zero_xor]
theorem dblN_comm (j k r : Nat) : dblN W P j (dblN W P k r) = dblN W P k (dblN W P j r) := by rw [← dblN_add, ← dblN_add, Nat.add_comm]
/-- The register of a single bit 1 at a distance is a factor times that of the number 1. -/
theorem dblN_P (hW : 1 ≤ W) (k : Nat) : dblN W P k P = dblN W P W (dblN W P k 1) := by
  have h : dblN W P k P = dblN W P k (dblN W P W 1) := by rw [dblN_W hW]
  rw [h, dblN_comm]
theorem dblN_eq (hW : 1 ≤ W) (hP : P < 2 ^ W) (hodd : P % 2 = 1) (j k : Nat) : dblN W P j P = dblN W P k P ↔ dblN W P j 1 = dblN W P k 1 := by
  have h1 : 1 < 2 ^ W := by have := Nat.pow_le_pow_right (show 1 ≤ 2 by decide) hW; omega
  rw [dblN_P hW, dblN_P hW]
  exact ⟨fun h => dblN_inj hW hP hodd W _ _ (dblN_lt hP _ _ h1) (dblN_lt hP _ _ h1) h, fun h => by rw [h]⟩
end Reg

theorem roll_one {wd po : Int} (h : crcB wd po = true) : 0 ≤ (1 : Int) ∧ (1 : Int) < p2 wd := by
  obtain ⟨h1, h2, _⟩ := crcB_yes h
  have := p2_crc h1 h2
  omega
/-- Two single errors have the same syndrome just where the powers are the same. -/
theorem roll_eq {wd po : Int} (h : crcB wd po = true) (j k : Nat) : rollI wd po po j = rollI wd po po k ↔ rollI wd po 1 j = rollI wd po 1 k := by
  obtain ⟨W, P, rfl, rfl, hW1, hW2, hP1, hP2, hP3⟩ := crc_nat h
  have h1 : 1 < 2 ^ W := by have := Nat.pow_le_pow_right (show 1 ≤ 2 by decide) hW1; omega
  have e := Reg.dblN_eq (W := W) (P := P) (by omega) hP2 hP3 j k
  have e1 := rollI_nat hW1 hP2 1 h1
  rw [rollI_nat hW1 hP2 P hP2, rollI_nat hW1 hP2 P hP2]
  have e2 : ((1 : Nat) : Int) = 1 := rfl
  rw [e2] at e1
  rw [e1, e1]
  omega
theorem roll_order {wd po : Int} (h : crcB wd po = true) (k : Nat) : (rollI wd po po k = po) ↔ (rollI wd po 1 k = 1) := by
  have := roll_eq h k 0
  rwa [rollI_zero, rollI_zero] at this
theorem feed_single (wd po : Int) (h : crcB wd po = true) : feedI wd po 0 [1] = po := by
  obtain ⟨h1, h2, h3, h4, h5⟩ := crcB_yes h
  have hp := p2_pos wd
  have hp2 := p2_pos (wd - 1)
  have e0 : (0 : Int) / p2 (wd - 1) = 0 := Int.zero_ediv _
  have e1 : bxor 1 0 = 1 := by decide
  have e2 : (2 * 0 : Int) % p2 wd = 0 := by simp
  simp only [feedI, List.foldl_cons, List.foldl_nil, stepI, e0, e1, e2]
  obtain ⟨p, rfl⟩ := Int.eq_ofNat_of_zero_le (show 0 ≤ po by omega)
  simp [bxor]

/-- The least number from 1 to k for which p holds, or k + 1. -/
def leastTo (p : Nat → Bool) : Nat → Nat
  | 0 => 1
  | k + 1 => if leastTo p k ≤ k then leastTo p k else if p (k + 1) then k + 1 else k + 2
theorem leastTo_none {p : Nat → Bool} : ∀ {k : Nat}, (∀ j, 1 ≤ j → j ≤ k → p j = false) → leastTo p k = k + 1
  | 0, _ => rfl
  | k + 1, h => by
    have ih := leastTo_none (p := p) (k := k) (fun j h1 h2 => h j h1 (by omega))
    have h0 := h (k + 1) (by omega) (Nat.le_refl _)
    simp only [leastTo, ih, h0]
    rw [if_neg (by omega)]
    simp
theorem leastTo_hit {p : Nat → Bool} {n : Nat} (h1 : 1 ≤ n) (hb : ∀ j, 1 ≤ j → j < n → p j = false) (hp : p n = true) : ∀ k, n ≤ k → leastTo p k = n := by
  intro k
  induction k with
  | zero => intro h; omega
  | succ k ih =>
    intro h
    by_cases hk : n ≤ k
    · simp only [leastTo, ih hk]; rw [if_pos hk]
    · have e : n = k + 1 := by omega
      subst e
      have := leastTo_none (p := p) (k := k) (fun j a b => hb j a (by omega))
      simp only [leastTo, this, hp]
      rw [if_neg (by omega)]
      simp
theorem leastTo_cases (p : Nat → Bool) (k : Nat) : (1 ≤ leastTo p k ∧ leastTo p k ≤ k ∧ p (leastTo p k) = true ∧ ∀ j, 1 ≤ j → j < leastTo p k → p j = false) ∨ (leastTo p k = k + 1 ∧ ∀ j, 1 ≤ j → j ≤ k → p j = false) := by
  by_cases h : ∃ n, 1 ≤ n ∧ n ≤ k ∧ p n = true ∧ ∀ j, 1 ≤ j → j < n → p j = false
  · obtain ⟨n, h1, h2, h3, h4⟩ := h
    have e := leastTo_hit h1 h4 h3 k h2
    rw [e]
    exact .inl ⟨h1, h2, h3, h4⟩
  · have hn : ∀ j, 1 ≤ j → j ≤ k → p j = false := by
      intro j
      induction j using Nat.strongRecOn with
      | ind j ih =>
        intro h1 h2
        cases hp : p j
        · rfl
        · exact absurd ⟨j, h1, h2, hp, fun i a b => ih i b a (by omega)⟩ h
    exact .inr ⟨leastTo_none hn, hn⟩

/-- The order of a code, or 5001 if it is greater than 5000. -/
def ordI (wd po : Int) : Int := (leastTo (fun n => decide (rollI wd po 1 n = 1)) 5000 : Nat)
theorem ordI_hit {wd po : Int} {n : Nat} (h1 : 1 ≤ n) (h2 : n ≤ 5000) (hb : ∀ j, 1 ≤ j → j < n → rollI wd po 1 j ≠ 1) (hp : rollI wd po 1 n = 1) : ordI wd po = n := by
  unfold ordI
  rw [leastTo_hit h1 (fun j a b => decide_eq_false (hb j a b)) (decide_eq_true hp) 5000 h2]
theorem ordI_none {wd po : Int} (hb : ∀ j, 1 ≤ j → j ≤ 5000 → rollI wd po 1 j ≠ 1) : ordI wd po = 5001 := by
  unfold ordI
  rw [leastTo_none (fun j a b => decide_eq_false (hb j a b))]
  rfl
theorem ordI_cases (wd po : Int) : (∃ n : Nat, ordI wd po = n ∧ 1 ≤ n ∧ n ≤ 5000 ∧ rollI wd po 1 n = 1 ∧ ∀ j, 1 ≤ j → j < n → rollI wd po 1 j ≠ 1) ∨ (ordI wd po = 5001 ∧ ∀ j, 1 ≤ j → j ≤ 5000 → rollI wd po 1 j ≠ 1) := by
  unfold ordI
  rcases leastTo_cases (fun n => decide (rollI wd po 1 n = 1)) 5000 with ⟨h1, h2, h3, h4⟩ | ⟨h1, h2⟩
  · exact .inl ⟨_, rfl, h1, h2, of_decide_eq_true h3, fun j a b => of_decide_eq_false (h4 j a b)⟩
  · exact .inr ⟨by rw [h1]; rfl, fun j a b => of_decide_eq_false (h2 j a b)⟩
/-- OrderOf's answer. -/
def ordA (wd po : Int) : Int × Int := if crcB wd po = false then (0, 1) else if ordI wd po = 5001 then (0, 3) else (ordI wd po, 0)
end Go.Proofs.Ytmlingcnbdpbmaa
