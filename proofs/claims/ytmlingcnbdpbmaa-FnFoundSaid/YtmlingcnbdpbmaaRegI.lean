/- The register of the program's numbers and the algebra over Nat: one and the same. No program in sight. -/
import Derived.Test.YtmlingcnbdpbmaaFeed
import Derived.Test.YtmlingcnbdpbmaaRegs
namespace Go.Proofs.Ytmlingcnbdpbmaa
open Go.RowKit
set_option linter.unusedVariables false

/-- The bits of a list of 0 and 1. -/
def bools (xs : List Int) : List Bool := xs.map fun x => decide (x = 1)
theorem length_bools (xs : List Int) : (bools xs).length = xs.length := by simp [bools]
theorem bools_append (xs ys : List Int) : bools (xs ++ ys) = bools xs ++ bools ys := by simp [bools]
theorem bools_snoc (xs : List Int) (x : Int) : bools (xs ++ [x]) = bools xs ++ [decide (x = 1)] := by simp [bools]

theorem p2_nat (n : Nat) : p2 (n : Int) = ((2 ^ n : Nat) : Int) := by simp [p2]
theorem crc_nat {wd po : Int} (h : crcB wd po = true) : ∃ W P : Nat, wd = (W : Int) ∧ po = (P : Int) ∧ 3 ≤ W ∧ W ≤ 24 ∧ 1 ≤ P ∧ P < 2 ^ W ∧ P % 2 = 1 := by
  obtain ⟨h1, h2, h3, h4, h5⟩ := crcB_yes h
  obtain ⟨W, rfl⟩ := Int.eq_ofNat_of_zero_le (show 0 ≤ wd by omega)
  obtain ⟨P, rfl⟩ := Int.eq_ofNat_of_zero_le (show 0 ≤ po by omega)
  rw [p2_nat] at h4
  exact ⟨W, P, rfl, rfl, by omega, by omega, by omega, by omega, by omega⟩
theorem stepI_nat {W P : Nat} (hW : 3 ≤ W) (R : Nat) (hR : R < 2 ^ W) (b : Int) (hb : 0 ≤ b ∧ b ≤ 1) :
    stepI (W : Int) (P : Int) (R : Int) b = ((Reg.stepN W P R (decide (b = 1)) : Nat) : Int) := by
  have e1 : (W : Int) - 1 = ((W - 1 : Nat) : Int) := by omega
  have e2 : 2 ^ W = 2 * 2 ^ (W - 1) := Reg.two_pow_pred (by omega)
  unfold stepI Reg.stepN
  rw [e1, p2_nat, p2_nat]
  have hq : (R : Int) / ((2 ^ (W - 1) : Nat) : Int) = ((R / 2 ^ (W - 1) : Nat) : Int) := by rw [Int.natCast_ediv]
  have hm : (2 * (R : Int)) % ((2 ^ W : Nat) : Int) = ((2 * R % 2 ^ W : Nat) : Int) := by rw [Int.natCast_emod]; rfl
  rw [hq, hm]
  have hlt : R / 2 ^ (W - 1) < 2 := by
    apply Nat.div_lt_of_lt_mul; omega
  have ht : R.testBit (W - 1) = decide (R / 2 ^ (W - 1) = 1) := by
    rw [Nat.testBit_eq_decide_div_mod_eq, Nat.mod_eq_of_lt hlt]
  rw [ht]
  obtain ⟨q, hq0⟩ : ∃ q, q = R / 2 ^ (W - 1) := ⟨_, rfl⟩
  obtain ⟨m, hm0⟩ : ∃ m, m = 2 * R % 2 ^ W := ⟨_, rfl⟩
  rw [← hq0] at hlt ⊢
  rw [← hm0]
  have hbb : b = 0 ∨ b = 1 := by omega
  have hqq : q = 0 ∨ q = 1 := by omega
  rcases hbb with rfl | rfl <;> rcases hqq with rfl | rfl <;> simp [bxor]
theorem feedI_nat {W P : Nat} (hW : 3 ≤ W) (hP : P < 2 ^ W) (xs : List Int) (hb : allIn xs 0 1 = true) (R : Nat) (hR : R < 2 ^ W) :
    feedI (W : Int) (P : Int) (R : Int) xs = ((Reg.feedN W P R (bools xs) : Nat) : Int) := by
  induction xs using snoc_ind with
  | h0 => rfl
  | hs xs x ih =>
    rw [allIn_snoc, Bool.and_eq_true] at hb
    rw [feedI_snoc, ih hb.1, bools_snoc, Reg.feed_append]
    exact stepI_nat hW _ (Reg.feed_lt hP _ _ hR) x (inB_yes hb.2)
theorem numOf_nat (xs : List Int) (hb : allIn xs 0 1 = true) : numOf xs = ((Reg.numN (bools xs) : Nat) : Int) := by
  induction xs using snoc_ind with
  | h0 => rfl
  | hs xs x ih =>
    rw [allIn_snoc, Bool.and_eq_true] at hb
    have h2 := inB_yes hb.2
    rw [numOf_snoc, ih hb.1, bools_snoc, Reg.numN_snoc]
    have hbb : x = 0 ∨ x = 1 := by omega
    rcases hbb with rfl | rfl <;> simp
theorem feedI_append (wd po r : Int) (xs ys : List Int) : feedI wd po r (xs ++ ys) = feedI wd po (feedI wd po r xs) ys := by simp [feedI]
theorem allIn_part {xs : List Int} {lo hi : Int} (h : allIn xs lo hi = true) (k : Nat) : allIn (xs.take k) lo hi = true ∧ allIn (xs.drop k) lo hi = true := by
  have e : xs = xs.take k ++ xs.drop k := (List.take_append_drop k xs).symm
  rw [e, allIn_append, Bool.and_eq_true] at h
  exact h
/-- A LIST HAS ITS CHECK NUMBER: the register is 0 behind it. -/
theorem has_crc {wd po seed : Int} {xs : List Int} (h : crcB wd po = true) (h0 : 0 ≤ seed) (h1 : seed < p2 wd) (hb : allIn xs 0 1 = true) (hl : wd ≤ xs.length) (at0 : Nat) (ha : (at0 : Int) = (xs.length : Int) - wd) :
    decide (feedI wd po seed (xs.take at0) = numOf (xs.drop at0)) = decide (feedI wd po seed xs = 0) := by
  obtain ⟨W, P, rfl, rfl, hW1, hW2, hP1, hP2, hP3⟩ := crc_nat h
  obtain ⟨S, rfl⟩ := Int.eq_ofNat_of_zero_le h0
  rw [p2_nat] at h1
  have hS : S < 2 ^ W := by omega
  obtain ⟨hbt, hbd⟩ := allIn_part hb at0
  have hlen : (bools (xs.drop at0)).length = W := by rw [length_bools, List.length_drop]; omega
  have hA := feedI_nat hW1 hP2 _ hbt S hS
  have hL := feedI_nat hW1 hP2 _ hb S hS
  rw [hA, hL, numOf_nat _ hbd]
  have e : bools xs = bools (xs.take at0) ++ bools (xs.drop at0) := by rw [← bools_append, List.take_append_drop]
  rw [e, Reg.feed_append, Reg.feed_num (by omega) (bools (xs.drop at0)) _ (by omega), hlen, Nat.sub_self, Nat.pow_zero, Nat.mul_one]
  have hr := Reg.feed_lt hP2 (bools (xs.take at0)) S hS
  have hn := Reg.numN_lt (bools (xs.drop at0))
  rw [hlen] at hn
  obtain ⟨r, hr0⟩ : ∃ r, r = Reg.feedN W P S (bools (xs.take at0)) := ⟨_, rfl⟩
  obtain ⟨n, hn0⟩ : ∃ n, n = Reg.numN (bools (xs.drop at0)) := ⟨_, rfl⟩
  rw [← hr0] at hr ⊢
  rw [← hn0] at hn ⊢
  by_cases heq : r = n
  · subst heq
    have hz : Reg.dblN W P W 0 = 0 := by
      have hz : ∀ k, Reg.dblN W P k 0 = 0 := by
        intro k
        induction k with
        | zero => rfl
        | succ k ih =>
          have : Reg.dbl W P 0 = 0 := by rw [Reg.dbl_small (by omega) (Nat.two_pow_pos _)]
          simp only [Reg.dblN, this, ih]
      exact hz W
    simp [hz]
  · have hne : Reg.dblN W P W (r ^^^ n) ≠ 0 := by
      intro hz
      have hx := Reg.dblN_zero (by omega) hP2 hP3 W _ (Nat.xor_lt_two_pow hr hn) hz
      have h2 : (r ^^^ n) ^^^ n = n := by rw [hx, Nat.zero_xor]
      rw [Nat.xor_assoc, Nat.xor_self, Nat.xor_zero] at h2
      exact heq h2
    have a1 : ¬ ((r : Int) = (n : Int)) := by omega
    have a2 : ¬ (((Reg.dblN W P W (r ^^^ n) : Nat) : Int) = 0) := by omega
    simp only [a1, a2]
end Go.Proofs.Ytmlingcnbdpbmaa
