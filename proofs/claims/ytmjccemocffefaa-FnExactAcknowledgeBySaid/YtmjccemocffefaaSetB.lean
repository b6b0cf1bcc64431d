/- Plain facts: a bit set, a bit cleared in a vector. No program in sight. -/
import Derived.Test.YtmjccemocffefaaNums
namespace Go.Proofs.Ytmjccemocffefaa
open Go.RowKit
set_option linter.unusedVariables false
set_option linter.unusedSimpArgs false

/-- A vector with (b) or without (not b) a node. -/
def setB (m n : Int) (b : Bool) : Int := if hasB m n = b then m else bxor m (p2 n)
theorem hasB_nat (M N : Nat) : hasB (M : Int) (N : Int) = M.testBit N := by
  unfold hasB bitB
  have e : p2 (N : Int) = ((2 ^ N : Nat) : Int) := by simp [p2]
  rw [e, Nat.testBit_eq_decide_div_mod_eq]
  have h : (M : Int) / ((2 ^ N : Nat) : Int) % 2 = ((M / 2 ^ N % 2 : Nat) : Int) := by rw [← Int.natCast_ediv]; rfl
  rw [h]
  cases hd : decide (M / 2 ^ N % 2 = 1)
  · have h1 := of_decide_eq_false hd
    have h2 : ((M / 2 ^ N % 2 : Nat) : Int) ≠ 1 := by omega
    simpa using h2
  · have h1 := of_decide_eq_true hd
    rw [h1]; rfl
theorem or_pow (M N : Nat) : M ||| 2 ^ N = if M.testBit N = true then M else M ^^^ 2 ^ N := by
  split
  · rename_i h
    apply Nat.eq_of_testBit_eq
    intro i
    rw [Nat.testBit_or, Nat.testBit_two_pow]
    by_cases hi : N = i
    · subst hi; simp [h]
    · simp [hi]
  · rename_i h
    apply Nat.eq_of_testBit_eq
    intro i
    rw [Nat.testBit_or, Nat.testBit_xor, Nat.testBit_two_pow]
    by_cases hi : N = i
    · subst hi; simp [h]
    · simp [hi]
theorem not_pow (M N : Nat) (hM : M < 2 ^ 63) (hN : N < 63) : (BitVec.ofNat 64 M &&& ~~~ BitVec.ofNat 64 (2 ^ N)) = BitVec.ofNat 64 (if M.testBit N = true then M ^^^ 2 ^ N else M) := by
  split
  · rename_i h
    apply BitVec.eq_of_getLsbD_eq
    intro i hi
    rw [BitVec.getLsbD_and, BitVec.getLsbD_not, BitVec.getLsbD_ofNat, BitVec.getLsbD_ofNat, BitVec.getLsbD_ofNat, Nat.testBit_xor, Nat.testBit_two_pow]
    by_cases hx : N = i
    · subst hx; simp [h]
    · simp [hx, hi]
  · rename_i h
    apply BitVec.eq_of_getLsbD_eq
    intro i hi
    rw [BitVec.getLsbD_and, BitVec.getLsbD_not, BitVec.getLsbD_ofNat, BitVec.getLsbD_ofNat, Nat.testBit_two_pow]
    by_cases hx : N = i
    · subst hx; simp [h]
    · simp [hx, hi]
theorem pow_lt63 {N : Nat} (h : N ≤ 31) : 2 ^ N < 2 ^ 63 := Nat.pow_lt_pow_right (by decide) (by omega)
theorem set_nat (M N : Nat) (b : Bool) : setB (M : Int) (N : Int) b = ((if M.testBit N = b then M else M ^^^ 2 ^ N : Nat) : Int) := by
  unfold setB
  rw [hasB_nat]
  have e : p2 (N : Int) = ((2 ^ N : Nat) : Int) := by simp [p2]
  split
  · rfl
  · rw [e]; simp only [bxor, Int.toNat_natCast]
theorem setB_bound {m n : Int} (b : Bool) (h1 : 0 ≤ m) (h2 : m ≤ 4294967295) (h3 : 0 ≤ n) (h4 : n ≤ 31) : 0 ≤ setB m n b ∧ setB m n b ≤ 4294967295 := by
  obtain ⟨M, rfl⟩ := Int.eq_ofNat_of_zero_le h1
  obtain ⟨N, rfl⟩ := Int.eq_ofNat_of_zero_le h3
  rw [set_nat]
  have hp : 2 ^ N < 2 ^ 32 := Nat.pow_lt_pow_right (by decide) (by omega)
  have hx : M ^^^ 2 ^ N < 2 ^ 32 := Nat.xor_lt_two_pow (by omega) hp
  split <;> omega
theorem bits_or_set {m n : Int} (h1 : 0 ≤ m) (h2 : m ≤ 4294967295) (h3 : 0 ≤ n) (h4 : n ≤ 31) : bits BinOp.or IntKind.i64 m (p2 n) = setB m n true := by
  have hbd := setB_bound true h1 h2 h3 h4
  obtain ⟨M, rfl⟩ := Int.eq_ofNat_of_zero_le h1
  obtain ⟨N, rfl⟩ := Int.eq_ofNat_of_zero_le h3
  have e : p2 (N : Int) = ((2 ^ N : Nat) : Int) := by simp [p2]
  have hp := pow_lt63 (N := N) (by omega)
  have a1 : (BitVec.ofInt 64 (M : Int)).toNat = M := by
    rw [BitVec.ofInt_natCast, BitVec.toNat_ofNat]; exact Nat.mod_eq_of_lt (by omega)
  have a2 : (BitVec.ofInt 64 ((2 ^ N : Nat) : Int)).toNat = 2 ^ N := by
    rw [BitVec.ofInt_natCast, BitVec.toNat_ofNat]; exact Nat.mod_eq_of_lt (by omega)
  rw [set_nat] at hbd ⊢
  rw [e]
  show IntKind.i64.wrap ((BitVec.ofInt 64 (M : Int) ||| BitVec.ofInt 64 ((2 ^ N : Nat) : Int)).toNat : Int) = _
  rw [BitVec.toNat_or, a1, a2, or_pow]
  exact IntWalk.i64_in _ (by omega)
theorem bits_not_set {m n : Int} (h1 : 0 ≤ m) (h2 : m ≤ 4294967295) (h3 : 0 ≤ n) (h4 : n ≤ 31) : bits BinOp.andNot IntKind.i64 m (p2 n) = setB m n false := by
  have hbd := setB_bound false h1 h2 h3 h4
  obtain ⟨M, rfl⟩ := Int.eq_ofNat_of_zero_le h1
  obtain ⟨N, rfl⟩ := Int.eq_ofNat_of_zero_le h3
  have e : p2 (N : Int) = ((2 ^ N : Nat) : Int) := by simp [p2]
  have hp := pow_lt63 (N := N) (by omega)
  rw [set_nat] at hbd ⊢
  rw [e]
  show IntKind.i64.wrap ((BitVec.ofInt 64 (M : Int) &&& ~~~ BitVec.ofInt 64 ((2 ^ N : Nat) : Int)).toNat : Int) = _
  rw [BitVec.ofInt_natCast, BitVec.ofInt_natCast, not_pow M N (by omega) (by omega), BitVec.toNat_ofNat]
  have hs : (if M.testBit N = true then M ^^^ 2 ^ N else M) = (if M.testBit N = false then M else M ^^^ 2 ^ N) := by cases M.testBit N <;> simp
  rw [hs, Nat.mod_eq_of_lt (by omega)]
  exact IntWalk.i64_in _ (by omega)
end Go.Proofs.Ytmjccemocffefaa
