/- Plain laws of numbers and their bits. No program in sight. -/
import Derived.Test.YtkhmnkpdlodepaaDoorNums
namespace Go.Proofs.YtkhmnkpdlodepaaDoor
open Go.RowKit
set_option linter.unusedVariables false

theorem bitB_succ (x : Int) (k : Nat) : bitB x ((k + 1 : Nat) : Int) = bitB (x / 2) (k : Int) := by
  unfold bitB p2
  have e1 : (((k + 1 : Nat) : Int)).toNat = k + 1 := by omega
  have e2 : ((k : Nat) : Int).toNat = k := by omega
  have h : x / 2 / 2 ^ k = x / (2 * 2 ^ k) := by rw [Int.ediv_ediv]; simp
  rw [e1, e2, Int.pow_succ, Int.mul_comm, ← h]
theorem bitB_zero (x : Int) : bitB x 0 = x % 2 := by simp [bitB, p2]
theorem bitsOf_succ (x : Int) (n : Nat) : bitsOf x (n + 1) = bitsOf (x / 2) n ++ [x % 2] := by
  have h : bitsUpto x (n + 1) n = bitsUpto (x / 2) n n := by
    unfold bitsUpto
    apply List.map_congr_left
    intro i hi
    have hi' := List.mem_range.1 hi
    have e1 : ((n + 1 : Nat) : Int) - 1 - (i : Int) = (((n - 1 - i) + 1 : Nat) : Int) := by omega
    have e2 : (n : Int) - 1 - (i : Int) = ((n - 1 - i : Nat) : Int) := by omega
    rw [e1, e2, bitB_succ]
  unfold bitsOf
  rw [bitsUpto_succ, h]
  have e : ((n + 1 : Nat) : Int) - 1 - (n : Int) = 0 := by omega
  rw [e, bitB_zero]
theorem bitsOf_numOf : ∀ (ys : List Int), allIn ys 0 1 = true → bitsOf (numOf ys) ys.length = ys := by
  intro ys
  induction ys using snoc_ind with
  | h0 => intro _; rfl
  | hs ys y ih =>
    intro h
    rw [allIn_snoc, Bool.and_eq_true] at h
    have h2 := inB_yes h.2
    rw [numOf_snoc, List.length_append, List.length_singleton, bitsOf_succ]
    have e1 : (2 * numOf ys + y) / 2 = numOf ys := by omega
    have e2 : (2 * numOf ys + y) % 2 = y := by omega
    rw [e1, e2, ih h.1]
theorem numOf_bitsOf : ∀ (n : Nat) (x : Int), 0 ≤ x → x < p2 n → numOf (bitsOf x n) = x := by
  intro n
  induction n with
  | zero =>
    intro x h0 h1
    have : p2 ((0 : Nat) : Int) = 1 := by decide
    have : x = 0 := by omega
    subst this
    rfl
  | succ n ih =>
    intro x h0 h1
    rw [bitsOf_succ, numOf_snoc]
    have e := p2_succ (n : Int) (by omega)
    have e2 : ((n + 1 : Nat) : Int) = (n : Int) + 1 := by omega
    rw [e2, e] at h1
    rw [ih (x / 2) (by omega) (by omega)]
    omega
end Go.Proofs.YtkhmnkpdlodepaaDoor
