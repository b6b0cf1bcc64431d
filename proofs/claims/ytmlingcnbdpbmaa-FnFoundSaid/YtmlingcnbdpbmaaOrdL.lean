/- Plain laws of orders: two errors at a distance are missed where the powers come back to 1. No program in sight. -/
import Derived.Test.YtmlingcnbdpbmaaRoll
import Derived.Test.YtmlingcnbdpbmaaMiss
namespace Go.Proofs.Ytmlingcnbdpbmaa
open Go.RowKit
set_option linter.unusedVariables false

/-- Two ones at the distance m. -/
def pairL (m : Nat) : List Int := ((List.replicate (m + 1) (0 : Int)).set 0 1).set m 1
theorem pairL_eq (m : Nat) (h : 1 ≤ m) : pairL m = [1] ++ (List.replicate (m - 1) 0 ++ [1]) := by
  obtain ⟨n, rfl⟩ : ∃ n, m = n + 1 := ⟨m - 1, by omega⟩
  have e1 : List.replicate (n + 1 + 1) (0 : Int) = 0 :: (List.replicate n 0 ++ [0]) := by rw [List.replicate_succ, List.replicate_succ']
  have e2 : n + 1 - 1 = n := by omega
  rw [pairL, e1, e2]
  simp only [List.set_cons_zero, List.set_cons_succ, List.singleton_append]
  rw [List.set_append_right _ _ (by simp)]
  simp
theorem length_pairL (m : Nat) : (pairL m).length = m + 1 := by simp [pairL]
theorem miss_pair {wd po : Int} (hc : crcB wd po = true) (m : Nat) (h1 : 1 ≤ m) (h2 : m ≤ 8000) : missB wd po (pairL m) = decide (rollI wd po 1 m = 1) := by
  have hall : allIn (pairL m) 0 1 = true := by
    rw [pairL_eq m h1, allIn_append, allIn_append, allIn_zeros]; rfl
  have hbits : isBitsB (pairL m) = true := isBitsB_mk (by rw [length_pairL]; omega) hall
  have hget : (pairL m).getD 0 0 = 1 := by rw [pairL_eq m h1]; rfl
  have hhas : hasY (pairL m) 1 = true := by
    unfold hasY
    rw [length_pairL, firstTo_at (f := 0) hget (fun j hj => by omega) _ (by omega)]
    simp
  simp only [missB, hc, hbits, hhas, Bool.true_and]
  apply decide_eq_decide.2
  rw [← roll_order hc m]
  obtain ⟨W, P, rfl, rfl, hW1, hW2, hP1, hP2, hP3⟩ := crc_nat hc
  have f0 := feedI_nat hW1 hP2 (pairL m) hall 0 (Nat.two_pow_pos W)
  have e0 : ((0 : Nat) : Int) = 0 := rfl
  rw [e0] at f0
  rw [f0, rollI_nat hW1 hP2 P hP2]
  have eb : bools (pairL m) = [true] ++ (List.replicate (m - 1) false ++ [true]) := by
    rw [pairL_eq m h1, bools_append, bools_append, bools_zeros]; rfl
  have h1' : Reg.feedN W P 0 [true] = P := by simp [Reg.feedN, Reg.stepN]
  have h2' : Reg.feedN W P 0 (bools (pairL m)) = Reg.dblN W P m P ^^^ P := by
    rw [eb, Reg.feed_append, Reg.feed_append, h1', Reg.feed_zeros]
    have hx := Reg.step_xor (W := W) (P := P) (Reg.dblN W P (m - 1) P) 0 false true
    have h3 : Reg.stepN W P 0 true = P := by simp [Reg.stepN]
    rw [Nat.xor_zero, h3] at hx
    have e : m = (m - 1) + 1 := by omega
    have h4 : Reg.dblN W P m P = Reg.stepN W P (Reg.dblN W P (m - 1) P) false := by
      conv => lhs; rw [e]
      exact Reg.dblN_succ (m - 1) P
    rw [h4]
    exact hx
  rw [h2']
  constructor
  · intro h
    have h0 : Reg.dblN W P m P ^^^ P = 0 := by omega
    have h5 : (Reg.dblN W P m P ^^^ P) ^^^ P = P := by rw [h0, Nat.zero_xor]
    rw [Nat.xor_assoc, Nat.xor_self, Nat.xor_zero] at h5
    rw [h5]
  · intro h
    have h5 : Reg.dblN W P m P = P := by omega
    rw [h5, Nat.xor_self]; rfl
/-- TWO ERRORS AT THE DISTANCE OF THE ORDER ARE MISSED, AND AT NO SMALLER DISTANCE. -/
theorem order_pairs {wd po : Int} (h : (ordA wd po).2 = 0) :
    ∃ n : Nat, (ordA wd po).1 = n ∧ 1 ≤ n ∧ n ≤ 5000 ∧ missB wd po (pairL n) = true ∧ ∀ k, 1 ≤ k → k ≤ n → missB wd po (pairL k) = decide ((k : Int) = (n : Int)) := by
  cases hc : crcB wd po
  · exfalso
    have : (ordA wd po).2 = 1 := by simp [ordA, hc]
    omega
  rcases ordI_cases wd po with ⟨n, e, h1, h2, h3, h4⟩ | ⟨e, _⟩
  rotate_left
  · exfalso
    have : (ordA wd po).2 = 3 := by simp [ordA, hc, e]
    omega
  have hne : ¬ ((n : Int) = 5001) := by omega
  refine ⟨n, by simp [ordA, hc, e, hne], h1, h2, by rw [miss_pair hc n h1 (by omega)]; exact decide_eq_true h3, fun k hk1 hk2 => ?_⟩
  rw [miss_pair hc k hk1 (by omega)]
  apply decide_eq_decide.2
  constructor
  · intro hk
    by_cases hlt : k < n
    · exact absurd hk (h4 k hk1 hlt)
    · omega
  · intro hk
    have : k = n := by omega
    rw [this]; exact h3
end Go.Proofs.Ytmlingcnbdpbmaa
