/- Plain mathematics of the program's functions: no program in sight. -/
import Derived.WalkKit
namespace Go.Proofs.YtkhmnkpdlodepaaDoor
open Go.RowKit

/-- n lies from lo to hi. -/
def inB (n lo hi : Int) : Bool := decide (lo ≤ n) && decide (n ≤ hi)
theorem inB_yes {n lo hi : Int} (h : inB n lo hi = true) : lo ≤ n ∧ n ≤ hi := by simpa [inB] using h
theorem inB_no {n lo hi : Int} (h : inB n lo hi = false) : n < lo ∨ hi < n := by
  unfold inB at h
  by_cases h1 : lo ≤ n
  · by_cases h2 : n ≤ hi
    · simp [h1, h2] at h
    · omega
  · omega
theorem inB_mk {n lo hi : Int} (h : lo ≤ n ∧ n ≤ hi) : inB n lo hi = true := by simp [inB, h.1, h.2]
theorem inB_mk_no {n lo hi : Int} (h : n < lo ∨ hi < n) : inB n lo hi = false := by
  cases e : inB n lo hi
  · rfl
  · have := inB_yes e; omega

/-- 2 to the power of n. -/
def p2 (n : Int) : Int := 2 ^ n.toNat
theorem p2_succ (n : Int) (h : 0 ≤ n) : p2 (n + 1) = 2 * p2 n := by
  unfold p2
  have e : (n + 1).toNat = n.toNat + 1 := by omega
  rw [e, Int.pow_succ]; omega
theorem p2_pos (n : Int) : 1 ≤ p2 n := by
  unfold p2
  have : (0 : Int) < 2 ^ n.toNat := Int.pow_pos (by decide)
  omega
theorem p2_mono {a b : Int} (h : a ≤ b) : p2 a ≤ p2 b := by
  unfold p2
  have e : b.toNat = a.toNat + (b.toNat - a.toNat) := by omega
  have h1 : (0 : Int) < 2 ^ (b.toNat - a.toNat) := Int.pow_pos (by decide)
  have h2 : (0 : Int) < 2 ^ a.toNat := Int.pow_pos (by decide)
  rw [e, Int.pow_add]
  have h3 := Int.mul_le_mul_of_nonneg_left (show (1 : Int) ≤ 2 ^ (b.toNat - a.toNat) by omega) (Int.le_of_lt h2)
  omega
theorem p2_le {n : Int} {k : Nat} {c : Int} (h : n ≤ k) (hc : p2 k = c) : p2 n ≤ c := by
  have := p2_mono h; omega
theorem p2_ge {n : Int} {k : Nat} {c : Int} (h : (k : Int) ≤ n) (hc : p2 k = c) : c ≤ p2 n := by
  have := p2_mono h; omega
theorem p2_wrap {n : Int} (h : n ≤ 62) : IntKind.i64.wrap (2 ^ n.toNat) = p2 n := by
  have h1 := p2_pos n
  have h2 : p2 n ≤ 4611686018427387904 := p2_le (k := 62) h (by decide)
  unfold p2 at h1 h2 ⊢
  exact IntWalk.i64_in _ (by omega)
theorem p2_wrap64 {n : Int} (h : n ≤ 62) : wrap64 (2 ^ n.toNat) = p2 n := by
  have h1 := p2_pos n
  have h2 : p2 n ≤ 4611686018427387904 := p2_le (k := 62) h (by decide)
  unfold p2 at h1 h2 ⊢
  exact IntWalk.wrap64_in _ (by omega)
theorem p2_crc {n : Int} (h1 : 3 ≤ n) (h2 : n ≤ 24) : 8 ≤ p2 n ∧ p2 n ≤ 16777216 :=
  ⟨p2_ge (k := 3) h1 (by decide), p2_le (k := 24) h2 (by decide)⟩

/-- IsMajority's answer. -/
def majB (a r : Int) : Bool := inB a 0 256 && inB r 0 256 && decide (r < a)
/-- IsCrc's answer. -/
def crcB (wd po : Int) : Bool := inB wd 3 24 && inB po 1 (p2 wd - 1) && decide (po % 2 = 1)
theorem crcB_yes {wd po : Int} (h : crcB wd po = true) : 3 ≤ wd ∧ wd ≤ 24 ∧ 1 ≤ po ∧ po < p2 wd ∧ po % 2 = 1 := by
  simp only [crcB, Bool.and_eq_true, decide_eq_true_eq] at h
  have h1 := inB_yes h.1.1
  have h2 := inB_yes h.1.2
  have h3 := h.2
  omega
/-- IsState's answer. -/
def stB (t m r s v : Int) : Bool := inB t 0 65535 && inB m 0 15 && inB r 0 15 && inB s 0 255 && inB v 0 4294967295

/-- Bit n of m. -/
def bitB (m n : Int) : Int := m / p2 n % 2
theorem bitB_01 (m n : Int) : 0 ≤ bitB m n ∧ bitB m n ≤ 1 := by unfold bitB; omega
theorem and_one_i64 (x : Int) (h0 : 0 ≤ x) (h1 : x ≤ 9223372036854775807) : bits BinOp.and IntKind.i64 x 1 = x % 2 := by
  have two63 : (2 : Int) ^ 63 = 9223372036854775808 := by decide
  have hw : ∀ n : Int, 0 ≤ n → n < 2 ^ 63 → IntKind.i64.wrap n = n := by
    intro n a b
    rw [two63] at b
    exact IntWalk.i64_in n (by omega)
  have h := bits_mask .i64 63 (by decide) hw 1 (by decide) x h0 (by rw [two63]; omega)
  have e : ((2 : Int) ^ 1 - 1) = 1 := by decide
  have e2 : ((2 : Int) ^ 1) = 2 := by decide
  rw [e, e2] at h
  exact h
theorem bit_and (m n : Int) (h0 : 0 ≤ m) (h1 : m ≤ 9223372036854775807) : bits BinOp.and IntKind.i64 (m / 2 ^ n.toNat) 1 = bitB m n := by
  have hp := p2_pos n
  have h2 : 0 ≤ m / p2 n := Int.ediv_nonneg h0 (by omega)
  have h3 : m / p2 n ≤ m := Int.ediv_le_self _ h0
  have h4 : m / 2 ^ n.toNat = m / p2 n := rfl
  rw [h4, and_one_i64 _ h2 (by omega)]; rfl
/-- Node n is a member. -/
def hasB (m n : Int) : Bool := bitB m n == 1
/-- HasMember's answer. -/
def memB (m n : Int) : Bool := inB m 0 4294967295 && inB n 0 31 && hasB m n
end Go.Proofs.YtkhmnkpdlodepaaDoor
