/- The algebra of a cyclic code's register: feeding is linear, doubling is one to one, and a number that is fed bit by bit is exclusive-ored at once. No program in sight. -/
import Derived.Test.YtmlingcnbdpbmaaNums
namespace Go.Proofs.Ytmlingcnbdpbmaa
namespace Reg

/-- The register after a bit: W its width, P the polynomial. -/
def stepN (W P r : Nat) (b : Bool) : Nat := ((2 * r) % 2 ^ W) ^^^ (if (b ^^ r.testBit (W - 1)) then P else 0)
def feedN (W P r : Nat) (bs : List Bool) : Nat := bs.foldl (stepN W P) r
/-- The register after a bit 0. -/
def dbl (W P r : Nat) : Nat := stepN W P r false
/-- .. after k of them. -/
def dblN (W P : Nat) : Nat → Nat → Nat
  | 0, r => r
  | k + 1, r => dblN W P k (dbl W P r)
/-- The number with some bits. -/
def numN (bs : List Bool) : Nat := bs.foldl (fun n b => 2 * n + b.toNat) 0

section
variable {W P : Nat}

theorem step_lt (hP : P < 2 ^ W) (r : Nat) (b : Bool) : stepN W P r b < 2 ^ W := by
  unfold stepN
  refine Nat.xor_lt_two_pow (Nat.mod_lt _ (Nat.two_pow_pos W)) ?_
  split
  · exact hP
  · exact Nat.two_pow_pos W
theorem feed_lt (hP : P < 2 ^ W) : ∀ (bs : List Bool) (r : Nat), r < 2 ^ W → feedN W P r bs < 2 ^ W := by
  intro bs
  induction bs with
  | nil => intro r h; exact h
  | cons b bs ih => intro r _; exact ih _ (step_lt hP r b)
theorem feed_append (r : Nat) (as bs : List Bool) : feedN W P r (as ++ bs) = feedN W P (feedN W P r as) bs := by simp [feedN]

theorem two_mul_xor (a b : Nat) : 2 * (a ^^^ b) = (2 * a) ^^^ (2 * b) := by
  apply Nat.eq_of_testBit_eq
  intro i
  rw [Nat.testBit_xor, ← Nat.pow_one 2, Nat.testBit_two_pow_mul, Nat.testBit_two_pow_mul, Nat.testBit_two_pow_mul, Nat.testBit_xor]
  by_cases h : i ≥ 1 <;> simp [h]
theorem xor_mod (a b : Nat) : (a ^^^ b) % 2 ^ W = (a % 2 ^ W) ^^^ (b % 2 ^ W) := by
  apply Nat.eq_of_testBit_eq
  intro i
  rw [Nat.testBit_xor, Nat.testBit_mod_two_pow, Nat.testBit_mod_two_pow, Nat.testBit_mod_two_pow, Nat.testBit_xor]
  by_cases h : i < W <;> simp [h]
theorem step_xor (r s : Nat) (b c : Bool) : stepN W P (r ^^^ s) (b ^^ c) = stepN W P r b ^^^ stepN W P s c := by
  unfold stepN
  rw [two_mul_xor, xor_mod, Nat.testBit_xor]
  generalize (2 * r) % 2 ^ W = A
  generalize (2 * s) % 2 ^ W = B
  apply Nat.eq_of_testBit_eq
  intro i
  simp only [Nat.testBit_xor]
  cases b <;> cases c <;> cases r.testBit (W - 1) <;> cases s.testBit (W - 1) <;> simp <;> cases A.testBit i <;> cases B.testBit i <;> cases P.testBit i <;> rfl
theorem dbl_xor (r s : Nat) : dbl W P (r ^^^ s) = dbl W P r ^^^ dbl W P s := step_xor r s false false
theorem dblN_xor : ∀ (k r s : Nat), dblN W P k (r ^^^ s) = dblN W P k r ^^^ dblN W P k s := by
  intro k
  induction k with
  | zero => intro r s; rfl
  | succ k ih => intro r s; simp only [dblN, dbl_xor, ih]
theorem dbl_lt (hP : P < 2 ^ W) (r : Nat) : dbl W P r < 2 ^ W := step_lt hP r false
theorem dblN_lt (hP : P < 2 ^ W) : ∀ (k r : Nat), r < 2 ^ W → dblN W P k r < 2 ^ W := by
  intro k
  induction k with
  | zero => intro r h; exact h
  | succ k ih => intro r _; exact ih _ (dbl_lt hP r)
theorem dblN_add : ∀ (j k r : Nat), dblN W P (j + k) r = dblN W P k (dblN W P j r) := by
  intro j
  induction j with
  | zero => intro k r; rw [Nat.zero_add]; rfl
  | succ j ih => intro k r; rw [Nat.succ_add]; exact ih k (dbl W P r)
theorem dblN_succ (k r : Nat) : dblN W P (k + 1) r = dbl W P (dblN W P k r) := dblN_add k 1 r
theorem feed_zeros : ∀ (k r : Nat), feedN W P r (List.replicate k false) = dblN W P k r := by
  intro k
  induction k with
  | zero => intro r; rfl
  | succ k ih => intro r; exact ih (dbl W P r)
theorem feed_xor : ∀ (as bs : List Bool) (r s : Nat), as.length = bs.length → feedN W P (r ^^^ s) (List.zipWith (· ^^ ·) as bs) = feedN W P r as ^^^ feedN W P s bs := by
  intro as
  induction as with
  | nil =>
    intro bs r s h
    have : bs = [] := List.eq_nil_of_length_eq_zero h.symm
    subst this
    rfl
  | cons a as ih =>
    intro bs r s h
    cases bs with
    | nil => simp at h
    | cons b bs =>
      have h' : as.length = bs.length := by simpa using h
      show feedN W P (stepN W P (r ^^^ s) (a ^^ b)) (List.zipWith (· ^^ ·) as bs) = feedN W P (stepN W P r a) as ^^^ feedN W P (stepN W P s b) bs
      rw [step_xor]
      exact ih bs _ _ h'

/-- Doubling a register that is not full. -/
theorem dbl_small (hW : 1 ≤ W) {r : Nat} (h : r < 2 ^ (W - 1)) : dbl W P r = 2 * r := by
  have e : 2 ^ W = 2 * 2 ^ (W - 1) := by
    have : W = (W - 1) + 1 := by omega
    rw [this, Nat.pow_succ]; simp; omega
  have ht : r.testBit (W - 1) = false := Nat.testBit_lt_two_pow h
  simp only [dbl, stepN, ht]
  rw [Nat.mod_eq_of_lt (by omega)]
  simp
/-- Doubling a register with the top bit. -/
theorem dbl_top (hW : 1 ≤ W) {r : Nat} (h1 : 2 ^ (W - 1) ≤ r) (h2 : r < 2 ^ W) : dbl W P r = (2 * r - 2 ^ W) ^^^ P := by
  have e : 2 ^ W = 2 * 2 ^ (W - 1) := by
    have : W = (W - 1) + 1 := by omega
    rw [this, Nat.pow_succ]; simp; omega
  have ht : r.testBit (W - 1) = true := by
    rw [Nat.testBit_eq_decide_div_mod_eq]
    have : r / 2 ^ (W - 1) = 1 := Nat.div_eq_of_lt_le (by omega) (by omega)
    simp [this]
  have hm : 2 * r % 2 ^ W = 2 * r - 2 ^ W := by
    rw [Nat.mod_eq_sub_mod (by omega)]
    exact Nat.mod_eq_of_lt (by omega)
  simp only [dbl, stepN, ht, hm]
  simp
theorem dbl_zero (hW : 1 ≤ W) (hodd : P % 2 = 1) {r : Nat} (hr : r < 2 ^ W) (h : dbl W P r = 0) : r = 0 := by
  have e : 2 ^ W = 2 * 2 ^ (W - 1) := by
    have : W = (W - 1) + 1 := by omega
    rw [this, Nat.pow_succ]; simp; omega
  by_cases ht : r < 2 ^ (W - 1)
  · rw [dbl_small hW ht] at h; omega
  · rw [dbl_top hW (by omega) hr] at h
    have h0 : ((2 * r - 2 ^ W) ^^^ P) % 2 ^ 1 = 0 := by rw [h]
    rw [xor_mod] at h0
    have h1 : (2 * r - 2 ^ W) % 2 ^ 1 = 0 := by omega
    have h2 : P % 2 ^ 1 = 1 := by omega
    rw [h1, h2] at h0
    simp at h0
theorem dblN_zero (hW : 1 ≤ W) (hP : P < 2 ^ W) (hodd : P % 2 = 1) : ∀ (k r : Nat), r < 2 ^ W → dblN W P k r = 0 → r = 0 := by
  intro k
  induction k with
  | zero => intro r _ h; exact h
  | succ k ih => intro r hr h; exact dbl_zero hW hodd hr (ih _ (dbl_lt hP r) h)
theorem dblN_inj (hW : 1 ≤ W) (hP : P < 2 ^ W) (hodd : P % 2 = 1) (k r s : Nat) (hr : r < 2 ^ W) (hs : s < 2 ^ W) (h : dblN W P k r = dblN W P k s) : r = s := by
  have h0 : dblN W P k (r ^^^ s) = 0 := by rw [dblN_xor, h, Nat.xor_self]
  have h1 := dblN_zero hW hP hodd k _ (Nat.xor_lt_two_pow hr hs) h0
  have h2 : (r ^^^ s) ^^^ s = s := by rw [h1, Nat.zero_xor]
  rwa [Nat.xor_assoc, Nat.xor_self, Nat.xor_zero] at h2

theorem two_pow_pred (hW : 1 ≤ W) : 2 ^ W = 2 * 2 ^ (W - 1) := by
  have : W = (W - 1) + 1 := by omega
  rw [this, Nat.pow_succ]; simp; omega
/-- A bit that is fed is a bit on top of the register. -/
theorem step_dbl (hW : 1 ≤ W) (r : Nat) (b : Bool) : stepN W P r b = dbl W P (r ^^^ (b.toNat * 2 ^ (W - 1))) := by
  cases b with
  | false => simp [dbl]
  | true =>
    have h1 : stepN W P 0 true = P := by simp [stepN]
    have h2 : dbl W P (2 ^ (W - 1)) = P := by
      have := two_pow_pred hW
      rw [dbl_top hW (Nat.le_refl _) (by have := Nat.two_pow_pos (W - 1); omega)]
      have e : 2 * 2 ^ (W - 1) - 2 ^ W = 0 := by omega
      rw [e, Nat.zero_xor]
    have h3 := step_xor (W := W) (P := P) r 0 false true
    simp only [Nat.xor_zero, Bool.false_xor] at h3
    rw [h3, h1, dbl_xor, Bool.toNat_true, Nat.one_mul, h2]
    rfl

theorem numN_snoc (bs : List Bool) (b : Bool) : numN (bs ++ [b]) = 2 * numN bs + b.toNat := by simp [numN]
theorem numFromN (n : Nat) : ∀ (bs : List Bool), bs.foldl (fun n b => 2 * n + b.toNat) n = n * 2 ^ bs.length + numN bs := by
  intro bs
  induction bs generalizing n with
  | nil => simp [numN]
  | cons b bs ih =>
    have h1 := ih (2 * n + b.toNat)
    have h2 := ih (2 * 0 + b.toNat)
    simp only [List.foldl_cons, List.length_cons, Nat.pow_succ, numN] at h1 h2 ⊢
    rw [h1, h2]
    simp only [Nat.add_mul, Nat.mul_zero, Nat.zero_add]
    have e : 2 * n * 2 ^ bs.length = n * (2 ^ bs.length * 2) := by rw [Nat.mul_comm 2 n, Nat.mul_assoc, Nat.mul_comm 2]
    omega
theorem numN_cons (b : Bool) (bs : List Bool) : numN (b :: bs) = b.toNat * 2 ^ bs.length + numN bs := by
  have := numFromN (2 * 0 + b.toNat) bs
  simpa [numN] using this
theorem numN_lt : ∀ (bs : List Bool), numN bs < 2 ^ bs.length := by
  intro bs
  induction bs with
  | nil => simp [numN]
  | cons b bs ih =>
    rw [numN_cons, List.length_cons, Nat.pow_succ]
    have : b.toNat ≤ 1 := by cases b <;> decide
    have h2 : b.toNat * 2 ^ bs.length ≤ 2 ^ bs.length := by
      have := Nat.mul_le_mul_right (2 ^ bs.length) this
      omega
    omega

theorem two_pow_add_xor {i a : Nat} (h : a < 2 ^ i) (b : Nat) : 2 ^ i * b + a = (2 ^ i * b) ^^^ a := by
  apply Nat.eq_of_testBit_eq
  intro j
  rw [Nat.testBit_two_pow_mul_add b h, Nat.testBit_xor, Nat.testBit_two_pow_mul]
  by_cases hj : j < i
  · have : ¬ (j ≥ i) := by omega
    simp [hj, this]
  · have h2 : a.testBit j = false := Nat.testBit_lt_two_pow (Nat.lt_of_lt_of_le h (Nat.pow_le_pow_right (by decide) (by omega)))
    have : j ≥ i := by omega
    simp [hj, this, h2]

/-- A LIST OF AT MOST W BITS IS EXCLUSIVE-ORED AT ONCE. -/
theorem feed_num (hW : 1 ≤ W) : ∀ (bs : List Bool) (r : Nat), bs.length ≤ W → feedN W P r bs = dblN W P bs.length (r ^^^ (numN bs * 2 ^ (W - bs.length))) := by
  intro bs
  induction bs with
  | nil => intro r _; simp [numN, dblN, feedN]
  | cons b bs ih =>
    intro r hl
    have hl' : bs.length + 1 ≤ W := by simpa using hl
    have h1 : feedN W P r (b :: bs) = feedN W P (stepN W P r b) bs := rfl
    rw [h1, ih _ (by omega), step_dbl hW]
    have hn := numN_lt bs
    have e1 : 2 ^ (W - bs.length) = 2 * 2 ^ (W - 1 - bs.length) := by
      have : W - bs.length = (W - 1 - bs.length) + 1 := by omega
      rw [this, Nat.pow_succ]; omega
    have e2 : 2 ^ (W - 1) = 2 ^ bs.length * 2 ^ (W - 1 - bs.length) := by
      rw [← Nat.pow_add]; congr 1; omega
    have hlt : numN bs * 2 ^ (W - 1 - bs.length) < 2 ^ (W - 1) := by
      rw [e2]; exact Nat.mul_lt_mul_of_pos_right hn (Nat.two_pow_pos _)
    have e3 : numN bs * 2 ^ (W - bs.length) = dbl W P (numN bs * 2 ^ (W - 1 - bs.length)) := by
      rw [dbl_small hW hlt, e1, Nat.mul_left_comm]
    have e4 : W - (b :: bs).length = W - 1 - bs.length := by simp; omega
    have e5 : numN (b :: bs) * 2 ^ (W - 1 - bs.length) = (b.toNat * 2 ^ (W - 1)) ^^^ (numN bs * 2 ^ (W - 1 - bs.length)) := by
      rw [numN_cons, Nat.add_mul, Nat.mul_assoc, ← e2, Nat.mul_comm b.toNat]
      exact two_pow_add_xor hlt b.toNat
    rw [e3, ← dbl_xor, Nat.xor_assoc, ← e5, ← e4]
    rfl
end
end Reg
end Go.Proofs.Ytmlingcnbdpbmaa
