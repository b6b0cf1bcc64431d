/- Plain mathematics of lists of numbers: bits of a number, number of bits, the exclusive or. No program in sight. -/
import Derived.Test.YtkhmnkpdlodepaaDoorView
namespace Go.Proofs.YtkhmnkpdlodepaaDoor
open Go.RowKit

/-- All lie from lo to hi. -/
def allIn (xs : List Int) (lo hi : Int) : Bool := xs.all fun x => inB x lo hi
theorem allIn_snoc (xs : List Int) (x lo hi : Int) : allIn (xs ++ [x]) lo hi = (allIn xs lo hi && inB x lo hi) := by simp [allIn]
theorem allIn_take {xs : List Int} {lo hi : Int} (k : Nat) (h : allIn xs lo hi = true) : allIn (xs.take k) lo hi = true := by
  simp only [allIn, List.all_eq_true] at h ⊢
  exact fun y hy => h y (List.mem_of_mem_take hy)
theorem allIn_drop {xs : List Int} {lo hi : Int} (k : Nat) (h : allIn xs lo hi = true) : allIn (xs.drop k) lo hi = true := by
  simp only [allIn, List.all_eq_true] at h ⊢
  exact fun y hy => h y (List.mem_of_mem_drop hy)
theorem allIn_bad {xs : List Int} {lo hi : Int} (k : Nat) (h : allIn (xs.take k) lo hi = false) : allIn xs lo hi = false := by
  cases hh : allIn xs lo hi
  · rfl
  · rw [allIn_take k hh] at h; cases h
theorem allIn_at {xs : List Int} {lo hi : Int} (h : allIn xs lo hi = true) (k : Nat) (hk : k < xs.length) : lo ≤ xs.getD k 0 ∧ xs.getD k 0 ≤ hi := by
  simp only [allIn, List.all_eq_true] at h
  rw [getD_of_lt _ _ hk]
  exact inB_yes (h _ (List.getElem_mem hk))
theorem allIn_mk {xs : List Int} {lo hi : Int} (h : ∀ x ∈ xs, lo ≤ x ∧ x ≤ hi) : allIn xs lo hi = true := by
  simp only [allIn, List.all_eq_true]
  exact fun x hx => inB_mk (h x hx)
theorem allIn_mem {xs : List Int} {lo hi : Int} (h : allIn xs lo hi = true) : ∀ x ∈ xs, lo ≤ x ∧ x ≤ hi := by
  simp only [allIn, List.all_eq_true] at h
  exact fun x hx => inB_yes (h x hx)
theorem allIn_append (xs ys : List Int) (lo hi : Int) : allIn (xs ++ ys) lo hi = (allIn xs lo hi && allIn ys lo hi) := by simp [allIn]

/-- IsBits' answer. -/
def isBitsB (xs : List Int) : Bool := decide (xs.length ≤ 8192) && allIn xs 0 1
/-- IsBytes' answer. -/
def isBytesB (xs : List Int) : Bool := decide (xs.length ≤ 1024) && allIn xs 0 255
theorem isBitsB_yes {xs : List Int} (h : isBitsB xs = true) : xs.length ≤ 8192 ∧ allIn xs 0 1 = true := by
  simpa [isBitsB] using h
theorem isBytesB_yes {xs : List Int} (h : isBytesB xs = true) : xs.length ≤ 1024 ∧ allIn xs 0 255 = true := by
  simpa [isBytesB] using h
theorem isBitsB_mk {xs : List Int} (h1 : xs.length ≤ 8192) (h2 : allIn xs 0 1 = true) : isBitsB xs = true := by
  simp [isBitsB, h1, h2]

/-- The bits of v in a width of n, the first k of them. -/
def bitsUpto (v : Int) (n k : Nat) : List Int := (List.range k).map fun i : Nat => bitB v ((n : Int) - 1 - (i : Int))
/-- The bits of v in a width of n. -/
def bitsOf (v : Int) (n : Nat) : List Int := bitsUpto v n n
theorem bitsUpto_succ (v : Int) (n k : Nat) : bitsUpto v n (k + 1) = bitsUpto v n k ++ [bitB v ((n : Int) - 1 - k)] := by
  simp [bitsUpto, List.range_succ]
theorem length_bitsUpto (v : Int) (n k : Nat) : (bitsUpto v n k).length = k := by simp [bitsUpto]
theorem length_bitsOf (v : Int) (n : Nat) : (bitsOf v n).length = n := length_bitsUpto v n n
theorem allIn_bitsOf (v : Int) (n : Nat) : allIn (bitsOf v n) 0 1 = true := by
  refine allIn_mk fun x hx => ?_
  simp only [bitsOf, bitsUpto, List.mem_map] at hx
  obtain ⟨i, _, rfl⟩ := hx
  exact bitB_01 _ _

/-- Induction from the end of a list. -/
theorem snoc_ind {P : List Int → Prop} (h0 : P []) (hs : ∀ xs x, P xs → P (xs ++ [x])) (xs : List Int) : P xs := by
  have h : ∀ k, k ≤ xs.length → P (xs.take k) := by
    intro k
    induction k with
    | zero => intro _; simpa using h0
    | succ k ih =>
      intro hk
      rw [take_succ_getD xs k (by omega)]
      exact hs _ _ (ih (by omega))
  have := h xs.length (Nat.le_refl _)
  rwa [List.take_length] at this

/-- The number with some bits. -/
def numFrom (n : Int) (xs : List Int) : Int := xs.foldl (fun n b => 2 * n + b) n
def numOf (xs : List Int) : Int := numFrom 0 xs
theorem numFrom_snoc (n : Int) (xs : List Int) (x : Int) : numFrom n (xs ++ [x]) = 2 * numFrom n xs + x := by simp [numFrom]
theorem numOf_snoc (xs : List Int) (x : Int) : numOf (xs ++ [x]) = 2 * numOf xs + x := numFrom_snoc 0 xs x
theorem numOf_bound : ∀ (xs : List Int), allIn xs 0 1 = true → 0 ≤ numOf xs ∧ numOf xs < p2 xs.length := by
  intro xs
  induction xs using snoc_ind with
  | h0 => intro _; decide
  | hs xs x ih =>
    intro h
    rw [allIn_snoc, Bool.and_eq_true] at h
    have h1 := ih h.1
    have h2 := inB_yes h.2
    rw [numOf_snoc]
    have e : p2 ((xs ++ [x]).length : Nat) = 2 * p2 xs.length := by
      rw [List.length_append, List.length_singleton]
      exact p2_succ xs.length (by omega)
    omega
theorem numOf_le {xs : List Int} {k : Nat} {c : Int} (h : allIn xs 0 1 = true) (hl : xs.length ≤ k) (hc : p2 k = c) : 0 ≤ numOf xs ∧ numOf xs < c := by
  have h1 := numOf_bound xs h
  have h2 : p2 (xs.length : Nat) ≤ c := p2_le (by omega) hc
  omega

/-- The exclusive or of two numbers of at least 0. -/
def bxor (a b : Int) : Int := ((a.toNat ^^^ b.toNat : Nat) : Int)
theorem bits_xor (a b : Int) (ha : 0 ≤ a) (ha' : a < 9223372036854775808) (hb : 0 ≤ b) (hb' : b < 9223372036854775808) : bits BinOp.xor IntKind.i64 a b = bxor a b := by
  obtain ⟨x, rfl⟩ := Int.eq_ofNat_of_zero_le ha
  obtain ⟨y, rfl⟩ := Int.eq_ofNat_of_zero_le hb
  have hz : x ^^^ y < 2 ^ 63 := Nat.xor_lt_two_pow (by omega) (by omega)
  have h1 : (BitVec.ofInt 64 (x : Int)).toNat = x := by
    rw [BitVec.ofInt_natCast, BitVec.toNat_ofNat]; exact Nat.mod_eq_of_lt (by omega)
  have h2 : (BitVec.ofInt 64 (y : Int)).toNat = y := by
    rw [BitVec.ofInt_natCast, BitVec.toNat_ofNat]; exact Nat.mod_eq_of_lt (by omega)
  show IntKind.i64.wrap ((BitVec.ofInt 64 (x : Int) ^^^ BitVec.ofInt 64 (y : Int)).toNat : Int) = _
  rw [BitVec.toNat_xor, h1, h2, bxor, Int.toNat_natCast, Int.toNat_natCast]
  exact IntWalk.i64_in _ (by omega)
theorem bxor_lt {a b : Int} {n : Nat} (ha : 0 ≤ a) (ha' : a < p2 n) (hb : 0 ≤ b) (hb' : b < p2 n) : 0 ≤ bxor a b ∧ bxor a b < p2 n := by
  obtain ⟨x, rfl⟩ := Int.eq_ofNat_of_zero_le ha
  obtain ⟨y, rfl⟩ := Int.eq_ofNat_of_zero_le hb
  have e : p2 n = ((2 ^ n : Nat) : Int) := by simp [p2]
  rw [e] at ha' hb' ⊢
  have hz : x ^^^ y < 2 ^ n := Nat.xor_lt_two_pow (by omega) (by omega)
  simp only [bxor, Int.toNat_natCast]
  omega
end Go.Proofs.YtkhmnkpdlodepaaDoor
