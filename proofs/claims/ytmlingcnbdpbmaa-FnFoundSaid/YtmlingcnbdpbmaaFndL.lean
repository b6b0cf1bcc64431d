/- The plain laws of IsFound: what it calls found is not missed. No program in sight. -/
import Derived.Test.YtmlingcnbdpbmaaOrdL
import Derived.Test.YtmlingcnbdpbmaaBurL
import Derived.Test.YtmlingcnbdpbmaaNumL
import Derived.Test.YtmlingcnbdpbmaaPop
namespace Go.Proofs.Ytmlingcnbdpbmaa
open Go.RowKit
set_option linter.unusedVariables false
set_option linter.unusedSimpArgs false

theorem snocB {p : List Bool → Prop} (h0 : p []) (hs : ∀ xs x, p xs → p (xs ++ [x])) (xs : List Bool) : p xs := by
  have h : ∀ ys : List Bool, p ys.reverse := by
    intro ys
    induction ys with
    | nil => exact h0
    | cons y ys ih => rw [List.reverse_cons]; exact hs _ _ ih
  have := h xs.reverse
  rwa [List.reverse_reverse] at this
namespace Reg
/-- The parity of the k lowest bits. -/
def par : Nat → Nat → Bool
  | 0, _ => false
  | k + 1, x => par k x ^^ x.testBit k
theorem par_pop : ∀ k x, par k x = decide (popT k x % 2 = 1) := by
  intro k x
  induction k with
  | zero => rfl
  | succ k ih =>
    simp only [par, popT, ih, Nat.testBit_eq_decide_div_mod_eq]
    have h : x / 2 ^ k % 2 = 0 ∨ x / 2 ^ k % 2 = 1 := by omega
    have h2 : popT k x % 2 = 0 ∨ popT k x % 2 = 1 := by omega
    rcases h with h | h <;> rcases h2 with h2 | h2 <;> simp [h, h2, Nat.add_mod]
theorem par_xor : ∀ k x y, par k (x ^^^ y) = (par k x ^^ par k y) := by
  intro k x y
  induction k with
  | zero => rfl
  | succ k ih =>
    simp only [par, ih, Nat.testBit_xor]
    cases par k x <;> cases par k y <;> cases x.testBit k <;> cases y.testBit k <;> rfl
theorem par_zero : ∀ k, par k 0 = false := by
  intro k
  induction k with
  | zero => rfl
  | succ k ih => simp [par, ih]
theorem par_two : ∀ k x (b : Bool), par (k + 1) (2 * x + b.toNat) = (par k x ^^ b) := by
  intro k x b
  induction k with
  | zero =>
    simp only [par]
    cases b <;> simp [Nat.testBit_zero] <;> omega
  | succ k ih =>
    show (par (k + 1) (2 * x + b.toNat) ^^ (2 * x + b.toNat).testBit (k + 1)) = ((par k x ^^ x.testBit k) ^^ b)
    rw [ih, Nat.testBit_succ]
    have e : (2 * x + b.toNat) / 2 = x := by cases b <;> simp <;> omega
    rw [e]
    cases par k x <;> cases x.testBit k <;> cases b <;> rfl
theorem par_mod (W x : Nat) : ∀ k, k ≤ W → par k (x % 2 ^ W) = par k x := by
  intro k
  induction k with
  | zero => intro _; rfl
  | succ k ih =>
    intro h
    simp only [par, ih (by omega), Nat.testBit_mod_two_pow]
    simp [(by omega : k < W)]
theorem par_step {W P : Nat} (hW : 1 ≤ W) (hp : par W P = true) (r : Nat) (b : Bool) : par W (stepN W P r b) = (par W r ^^ b) := by
  obtain ⟨V, rfl⟩ : ∃ V, W = V + 1 := ⟨W - 1, by omega⟩
  unfold stepN
  have e : V + 1 - 1 = V := by omega
  have h2 : par (V + 1) (2 * r) = par V r := by have := par_two V r false; simpa using this
  rw [par_xor, par_mod _ _ _ (Nat.le_refl _), h2, e]
  have h3 : par (V + 1) r = (par V r ^^ r.testBit V) := rfl
  rw [h3]
  cases b <;> cases r.testBit V <;> cases par V r <;> simp [hp, par_zero]
/-- The parity of a list of bits. -/
def parL (bs : List Bool) : Bool := bs.foldl (fun p b => p ^^ b) false
theorem parL_snoc (bs : List Bool) (b : Bool) : parL (bs ++ [b]) = (parL bs ^^ b) := by simp [parL]
theorem par_feed {W P : Nat} (hW : 1 ≤ W) (hp : par W P = true) (bs : List Bool) : par W (feedN W P 0 bs) = parL bs := by
  induction bs using snocB with
  | h0 => exact par_zero W
  | hs bs b ih =>
    rw [feed_append, parL_snoc, ← ih]
    exact par_step hW hp _ b
theorem par_num (bs : List Bool) : par bs.length (numN bs) = parL bs := by
  induction bs using snocB with
  | h0 => rfl
  | hs bs b ih =>
    rw [numN_snoc, parL_snoc, List.length_append, ← ih]
    exact par_two _ _ b
end Reg

theorem wtTo_snoc (xs : List Int) (x : Int) : ∀ k, k ≤ xs.length → wtTo (xs ++ [x]) k = wtTo xs k := by
  intro k
  induction k with
  | zero => intro _; rfl
  | succ k ih =>
    intro h
    simp only [wtTo, ih (by omega)]
    congr 1
    simp [List.getD, List.getElem?_append_left (by omega : k < xs.length)]
theorem sumL_snoc (xs : List Int) (x : Int) : sumL (xs ++ [x]) = sumL xs + x := by
  unfold sumL
  rw [List.length_append]
  show wtTo (xs ++ [x]) xs.length + (xs ++ [x]).getD xs.length 0 = _
  rw [wtTo_snoc xs x _ (Nat.le_refl _)]
  simp [List.getD]
theorem sumL_sum (xs : List Int) : sumL xs = xs.sum := by
  induction xs using snoc_ind with
  | h0 => rfl
  | hs xs x ih => rw [sumL_snoc, ih]; simp
theorem sumL_par (xs : List Int) (h : allIn xs 0 1 = true) : Reg.parL (bools xs) = decide (sumL xs % 2 = 1) := by
  induction xs using snoc_ind with
  | h0 => rfl
  | hs xs x ih =>
    rw [allIn_snoc, Bool.and_eq_true] at h
    have hx := inB_yes h.2
    have hs := wtTo_bound h.1 xs.length (Nat.le_refl _)
    have hs0 : 0 ≤ sumL xs := hs.1
    rw [bools_snoc, Reg.parL_snoc, ih h.1, sumL_snoc]
    have h1 : x = 0 ∨ x = 1 := by omega
    have h2 : sumL xs % 2 = 0 ∨ sumL xs % 2 = 1 := by omega
    rcases h1 with rfl | rfl <;> rcases h2 with h2 | h2
    · simp [h2]
    · simp [h2]
    · have : (sumL xs + 1) % 2 = 1 := by omega
      simp [h2, this]
    · have : (sumL xs + 1) % 2 = 0 := by omega
      simp [h2, this]
/-- Whether the polynomial with the term on top has an even number of terms. -/
def evenB (wd po : Int) : Bool := decide (sumL (bitsOf po wd.toNat) % 2 = 1)
theorem evenB_par {W P : Nat} (hP : P < 2 ^ W) : evenB (W : Int) (P : Int) = Reg.par W P := by
  unfold evenB
  rw [Int.toNat_natCast, ← sumL_par _ (allIn_bitsOf _ _), ← Reg.par_num, length_bools, length_bitsOf]
  have h1 := numOf_bitsOf W (P : Int) (by omega) (by rw [p2_nat]; omega)
  rw [numOf_nat _ (allIn_bitsOf _ _)] at h1
  have h2 : Reg.numN (bools (bitsOf (P : Int) W)) = P := by omega
  rw [h2]
theorem evenB_pop {wd po : Int} (hc : crcB wd po = true) : evenB wd po = decide ((popT 24 po.toNat : Int) % 2 = 1) := by
  obtain ⟨W, P, rfl, rfl, hW1, hW2, hP1, hP2, hP3⟩ := crc_nat hc
  rw [evenB_par hP2, Reg.par_pop, Int.toNat_natCast]
  have := popT_top hP2 (24 - W)
  have e : W + (24 - W) = 24 := by omega
  rw [e] at this
  rw [this]
  exact decide_eq_decide.2 (by omega)
/-- What IsFound looks at. -/
def foundB (wd po : Int) (xs : List Int) : Bool := (decide (sumL xs % 2 = 1) && evenB wd po) || (decide ((burst xs).2 ≤ wd) || (decide (sumL xs = 2) && decide ((burst xs).2 - 1 < ordI wd po)))
theorem odd_found {wd po : Int} {xs : List Int} (hc : crcB wd po = true) (hx : allIn xs 0 1 = true) (h1 : sumL xs % 2 = 1) (h2 : evenB wd po = true) : feedI wd po 0 xs ≠ 0 := by
  obtain ⟨W, P, rfl, rfl, hW1, hW2, hP1, hP2, hP3⟩ := crc_nat hc
  intro h
  rw [evenB_par hP2] at h2
  have f := feedI_nat hW1 hP2 xs hx 0 (Nat.two_pow_pos W)
  have e0 : ((0 : Nat) : Int) = 0 := rfl
  rw [e0, h] at f
  have g := Reg.par_feed (by omega) h2 (bools xs)
  have f2 : Reg.feedN W P 0 (bools xs) = 0 := by omega
  rw [f2, Reg.par_zero, sumL_par xs hx] at g
  simp [h1] at g
theorem sum_zeros (k : Nat) : (List.replicate k (0 : Int)).sum = 0 := by
  induction k with
  | zero => rfl
  | succ k ih => simp [List.replicate_succ, ih]
/-- A list is zeros, its burst, and zeros. -/
theorem burst_split {xs : List Int} (hx : isBitsB xs = true) (hy : hasY xs 1 = true) :
    ∃ (f n m : Nat) (bs : List Int), (burst xs).2 = n ∧ 1 ≤ n ∧ xs = List.replicate f 0 ++ (bs ++ List.replicate m 0) ∧ bs.length = n ∧ bs.getD 0 0 = 1 ∧ bs.getD (n - 1) 0 = 1 ∧ allIn bs 0 1 = true ∧ sumL xs = bs.sum := by
  have hlt : firstTo xs 1 xs.length < xs.length := by simpa [hasY] using hy
  have hf := firstTo_is xs.length hlt
  obtain ⟨l1, l2, l3⟩ := lastTo_ge hf xs.length hlt
  obtain ⟨hl, hall⟩ := isBitsB_yes hx
  obtain ⟨f, hfe⟩ : ∃ f, f = firstTo xs 1 xs.length := ⟨_, rfl⟩
  obtain ⟨l, hle⟩ : ∃ l, l = lastTo xs xs.length := ⟨_, rfl⟩
  have hn1 : ∀ j, j < f → xs.getD j 0 = 0 := by
    intro j hj
    have a1 := firstTo_no (xs := xs) (y := 1) xs.length j (by omega)
    have a2 := allIn_at hall j (by omega)
    omega
  have hn2 : ∀ j, l < j → j < xs.length → xs.getD j 0 = 0 := by
    intro j hj hj2
    have a1 := lastTo_no (xs := xs) xs.length j (by omega) hj2
    have a2 := allIn_at hall j hj2
    omega
  have hb2 : (burst xs).2 = ((l - f + 1 : Nat) : Int) := by simp only [burst, ← hfe, ← hle]; omega
  rw [← hfe] at hlt hf l1
  rw [← hle] at l1 l2 l3
  have hxs : xs = List.replicate f 0 ++ ((xs.drop f).take (l - f + 1) ++ List.replicate (xs.length - (l + 1)) 0) := by
    apply List.ext_getElem
    · simp; omega
    · intro j h1 h2
      have hj := getD_of_lt xs j h1
      by_cases c1 : j < f
      · rw [List.getElem_append_left (by simpa using c1), List.getElem_replicate, ← hj]
        exact hn1 j c1
      · rw [List.getElem_append_right (by simp; omega)]
        by_cases c2 : j ≤ l
        · rw [List.getElem_append_left (by simp; omega)]
          simp only [List.length_replicate, List.getElem_take, List.getElem_drop]
          congr 1; omega
        · rw [List.getElem_append_right (by simp; omega), List.getElem_replicate, ← hj]
          exact hn2 j (by omega) h1
  have hlen : ((xs.drop f).take (l - f + 1)).length = l - f + 1 := by rw [List.length_take, List.length_drop]; omega
  have hget : ∀ j, j < l - f + 1 → ((xs.drop f).take (l - f + 1)).getD j 0 = xs.getD (f + j) 0 := by
    intro j hj
    simp [List.getD, List.getElem?_drop, hj]
  refine ⟨f, l - f + 1, xs.length - (l + 1), (xs.drop f).take (l - f + 1), hb2, by omega, hxs, hlen, ?_, ?_, allIn_take _ (allIn_drop _ hall), ?_⟩
  · rw [hget 0 (by omega)]; exact hf
  · rw [hget _ (by omega)]
    have e : f + (l - f + 1 - 1) = l := by omega
    rw [e]; exact l3
  · rw [sumL_sum]
    conv => lhs; rw [hxs]
    simp [List.sum_append]
theorem feed_burst {W P : Nat} (hW : 3 ≤ W) (hP : P < 2 ^ W) (hodd : P % 2 = 1) {xs bs : List Int} {f m : Nat} (hx : allIn xs 0 1 = true) (he : xs = List.replicate f 0 ++ (bs ++ List.replicate m 0))
    (h : feedI (W : Int) (P : Int) 0 xs = 0) : Reg.feedN W P 0 (bools bs) = 0 := by
  have g := feedI_nat hW hP xs hx 0 (Nat.two_pow_pos W)
  have e0 : ((0 : Nat) : Int) = 0 := rfl
  rw [e0, h] at g
  have g2 : Reg.feedN W P 0 (bools xs) = 0 := by omega
  have hz : ∀ k, Reg.dblN W P k 0 = 0 := by
    intro k
    induction k with
    | zero => rfl
    | succ k ih =>
      have : Reg.dbl W P 0 = 0 := by rw [Reg.dbl_small (by omega) (Nat.two_pow_pos _)]
      simp only [Reg.dblN, this, ih]
  rw [he, bools_append, bools_append, bools_zeros, bools_zeros, Reg.feed_append, Reg.feed_append, Reg.feed_zeros, Reg.feed_zeros, hz] at g2
  exact Reg.dblN_zero (by omega) hP hodd m _ (Reg.feed_lt hP _ _ (Nat.two_pow_pos W)) g2
theorem short_found {wd po : Int} {xs : List Int} (hc : crcB wd po = true) (hx : isBitsB xs = true) (hy : hasY xs 1 = true) (h : (burst xs).2 ≤ wd) : feedI wd po 0 xs ≠ 0 := by
  obtain ⟨W, P, rfl, rfl, hW1, hW2, hP1, hP2, hP3⟩ := crc_nat hc
  obtain ⟨f, n, m, bs, q1, q2, q3, q4, q5, q6, q7, q8⟩ := burst_split hx hy
  intro hz
  have g := feed_burst hW1 hP2 hP3 (isBitsB_yes hx).2 q3 hz
  have hlen : (bools bs).length ≤ W := by rw [length_bools]; omega
  rw [Reg.feed_num (by omega) _ _ hlen, Nat.zero_xor] at g
  have hlt : Reg.numN (bools bs) * 2 ^ (W - (bools bs).length) < 2 ^ W := by
    have e : 2 ^ W = 2 ^ (bools bs).length * 2 ^ (W - (bools bs).length) := by rw [← Nat.pow_add]; congr 1; omega
    rw [e]
    exact Nat.mul_lt_mul_of_pos_right (Reg.numN_lt _) (Nat.two_pow_pos _)
  have g2 := Reg.dblN_zero (by omega) hP2 hP3 _ _ hlt g
  have g3 : Reg.numN (bools bs) = 0 := by
    rcases Nat.mul_eq_zero.1 g2 with a | a
    · exact a
    · exact absurd a (Nat.ne_of_gt (Nat.two_pow_pos _))
  cases bs with
  | nil => simp at q4; omega
  | cons b bs =>
    have hb : b = 1 := by simpa [List.getD] using q5
    subst hb
    have e : bools (1 :: bs) = true :: bools bs := rfl
    rw [e, Reg.numN_cons] at g3
    have := Nat.two_pow_pos (bools bs).length
    simp at g3
theorem pair_found {wd po : Int} {xs : List Int} (hc : crcB wd po = true) (hx : isBitsB xs = true) (hy : hasY xs 1 = true) (h2 : sumL xs = 2) (h : (burst xs).2 - 1 < ordI wd po) : feedI wd po 0 xs ≠ 0 := by
  obtain ⟨f, n, m, bs, q1, q2, q3, q4, q5, q6, q7, q8⟩ := burst_split hx hy
  intro hz
  have hord : ordI wd po ≤ 5001 := by
    rcases ordI_cases wd po with ⟨k, e, a, b, _⟩ | ⟨e, _⟩ <;> omega
  rw [h2] at q8
  have hn : 2 ≤ n := by
    by_cases e : n = 1
    · subst e
      obtain ⟨b, rfl⟩ := List.length_eq_one_iff.1 q4
      have hb : b = 1 := by simpa [List.getD] using q5
      subst hb
      simp at q8
    · omega
  have hbs : bs = pairL (n - 1) := by
    rw [pairL_eq (n - 1) (by omega)]
    cases bs with
    | nil => simp at q4; omega
    | cons b cs =>
      have hb : b = 1 := by simpa [List.getD] using q5
      subst hb
      have hcl : cs.length = n - 1 := by simp at q4; omega
      obtain ⟨mid, z, rfl⟩ : ∃ mid z, cs = mid ++ [z] := by
        have hne : cs ≠ [] := by intro e; subst e; simp at hcl; omega
        exact ⟨cs.dropLast, cs.getLast hne, (List.dropLast_concat_getLast hne).symm⟩
      have hml : mid.length = n - 2 := by simp at hcl; omega
      have hz1 : z = 1 := by
        have e : n - 1 = mid.length + 1 := by omega
        rw [e] at q6
        simpa [List.getD] using q6
      subst hz1
      have hs : mid.sum = 0 := by simp at q8; omega
      have hm := allIn_mem q7
      have hall : ∀ x ∈ mid, x = 0 := by
        have hpos : ∀ x ∈ mid, 0 ≤ x := fun x hx => (hm x (by simp [hx])).1
        clear q4 q5 q6 q7 q8 q3 hm hcl hml
        induction mid with
        | nil => intro x hx; cases hx
        | cons y ys ih =>
          have hp := hpos y (by simp)
          have hq : 0 ≤ ys.sum := by
            have : ∀ l : List Int, (∀ x ∈ l, 0 ≤ x) → 0 ≤ l.sum := by
              intro l
              induction l with
              | nil => intro _; simp
              | cons a l ihl =>
                intro hh
                have h1 := hh a (by simp)
                have h2 := ihl fun x hx => hh x (by simp [hx])
                simp; omega
            exact this ys fun x hx => hpos x (by simp [hx])
          simp at hs
          intro x hx
          rcases List.mem_cons.1 hx with rfl | hx
          · omega
          · exact ih (by omega) (fun x hx => hpos x (by simp [hx])) x hx
      have hrep : mid = List.replicate (n - 1 - 1) 0 := by
        rw [List.eq_replicate_iff]
        exact ⟨by omega, hall⟩
      rw [hrep]; rfl
  obtain ⟨W, P, rfl, rfl, hW1, hW2, hP1, hP2, hP3⟩ := crc_nat hc
  have g := feed_burst hW1 hP2 hP3 (isBitsB_yes hx).2 q3 hz
  rw [hbs] at g
  have hall : allIn (pairL (n - 1)) 0 1 = true := by rw [← hbs]; exact q7
  have g2 := feedI_nat hW1 hP2 (pairL (n - 1)) hall 0 (Nat.two_pow_pos W)
  rw [g] at g2
  have e0 : ((0 : Nat) : Int) = 0 := rfl
  rw [e0] at g2
  have hmp := miss_pair hc (n - 1) (by omega) (by omega)
  have hbits : isBitsB (pairL (n - 1)) = true := isBitsB_mk (by rw [length_pairL]; omega) hall
  have hhas : hasY (pairL (n - 1)) 1 = true := by
    have hget : (pairL (n - 1)).getD 0 0 = 1 := by rw [← hbs]; exact q5
    unfold hasY
    rw [length_pairL, firstTo_at (f := 0) hget (fun j hj => by omega) _ (by omega)]
    simp
  have hm1 : missB (W : Int) (P : Int) (pairL (n - 1)) = true := by simp [missB, hc, hbits, hhas, g2]
  rw [hm1] at hmp
  have hr : rollI (W : Int) (P : Int) 1 (n - 1) = 1 := of_decide_eq_true hmp.symm
  rcases ordI_cases (W : Int) (P : Int) with ⟨k, e, a1, a2, a3, a4⟩ | ⟨e, a4⟩
  · exact a4 (n - 1) (by omega) (by omega) hr
  · exact a4 (n - 1) (by omega) (by omega) hr
/-- WHAT IS FOUND IS NOT MISSED. -/
theorem found_law {wd po : Int} {xs : List Int} (hc : crcB wd po = true) (hx : isBitsB xs = true) (hy : hasY xs 1 = true) (h : foundB wd po xs = true) : missB wd po xs = false := by
  have hne : feedI wd po 0 xs ≠ 0 := by
    simp only [foundB, Bool.or_eq_true, Bool.and_eq_true, decide_eq_true_eq] at h
    rcases h with ⟨h1, h2⟩ | h | ⟨h1, h2⟩
    · exact odd_found hc (isBitsB_yes hx).2 h1 h2
    · exact short_found hc hx hy h
    · exact pair_found hc hx hy h1 h2
  simp [missB, hne]
end Go.Proofs.Ytmlingcnbdpbmaa
