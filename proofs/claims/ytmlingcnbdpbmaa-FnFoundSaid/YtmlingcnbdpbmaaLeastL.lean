/- Plain laws of the least weight: the first missed error is missed, and a smaller span has none of a smaller weight. No program in sight. -/
import Derived.Test.YtmlingcnbdpbmaaFirstP
import Derived.Test.YtmlingcnbdpbmaaMiss
import Derived.Test.YtmlingcnbdpbmaaFlip
namespace Go.Proofs.Ytmlingcnbdpbmaa
open Go.RowKit
set_option linter.unusedVariables false

/-- The list of n bits with ones at the indices for which p holds. -/
def onesAt (p : Nat → Bool) (n : Nat) : List Int := (List.range n).map fun i => if p i then 1 else 0
theorem length_onesAt (p : Nat → Bool) (n : Nat) : (onesAt p n).length = n := by simp [onesAt]
theorem allIn_onesAt (p : Nat → Bool) (n : Nat) : allIn (onesAt p n) 0 1 = true := by
  refine allIn_mk fun x hx => ?_
  simp only [onesAt, List.mem_map] at hx
  obtain ⟨i, _, rfl⟩ := hx
  split <;> omega
theorem bools_onesAt (p : Nat → Bool) (n : Nat) : bools (onesAt p n) = (List.range n).map p := by
  simp only [bools, onesAt, List.map_map]
  apply List.map_congr_left
  intro i _
  cases h : p i <;> simp [h]
theorem onesAt_set (p : Nat → Bool) (n i : Nat) (h : p i = false) (hi : i < n) : flip1 (onesAt p n) (i : Int) = onesAt (fun j => p j || decide (j = i)) n := by
  have hg : (onesAt p n).getD i 0 = 0 := by simp [onesAt, List.getD, hi, h]
  unfold flip1
  rw [Int.toNat_natCast, hg]
  apply List.ext_getElem
  · simp [onesAt]
  · intro j h1 h2
    have hj : j < n := by simpa [onesAt] using h2
    rw [List.getElem_set]
    by_cases e : i = j
    · subst e
      simp [onesAt]
    · have e2 : ¬ (j = i) := fun x => e x.symm
      simp [onesAt, e, e2]
theorem replicate_onesAt (n : Nat) : List.replicate n (0 : Int) = onesAt (fun _ => false) n := by
  apply List.ext_getElem
  · simp [onesAt]
  · intro j h1 h2; simp [onesAt]
theorem range_single (n i : Nat) (hi : i < n) : (List.range n).map (fun j => decide (j = i)) = List.replicate i false ++ ([true] ++ List.replicate (n - 1 - i) false) := by
  apply List.ext_getElem
  · simp; omega
  · intro j h1 h2
    simp only [List.getElem_map, List.getElem_range]
    by_cases a : j < i
    · rw [List.getElem_append_left (by simpa using a)]
      simp; omega
    · rw [List.getElem_append_right (by simp; omega)]
      by_cases b : j = i
      · subst b; simp
      · rw [List.getElem_append_right (by simp; omega)]
        simp; omega
namespace Reg
variable {W P : Nat}
theorem dblN_0 (hW : 1 ≤ W) : ∀ k, dblN W P k 0 = 0 := by
  intro k
  induction k with
  | zero => rfl
  | succ k ih =>
    have : dbl W P 0 = 0 := by rw [dbl_small hW (Nat.two_pow_pos _)]
    simp only [dblN, this, ih]
theorem feed_single (hW : 1 ≤ W) (n i : Nat) (hi : i < n) : feedN W P 0 ((List.range n).map (fun j => decide (j = i))) = dblN W P (n - 1 - i) P := by
  have h1 : feedN W P 0 [true] = P := by simp [feedN, stepN]
  rw [range_single n i hi, feed_append, feed_append, feed_zeros i, dblN_0 hW, h1, feed_zeros]
/-- One more one is one more syndrome. -/
theorem feed_or (hW : 1 ≤ W) (p : Nat → Bool) (n i : Nat) (hi : i < n) (hp : p i = false) :
    feedN W P 0 ((List.range n).map fun j => p j || decide (j = i)) = feedN W P 0 ((List.range n).map p) ^^^ dblN W P (n - 1 - i) P := by
  have h := feed_xor (W := W) (P := P) ((List.range n).map p) ((List.range n).map (fun j => decide (j = i))) 0 0 (by simp)
  rw [Nat.xor_self, feed_single hW n i hi] at h
  rw [← h]
  congr 1
  apply List.ext_getElem
  · simp
  · intro j h1 h2
    simp only [List.getElem_map, List.getElem_range, List.getElem_zipWith]
    by_cases e : j = i
    · subst e; simp [hp]
    · simp [e]
end Reg
theorem missB_ones {W P : Nat} (hW : 3 ≤ W) (hP : P < 2 ^ W) (hc : crcB (W : Int) (P : Int) = true) (p : Nat → Bool) (n i : Nat) (hn : n ≤ 64) (hi : i < n) (hp : p i = true)
    (hz : Reg.feedN W P 0 ((List.range n).map p) = 0) : missB (W : Int) (P : Int) (onesAt p n) = true := by
  have hb : isBitsB (onesAt p n) = true := isBitsB_mk (by rw [length_onesAt]; omega) (allIn_onesAt p n)
  have hh : hasY (onesAt p n) 1 = true := by
    cases h : hasY (onesAt p n) 1
    · exfalso
      have hl : ¬ firstTo (onesAt p n) 1 (onesAt p n).length < (onesAt p n).length := by simpa [hasY] using h
      have h2 := firstTo_no (xs := onesAt p n) (y := 1) (onesAt p n).length i (by rw [length_onesAt] at hl ⊢; omega)
      apply h2
      simp [onesAt, List.getD, hi, hp]
    · rfl
  have f := feedI_nat hW hP (onesAt p n) (allIn_onesAt p n) 0 (Nat.two_pow_pos W)
  have e0 : ((0 : Nat) : Int) = 0 := rfl
  rw [e0, bools_onesAt, hz] at f
  simp [missB, hc, hb, hh, f]
theorem pow_shift (wd po : Int) (n i : Nat) : powI wd po n i = powI wd po (n + 1) (i + 1) := by
  unfold powI
  have e : n + 1 - 1 - (i + 1) = n - 1 - i := by omega
  rw [e]
theorem risesB_two {n i k : Nat} (h1 : i < k) (h2 : k < n) : risesB [(i : Int), (k : Int)] (n : Int) = true := by
  have a1 : inB (i : Int) 0 ((n : Int) - 1) = true := inB_mk (by omega)
  have a2 : inB (k : Int) 0 ((n : Int) - 1) = true := inB_mk (by omega)
  have a3 : (i : Int) < (k : Int) := by omega
  simp [risesB, risesUpto, riseAt, List.range_succ, List.getD, a1, a2, a3]
theorem risesB_three {n i k m : Nat} (h1 : i < k) (h2 : k < m) (h3 : m < n) : risesB [(i : Int), (k : Int), (m : Int)] (n : Int) = true := by
  have a1 : inB (i : Int) 0 ((n : Int) - 1) = true := inB_mk (by omega)
  have a2 : inB (k : Int) 0 ((n : Int) - 1) = true := inB_mk (by omega)
  have a4 : inB (m : Int) 0 ((n : Int) - 1) = true := inB_mk (by omega)
  have a3 : (i : Int) < (k : Int) := by omega
  have a5 : (k : Int) < (m : Int) := by omega
  simp [risesB, risesUpto, riseAt, List.range_succ, List.getD, a1, a2, a3, a4, a5]
/-- The first missed error: two ones or three, at rising indices, of which the syndromes take each other away. -/
theorem missL_law {wd po : Int} (hc : crcB wd po = true) (n : Nat) (hn : n ≤ 64) (hne : missL (powI wd po n) n ≠ []) :
    risesB (missL (powI wd po n) n) (n : Int) = true ∧ missB wd po (flips (List.replicate n 0) (missL (powI wd po n) n)) = true ∧
      ((missL (powI wd po n) n).length = 2 ∨ ((missL (powI wd po n) n).length = 3 ∧ ∀ i k, i < k → k < n → eqP (powI wd po n) i k = false)) := by
  have hs := missL_syn hc n
  have hE := syn_eqP hc n
  have hT := syn_eqT hc n
  obtain ⟨W, P, rfl, rfl, hW1, hW2, hP1, hP2, hP3⟩ := crc_nat hc
  have hW : 1 ≤ W := by omega
  have hsyn : ∀ i, synI (W : Int) (P : Int) n i = ((Reg.dblN W P (n - 1 - i) P : Nat) : Int) := fun i => rollI_nat hW1 hP2 P hP2 _
  have single : ∀ i, i < n → flip1 (List.replicate n (0 : Int)) (i : Int) = onesAt (fun j => decide (j = i)) n := by
    intro i hi
    rw [replicate_onesAt, onesAt_set _ _ _ rfl hi]
    simp
  rcases pairFrom_cases (eqP (powI (W : Int) (P : Int) n)) 0 n with ⟨hp, hno⟩ | ⟨i, k, hp, _, hik, hkn, he⟩
  rotate_left
  · rw [← pairTo_from] at hp
    have hL := missL_pair hp
    rw [hL]
    refine ⟨risesB_two hik hkn, ?_, .inl rfl⟩
    have e1 : flips (List.replicate n (0 : Int)) [(i : Int), (k : Int)] = onesAt (fun j => decide (j = i) || decide (j = k)) n := by
      show flip1 (flip1 _ _) _ = _
      rw [single i (by omega), onesAt_set _ _ _ (by simp; omega) hkn]
    rw [e1]
    refine missB_ones hW1 hP2 hc _ n i hn (by omega) (by simp) ?_
    rw [Reg.feed_or hW (fun j => decide (j = i)) n k hkn (by simp; omega), Reg.feed_single hW n i (by omega)]
    rw [← hE] at he
    have he2 : synI (W : Int) (P : Int) n i = synI (W : Int) (P : Int) n k := of_decide_eq_true he
    rw [hsyn, hsyn] at he2
    have : Reg.dblN W P (n - 1 - i) P = Reg.dblN W P (n - 1 - k) P := by omega
    rw [this, Nat.xor_self]
  · rw [← pairTo_from] at hp
    rcases tripTo_cases (eqT (powI (W : Int) (P : Int) n)) n with ⟨ht, _⟩ | ⟨i, k, m, ht, hik, hkm, hmn, he⟩
    · exact absurd (missL_none hp ht) hne
    · have hL := missL_trip hp ht
      rw [hL]
      refine ⟨risesB_three hik hkm hmn, ?_, .inr ⟨rfl, fun i k h1 h2 => hno i k (by omega) h1 h2⟩⟩
      have e1 : flips (List.replicate n (0 : Int)) [(i : Int), (k : Int), (m : Int)] = onesAt (fun j => (decide (j = i) || decide (j = k)) || decide (j = m)) n := by
        show flip1 (flip1 (flip1 _ _) _) _ = _
        rw [single i (by omega), onesAt_set _ _ _ (by simp; omega) (by omega), onesAt_set _ _ _ (by simp; omega) hmn]
      rw [e1]
      refine missB_ones hW1 hP2 hc _ n i hn (by omega) (by simp) ?_
      rw [Reg.feed_or hW (fun j => decide (j = i) || decide (j = k)) n m hmn (by simp; omega), Reg.feed_or hW (fun j => decide (j = i)) n k (by omega) (by simp; omega), Reg.feed_single hW n i (by omega)]
      rw [← hT] at he
      have he2 : bxor (synI (W : Int) (P : Int) n i) (synI (W : Int) (P : Int) n k) = synI (W : Int) (P : Int) n m := of_decide_eq_true he
      rw [hsyn, hsyn, hsyn, bxor_nat] at he2
      have : Reg.dblN W P (n - 1 - i) P ^^^ Reg.dblN W P (n - 1 - k) P = Reg.dblN W P (n - 1 - m) P := by omega
      rw [this, Nat.xor_self]
theorem missL_two {f : Nat → Int} {n : Nat} (h : (missL f n).length < 3) (h0 : missL f n ≠ []) : ∃ i k, i < k ∧ k < n ∧ eqP f i k = true := by
  rcases pairFrom_cases (eqP f) 0 n with ⟨hp, hno⟩ | ⟨i, k, hp, _, hik, hkn, he⟩
  · rw [← pairTo_from] at hp
    rcases tripTo_cases (eqT f) n with ⟨ht, _⟩ | ⟨i, k, m, ht, hik, hkm, hmn, he⟩
    · exact absurd (missL_none hp ht) h0
    · rw [missL_trip hp ht] at h; simp at h
  · exact ⟨i, k, hik, hkn, he⟩
theorem missL_ge {f : Nat → Int} {n : Nat} (h0 : missL f n ≠ []) : 2 ≤ (missL f n).length := by
  rcases pairFrom_cases (eqP f) 0 n with ⟨hp, hno⟩ | ⟨i, k, hp, _, hik, hkn, he⟩
  · rw [← pairTo_from] at hp
    rcases tripTo_cases (eqT f) n with ⟨ht, _⟩ | ⟨i, k, m, ht, hik, hkm, hmn, he⟩
    · exact absurd (missL_none hp ht) h0
    · rw [missL_trip hp ht]; simp
  · rw [← pairTo_from] at hp; rw [missL_pair hp]; simp
theorem spanC_yes {wd po n : Int} (h : spanC wd po n = 0) : crcB wd po = true ∧ 1 ≤ n ∧ n ≤ 64 := by
  cases h1 : crcB wd po
  · simp [spanC, h1] at h
  cases h2 : inB n 1 64
  · simp [spanC, h1, h2] at h
  exact ⟨rfl, inB_yes h2⟩
theorem spanC_mk {wd po n : Int} (h1 : crcB wd po = true) (h2 : 1 ≤ n) (h3 : n ≤ 64) : spanC wd po n = 0 := by
  have : inB n 1 64 = true := inB_mk ⟨h2, h3⟩
  simp [spanC, h1, this]
/-- THE FIRST MISSED ERROR HAS THE LEAST WEIGHT AND IS MISSED, AND A SMALLER SPAN HAS NONE OF A SMALLER WEIGHT. -/
theorem least_law {wd po n : Int} (h : (firstA wd po n).2 = 0) :
    ∃ (N : Nat) (wt : Int), n = N ∧ 1 ≤ N ∧ N ≤ 64 ∧ leastA wd po n = (wt, 0) ∧ ((firstA wd po n).1.length : Int) = wt ∧
      (∃ es, flipA (List.replicate N 0) (firstA wd po n).1 = (es, 0) ∧ missB wd po es = true) ∧ (2 ≤ N → ∃ less, leastA wd po (n - 1) = (less, 0) ∧ wt ≤ less) := by
  by_cases hs : spanC wd po n = 0
  rotate_left
  · exfalso
    have e : firstA wd po n = ([], spanC wd po n) := by simp [firstA, hs]
    rw [e] at h; exact hs h
  obtain ⟨hc, h1, h2⟩ := spanC_yes hs
  obtain ⟨N, rfl⟩ := Int.eq_ofNat_of_zero_le (show 0 ≤ n by omega)
  have hne : missL (powI wd po N) N ≠ [] := by
    intro e
    have : (firstA wd po N).2 = 4 := by simp [firstA, hs, e]
    omega
  obtain ⟨k1, k2, k3⟩ := missL_law hc N (by omega) hne
  have hlen : ¬ ((missL (powI wd po N) N).length = 0) := fun e => hne (List.eq_nil_of_length_eq_zero e)
  have e1 : (firstA wd po N).1 = missL (powI wd po N) N := by simp [firstA, hs]
  have e2 : leastA wd po N = (((missL (powI wd po N) N).length : Int), (0 : Int)) := by
    simp only [leastA, hs, Int.toNat_natCast, if_true, if_neg hlen]
  rw [e1]
  have hz : isBitsB (List.replicate N (0 : Int)) = true := isBitsB_mk (by rw [List.length_replicate]; omega) (allIn_zeros N)
  refine ⟨N, _, rfl, by omega, by omega, e2, rfl, ⟨flips (List.replicate N 0) (missL (powI wd po N) N), ?_, k2⟩, fun h3 => ?_⟩
  · have : risesB (missL (powI wd po N) N) ((List.replicate N (0 : Int)).length : Int) = true := by rw [List.length_replicate]; exact k1
    simp only [flipA, hz, this, Bool.true_eq_false, if_false]
  · obtain ⟨M, rfl⟩ : ∃ M, N = M + 1 := ⟨N - 1, by omega⟩
    have eM : ((M + 1 : Nat) : Int) - 1 = (M : Int) := by omega
    rw [eM]
    have hsM := spanC_mk (wd := wd) (po := po) (n := (M : Int)) hc (by omega) (by omega)
    refine ⟨if (missL (powI wd po M) M).length = 0 then 4 else ((missL (powI wd po M) M).length : Int), by simp only [leastA, hsM, Int.toNat_natCast, if_true], ?_⟩
    have hle := missL_len (powI wd po (M + 1)) (M + 1)
    split
    · omega
    · rename_i h0
      have h0' : missL (powI wd po M) M ≠ [] := fun e => h0 (by rw [e]; rfl)
      have hge := missL_ge h0'
      rcases k3 with k3 | ⟨k3, k4⟩
      · omega
      · rcases Nat.lt_or_ge (missL (powI wd po M) M).length 3 with hlt | hge3
        · exfalso
          obtain ⟨i, k, hik, hkM, he⟩ := missL_two hlt h0'
          have h5 := k4 (i + 1) (k + 1) (by omega) (by omega)
          have h6 : eqP (powI wd po (M + 1)) (i + 1) (k + 1) = eqP (powI wd po M) i k := by
            unfold eqP
            rw [← pow_shift, ← pow_shift]
          rw [h6, he] at h5; cases h5
        · omega
theorem least_none {wd po n : Int} (h : (firstA wd po n).2 ≠ 0) : (firstA wd po n).2 ≠ 4 ∨ (leastA wd po n).1 = 4 := by
  by_cases hs : spanC wd po n = 0
  · by_cases hl : (missL (powI wd po n.toNat) n.toNat).length = 0
    · exact .inr (by simp only [leastA, hs, hl, if_true])
    · exfalso
      apply h
      simp only [firstA, hs, if_true, if_neg hl]
  · left
    have e : firstA wd po n = ([], spanC wd po n) := by simp [firstA, hs]
    rw [e]
    show spanC wd po n ≠ 4
    unfold spanC
    split
    · decide
    · split <;> decide
end Go.Proofs.Ytmlingcnbdpbmaa
