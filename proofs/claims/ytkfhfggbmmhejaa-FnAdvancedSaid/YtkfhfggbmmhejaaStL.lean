/- Plain laws of states: as many slots as a round has bring a state to its round again; distances of equal states. No program in sight. -/
import Derived.Test.YtkfhfggbmmhejaaAdv
import Derived.Test.YtkfhfggbmmhejaaDist
import Derived.Test.YtkfhfggbmmhejaaTime
import Derived.Test.YtkfhfggbmmhejaaNumL
namespace Go.Proofs.Ytkfhfggbmmhejaa
open Go.RowKit
set_option linter.unusedVariables false

theorem stB_mk {t m r s v : Int} (h1 : 0 ≤ t ∧ t ≤ 65535) (h2 : 0 ≤ m ∧ m ≤ 15) (h3 : 0 ≤ r ∧ r ≤ 15) (h4 : 0 ≤ s ∧ s ≤ 255) (h5 : 0 ≤ v ∧ v ≤ 4294967295) : stB t m r s v = true := by
  simp [stB, inB_mk h1, inB_mk h2, inB_mk h3, inB_mk h4, inB_mk h5]
theorem advOk_mk {r s d n k : Int} (h1 : 0 ≤ d ∧ d ≤ 65535) (h2 : 1 ≤ n ∧ n ≤ 256) (h3 : 1 ≤ k ∧ k ≤ 16) (h4 : s < n) (h5 : r < k) : advOk r s d n k = true := by
  simp [advOk, inB_mk h1, inB_mk h2, inB_mk h3, h4, h5]
theorem advOk_yes {r s d n k : Int} (h : advOk r s d n k = true) : (0 ≤ d ∧ d ≤ 65535) ∧ (1 ≤ n ∧ n ≤ 256) ∧ (1 ≤ k ∧ k ≤ 16) ∧ s < n ∧ r < k := by
  simp only [advOk, Bool.and_eq_true, decide_eq_true_eq] at h
  exact ⟨inB_yes h.1.1.1.1, inB_yes h.1.1.1.2, inB_yes h.1.1.2, h.1.2, h.2⟩
theorem advB_ok {t m r s v d n k : Int} (h : (advB t m r s v d n k).2 = 0) : stB t m r s v = true ∧ advOk r s d n k = true ∧ (advB t m r s v d n k).1 = advTo t m r s v d n k := by
  cases h1 : stB t m r s v
  · simp [advB, h1] at h
  cases h2 : advOk r s d n k
  · simp [advB, h1, h2] at h
  exact ⟨rfl, rfl, by simp [advB, h1, h2]⟩
theorem advB_mk {t m r s v d n k : Int} (h1 : stB t m r s v = true) (h2 : advOk r s d n k = true) : advB t m r s v d n k = (advTo t m r s v d n k, 0) := by simp [advB, h1, h2]
/-- The state after j slots of the round: s + j or s + j - n. -/
def advAt (t m r s v d n k : Int) (j : Nat) : St :=
  ⟨(t + (j : Int) * d) % 65536, m, if s + (j : Int) < n then r else (r + 1) % k, if s + (j : Int) < n then s + (j : Int) else s + (j : Int) - n, v⟩
theorem advAt_lt {t m r s v d n k : Int} {j : Nat} (h : s + (j : Int) < n) : advAt t m r s v d n k j = ⟨(t + (j : Int) * d) % 65536, m, r, s + (j : Int), v⟩ := by simp [advAt, h]
theorem advAt_ge {t m r s v d n k : Int} {j : Nat} (h : ¬ (s + (j : Int) < n)) : advAt t m r s v d n k j = ⟨(t + (j : Int) * d) % 65536, m, (r + 1) % k, s + (j : Int) - n, v⟩ := by simp [advAt, h]
theorem advTo_yes {t m r s v d n k : Int} (h : (s + 1 == n) = true) : advTo t m r s v d n k = ⟨(t + d) % 65536, m, (r + 1) % k, 0, v⟩ := by unfold advTo; rw [if_pos h]
theorem advTo_no {t m r s v d n k : Int} (h : (s + 1 == n) = false) : advTo t m r s v d n k = ⟨(t + d) % 65536, m, r, s + 1, v⟩ := by unfold advTo; rw [h]; rfl
theorem advAt_zero {t m r s v d n k : Int} (h1 : stB t m r s v = true) (h2 : advOk r s d n k = true) : advAt t m r s v d n k 0 = ⟨t, m, r, s, v⟩ := by
  obtain ⟨a, b, c, e, f⟩ := stB_bounds h1
  obtain ⟨g, h, i, j, l⟩ := advOk_yes h2
  have e0 : s + ((0 : Nat) : Int) < n := by omega
  unfold advAt
  rw [if_pos e0, if_pos e0]
  have e1 : (t + ((0 : Nat) : Int) * d) % 65536 = t := by
    rw [show ((0 : Nat) : Int) * d = 0 by simp]; omega
  have e2 : s + ((0 : Nat) : Int) = s := by omega
  rw [e1, e2]
theorem advAt_fine {t m r s v d n k : Int} (h1 : stB t m r s v = true) (h2 : advOk r s d n k = true) (j : Nat) (hj : (j : Int) ≤ n) :
    stB (advAt t m r s v d n k j).t (advAt t m r s v d n k j).m (advAt t m r s v d n k j).r (advAt t m r s v d n k j).s (advAt t m r s v d n k j).v = true ∧ advOk (advAt t m r s v d n k j).r (advAt t m r s v d n k j).s d n k = true := by
  obtain ⟨a, b, c, e, f⟩ := stB_bounds h1
  obtain ⟨g, h, i, jj, l⟩ := advOk_yes h2
  have hm1 := Int.emod_nonneg (r + 1) (show k ≠ 0 by omega)
  have hm2 := Int.emod_lt_of_pos (r + 1) (show 0 < k by omega)
  obtain ⟨R, hR⟩ : ∃ R, R = (r + 1) % k := ⟨_, rfl⟩
  rw [← hR] at hm1 hm2
  simp only [advAt, ← hR]
  have ht0 := Int.emod_nonneg (t + (j : Int) * d) (show (65536 : Int) ≠ 0 by decide)
  have ht1 := Int.emod_lt_of_pos (t + (j : Int) * d) (show (0 : Int) < 65536 by decide)
  by_cases hs : s + (j : Int) < n
  · rw [if_pos hs, if_pos hs]
    exact ⟨stB_mk (by omega) b c (by omega) f, advOk_mk g h i (by omega) l⟩
  · rw [if_neg hs, if_neg hs]
    exact ⟨stB_mk (by omega) b (by omega) (by omega) f, advOk_mk g h i (by omega) (by omega)⟩
theorem advAt_succ {t m r s v d n k : Int} (h1 : stB t m r s v = true) (h2 : advOk r s d n k = true) (j : Nat) (hj : (j : Int) < n) :
    advB (advAt t m r s v d n k j).t (advAt t m r s v d n k j).m (advAt t m r s v d n k j).r (advAt t m r s v d n k j).s (advAt t m r s v d n k j).v d n k = (advAt t m r s v d n k (j + 1), 0) := by
  obtain ⟨f1, f2⟩ := advAt_fine h1 h2 j (by omega)
  rw [advB_mk f1 f2]
  obtain ⟨a, b, c, e, f⟩ := stB_bounds h1
  obtain ⟨g, h, i, jj, l⟩ := advOk_yes h2
  congr 1
  have ht : ((t + (j : Int) * d) % 65536 + d) % 65536 = (t + ((j + 1 : Nat) : Int) * d) % 65536 := by
    have e1 : ((j + 1 : Nat) : Int) * d = (j : Int) * d + d := by rw [Int.natCast_add, Int.add_mul]; omega
    rw [e1]; omega
  have hj1 : ((j + 1 : Nat) : Int) = (j : Int) + 1 := by omega
  by_cases hs : s + (j : Int) < n
  · rw [advAt_lt hs]
    by_cases hs2 : s + ((j + 1 : Nat) : Int) < n
    · have e1 : (s + (j : Int) + 1 == n) = false := by simp; omega
      have e3 : s + (j : Int) + 1 = s + ((j + 1 : Nat) : Int) := by omega
      rw [advAt_lt hs2, advTo_no e1, ht, e3]
    · have e1 : (s + (j : Int) + 1 == n) = true := by simp; omega
      have e3 : s + ((j + 1 : Nat) : Int) - n = 0 := by omega
      rw [advAt_ge hs2, advTo_yes e1, ht, e3]
  · rw [advAt_ge hs]
    have hs2 : ¬ (s + ((j + 1 : Nat) : Int) < n) := by omega
    have e1 : (s + (j : Int) - n + 1 == n) = false := by simp; omega
    have e3 : s + (j : Int) - n + 1 = s + ((j + 1 : Nat) : Int) - n := by omega
    rw [advAt_ge hs2, advTo_no e1, ht, e3]
/-- A STATE IS IN ITS ROUND AGAIN AFTER AS MANY SLOTS AS THIS HAS. -/
theorem advAt_end {t m r s v d k : Int} {N : Nat} (h1 : stB t m r s v = true) (h2 : advOk r s d (N : Int) k = true) :
    (advAt t m r s v d (N : Int) k N).s = s ∧ (advAt t m r s v d (N : Int) k N).r = (r + 1) % k ∧ (advAt t m r s v d (N : Int) k N).v = v := by
  obtain ⟨a, b, c, e, f⟩ := stB_bounds h1
  have hs : ¬ (s + ((N : Nat) : Int) < (N : Int)) := by omega
  refine ⟨?_, ?_, rfl⟩
  · simp only [advAt]; rw [if_neg hs]; omega
  · simp only [advAt]; rw [if_neg hs]
/-- TIME GOES ON BY THE DURATION. -/
theorem adv_time {t m r s v d n k : Int} (h : (advB t m r s v d n k).2 = 0) :
    ∃ x, timeB t m r s v (advB t m r s v d n k).1.t (advB t m r s v d n k).1.m (advB t m r s v d n k).1.r (advB t m r s v d n k).1.s (advB t m r s v d n k).1.v = (x, 0) ∧ (x - d) % 65536 = 0 ∧ -32768 ≤ x ∧ x ≤ 32767 := by
  obtain ⟨h1, h2, h3⟩ := advB_ok h
  have h4 := advAt_succ h1 h2 0 (by have := (advOk_yes h2).2.1; omega)
  have h5 := advAt_fine h1 h2 1 (by have := (advOk_yes h2).2.1; omega)
  rw [advAt_zero h1 h2] at h4
  have h6 : (advB t m r s v d n k).1 = advAt t m r s v d n k 1 := by
    have := congrArg Prod.fst h4; exact this
  rw [h6]
  have h7 := h5.1
  refine ⟨shortI ((advAt t m r s v d n k 1).t - t), by simp [timeB, h1, h7], ?_, ?_, ?_⟩
  · have e : (advAt t m r s v d n k 1).t = (t + ((1 : Nat) : Int) * d) % 65536 := rfl
    rw [e]
    have e2 : ((1 : Nat) : Int) * d = d := by simp
    rw [e2]
    unfold shortI; omega
  · unfold shortI; omega
  · unfold shortI; omega

theorem diffUpto_nil {xs ys : List Int} : ∀ k, (diffUpto xs ys k = []) ↔ ∀ j, j < k → xs.getD j 0 = ys.getD j 0 := by
  intro k
  induction k with
  | zero => simp [diffUpto]
  | succ k ih =>
    cases hb : (xs.getD k 0 != ys.getD k 0)
    · rw [diffUpto_no _ _ _ hb, ih]
      have he : xs.getD k 0 = ys.getD k 0 := by simpa using hb
      constructor
      · intro h j hj
        by_cases e : j = k
        · rw [e]; exact he
        · exact h j (by omega)
      · intro h j hj; exact h j (by omega)
    · rw [diffUpto_yes _ _ _ hb]
      have he : ¬ xs.getD k 0 = ys.getD k 0 := by simpa using hb
      constructor
      · intro h; simp at h
      · intro h; exact absurd (h k (by omega)) he
theorem diffs_nil {xs ys : List Int} (hl : xs.length = ys.length) : ((diffs xs ys).length = 0) ↔ xs = ys := by
  unfold diffs
  rw [List.length_eq_zero_iff, diffUpto_nil]
  constructor
  · intro h
    apply List.ext_getElem hl
    intro j h1 h2
    have := h j h1
    rwa [getD_of_lt _ _ h1, getD_of_lt _ _ h2] at this
  · intro h j _; rw [h]
theorem diffUpto_comm (xs ys : List Int) (k : Nat) : diffUpto xs ys k = diffUpto ys xs k := by
  unfold diffUpto
  congr 1
  apply List.filter_congr
  intro i _
  exact bne_comm
theorem diffs_comm {xs ys : List Int} (hl : xs.length = ys.length) : diffs xs ys = diffs ys xs := by
  unfold diffs; rw [hl, diffUpto_comm]
theorem bitsOf_inj {n : Nat} {x y : Int} (hx : 0 ≤ x) (hx2 : x < p2 n) (hy : 0 ≤ y) (hy2 : y < p2 n) (h : bitsOf x n = bitsOf y n) : x = y := by
  have h1 := numOf_bitsOf n x hx hx2
  have h2 := numOf_bitsOf n y hy hy2
  rw [h] at h1; omega
theorem stBits_inj {t m r s v t2 m2 r2 s2 v2 : Int} (h1 : stB t m r s v = true) (h2 : stB t2 m2 r2 s2 v2 = true) (h : stBits t m r s v = stBits t2 m2 r2 s2 v2) : t = t2 ∧ m = m2 ∧ r = r2 ∧ s = s2 ∧ v = v2 := by
  obtain ⟨a1, b1, c1, d1, e1⟩ := stB_bounds h1
  obtain ⟨a2, b2, c2, d2, e2⟩ := stB_bounds h2
  unfold stBits at h
  have p16 : p2 (16 : Nat) = 65536 := by decide
  have p4 : p2 (4 : Nat) = 16 := by decide
  have p8 : p2 (8 : Nat) = 256 := by decide
  have p32 : p2 (32 : Nat) = 4294967296 := by decide
  obtain ⟨h, hv⟩ := List.append_inj' h (by simp [length_bitsOf])
  obtain ⟨h, hs⟩ := List.append_inj' h (by simp [length_bitsOf])
  obtain ⟨h, hr⟩ := List.append_inj' h (by simp [length_bitsOf])
  obtain ⟨ht, hm⟩ := List.append_inj' h (by simp [length_bitsOf])
  exact ⟨bitsOf_inj a1.1 (by rw [p16]; omega) a2.1 (by rw [p16]; omega) ht, bitsOf_inj b1.1 (by rw [p4]; omega) b2.1 (by rw [p4]; omega) hm, bitsOf_inj c1.1 (by rw [p4]; omega) c2.1 (by rw [p4]; omega) hr, bitsOf_inj d1.1 (by rw [p8]; omega) d2.1 (by rw [p8]; omega) hs, bitsOf_inj e1.1 (by rw [p32]; omega) e2.1 (by rw [p32]; omega) hv⟩
/-- EQUAL STATES ALONE HAVE THE DISTANCE 0; TIME TURNS ITS SIGN. -/
theorem dist_law {t m r s v t2 m2 r2 s2 v2 : Int} (h : (distB t m r s v t2 m2 r2 s2 v2).2 = 0) :
    ∃ d x y, distB t m r s v t2 m2 r2 s2 v2 = (d, 0) ∧ distB t2 m2 r2 s2 v2 t m r s v = (d, 0) ∧ timeB t m r s v t2 m2 r2 s2 v2 = (x, 0) ∧ timeB t2 m2 r2 s2 v2 t m r s v = (y, 0) ∧
      ((d = 0) ↔ (t = t2 ∧ m = m2 ∧ r = r2 ∧ s = s2 ∧ v = v2)) ∧ ((x = -32768 ∧ y = x) ∨ y = -x) ∧ -32768 ≤ x ∧ x ≤ 32767 := by
  cases hb : (stB t m r s v && stB t2 m2 r2 s2 v2)
  · simp [distB, hb] at h
  have hb2 : (stB t2 m2 r2 s2 v2 && stB t m r s v) = true := by rw [Bool.and_comm]; exact hb
  have h1 : stB t m r s v = true := by simp at hb; exact hb.1
  have h2 : stB t2 m2 r2 s2 v2 = true := by simp at hb; exact hb.2
  have hl := len_st t m r s v t2 m2 r2 s2 v2
  refine ⟨((diffs (stBits t m r s v) (stBits t2 m2 r2 s2 v2)).length : Int), shortI (t2 - t), shortI (t - t2), by simp [distB, hb], ?_, by simp [timeB, hb], by simp [timeB, hb2], ?_, ?_, ?_, ?_⟩
  · simp only [distB, hb2, if_true]; rw [diffs_comm hl.symm]
  · constructor
    · intro h0
      exact stBits_inj h1 h2 ((diffs_nil hl).1 (by omega))
    · rintro ⟨rfl, rfl, rfl, rfl, rfl⟩
      have := (diffs_nil (xs := stBits t m r s v) rfl).2 rfl
      omega
  · have := stB_bounds h1
    have := stB_bounds h2
    unfold shortI; omega
  · unfold shortI; omega
  · unfold shortI; omega
end Go.Proofs.Ytkfhfggbmmhejaa
