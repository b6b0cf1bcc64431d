/- The number of ones in a number below 2^24, as OnesCount64 counts them. No program in sight. -/
import Derived.Test.YtmlingcnbdpbmaaNums
namespace Go.Proofs.Ytmlingcnbdpbmaa
set_option linter.unusedVariables false

/-- The number of ones among the k lowest bits. -/
def popT : Nat → Nat → Nat
  | 0, _ => 0
  | k + 1, x => popT k x + (x / 2 ^ k) % 2
theorem popT_le : ∀ k x, popT k x ≤ k := by
  intro k x
  induction k with
  | zero => simp [popT]
  | succ k ih => simp only [popT]; omega
theorem popT_add (x : Nat) : ∀ j, popT (8 + j) x = popT 8 x + popT j (x / 256) := by
  intro j
  induction j with
  | zero => rfl
  | succ j ih =>
    have e : x / 2 ^ (8 + j) = x / 256 / 2 ^ j := by rw [Nat.pow_add, Nat.div_div_eq_div_mul]
    show popT (8 + j) x + (x / 2 ^ (8 + j)) % 2 = popT 8 x + (popT j (x / 256) + (x / 256 / 2 ^ j) % 2)
    rw [ih, e]; omega
theorem popT_mod (x : Nat) : popT 8 x = popT 8 (x % 256) := by
  simp only [popT, Nat.reducePow]
  omega
theorem popT_top {W P : Nat} (h : P < 2 ^ W) : ∀ j, popT (W + j) P = popT W P := by
  intro j
  induction j with
  | zero => rfl
  | succ j ih =>
    have e : P / 2 ^ (W + j) = 0 := Nat.div_eq_of_lt (Nat.lt_of_lt_of_le h (Nat.pow_le_pow_right (by decide) (by omega)))
    show popT (W + j) P + (P / 2 ^ (W + j)) % 2 = _
    rw [ih, e]; rfl
theorem land_split (a b m n : Nat) (ha : a < 256) (hm : m < 256) : (a + 256 * b) &&& (m + 256 * n) = (a &&& m) + 256 * (b &&& n) := by
  have h1 : ((a + 256 * b) &&& (m + 256 * n)) % 2 ^ 8 = _ := Nat.and_mod_two_pow
  have h2 : ((a + 256 * b) &&& (m + 256 * n)) / 2 ^ 8 = _ := Nat.and_div_two_pow
  have e1 : (a + 256 * b) % 2 ^ 8 = a := by omega
  have e2 : (m + 256 * n) % 2 ^ 8 = m := by omega
  have e3 : (a + 256 * b) / 2 ^ 8 = b := by omega
  have e4 : (m + 256 * n) / 2 ^ 8 = n := by omega
  rw [e1, e2] at h1
  rw [e3, e4] at h2
  omega
def g1 (b : Nat) : Nat := ((b / 2) &&& 85) + (b &&& 85)
def g2 (b : Nat) : Nat := ((b / 4) &&& 51) + (b &&& 51)
def g3 (b : Nat) : Nat := (b / 16 + b) % 16
theorem g_tab : ∀ b : Fin 256, (∀ e : Fin 2, (b.val / 2 + 128 * e.val) &&& 85 = (b.val / 2) &&& 85) ∧ (∀ e : Fin 4, (b.val / 4 + 64 * e.val) &&& 51 = (b.val / 4) &&& 51) ∧ g1 b.val < 256 ∧ g2 (g1 b.val) ≤ 68 ∧ g2 (g1 b.val) % 16 ≤ 4 ∧ g3 (g2 (g1 b.val)) = popT 8 b.val := by decide +kernel
theorem st1 (b c M : Nat) (hb : b < 256) : (((b + 256 * c) / 2) &&& (85 + 256 * M)) + ((b + 256 * c) &&& (85 + 256 * M)) = g1 b + 256 * (((c / 2) &&& M) + (c &&& M)) := by
  have e : (b + 256 * c) / 2 = (b / 2 + 128 * (c % 2)) + 256 * (c / 2) := by omega
  rw [e, land_split _ _ _ _ (by omega) (by decide), land_split _ _ _ _ hb (by decide)]
  have := (g_tab ⟨b, hb⟩).1 ⟨c % 2, by omega⟩
  simp only at this
  rw [this, g1]; omega
theorem st2 (b c M : Nat) (hb : b < 256) (h4 : ∀ e : Fin 4, (b / 4 + 64 * e.val) &&& 51 = (b / 4) &&& 51) : (((b + 256 * c) / 4) &&& (51 + 256 * M)) + ((b + 256 * c) &&& (51 + 256 * M)) = g2 b + 256 * (((c / 4) &&& M) + (c &&& M)) := by
  have e : (b + 256 * c) / 4 = (b / 4 + 64 * (c % 4)) + 256 * (c / 4) := by omega
  rw [e, land_split _ _ _ _ (by omega) (by decide), land_split _ _ _ _ hb (by decide)]
  have := h4 ⟨c % 4, by omega⟩
  simp only at this
  rw [this, g2]; omega
theorem st3 (b c M : Nat) (hb : b ≤ 68) (hc : c % 16 ≤ 4) : ((b + 256 * c) / 16 + (b + 256 * c)) &&& (15 + 256 * M) = g3 b + 256 * ((c / 16 + c) &&& M) := by
  have e : (b + 256 * c) / 16 + (b + 256 * c) = (b / 16 + 16 * (c % 16) + b) + 256 * (c / 16 + c) := by omega
  rw [e, land_split _ _ _ _ (by omega) (by decide)]
  have h := Nat.and_two_pow_sub_one_eq_mod (b / 16 + 16 * (c % 16) + b) 4
  have e2 : 2 ^ 4 - 1 = 15 := rfl
  rw [e2] at h
  rw [h, g3]; omega
/-- THE FIRST STEPS OF OnesCount64: the ones of each byte. -/
theorem ones_bytes (b0 b1 b2 : Nat) (h0 : b0 < 256) (h1 : b1 < 256) (h2 : b2 < 256) (x a b c : Nat) (hx : x = b0 + 256 * (b1 + 256 * (b2 + 256 * 0)))
    (ha : a = ((x / 2) &&& 6148914691236517205) + (x &&& 6148914691236517205)) (hb : b = ((a / 4) &&& 3689348814741910323) + (a &&& 3689348814741910323))
    (hc : c = (b / 16 + b) &&& 1085102592571150095) : a < 16777216 ∧ b < 16777216 ∧ c = popT 8 b0 + 256 * popT 8 b1 + 65536 * popT 8 b2 := by
  have e1 : 6148914691236517205 = 85 + 256 * (85 + 256 * (85 + 256 * 366503875925)) := by decide
  have e2 : 3689348814741910323 = 51 + 256 * (51 + 256 * (51 + 256 * 219902325555)) := by decide
  have e3 : 1085102592571150095 = 15 + 256 * (15 + 256 * (15 + 256 * 64677154575)) := by decide
  obtain ⟨p1, p2, p3, p4, p5, p6⟩ := g_tab ⟨b0, h0⟩
  obtain ⟨q1, q2, q3, q4, q5, q6⟩ := g_tab ⟨b1, h1⟩
  obtain ⟨r1, r2, r3, r4, r5, r6⟩ := g_tab ⟨b2, h2⟩
  simp only at p3 p4 p5 p6 q3 q4 q5 q6 r3 r4 r5 r6
  have f0 := (g_tab ⟨g1 b0, p3⟩).2.1
  have f1 := (g_tab ⟨g1 b1, q3⟩).2.1
  have f2 := (g_tab ⟨g1 b2, r3⟩).2.1
  simp only at f0 f1 f2
  have ea : a = g1 b0 + 256 * (g1 b1 + 256 * (g1 b2 + 256 * 0)) := by
    rw [ha, hx, e1, st1 _ _ _ h0, st1 _ _ _ h1, st1 _ _ _ h2]; simp
  have eb : b = g2 (g1 b0) + 256 * (g2 (g1 b1) + 256 * (g2 (g1 b2) + 256 * 0)) := by
    rw [hb, ea, e2, st2 _ _ _ p3 f0, st2 _ _ _ q3 f1, st2 _ _ _ r3 f2]; simp
  have ec : c = g3 (g2 (g1 b0)) + 256 * (g3 (g2 (g1 b1)) + 256 * (g3 (g2 (g1 b2)) + 256 * 0)) := by
    rw [hc, eb, e3, st3 _ _ _ p4 (by omega), st3 _ _ _ q4 (by omega), st3 _ _ _ r4 (by omega)]; simp
  refine ⟨by omega, by omega, ?_⟩
  rw [ec, p6, q6, r6]; omega
theorem ones_last (c d e p0 p1 p2 : Nat) (hc : c = p0 + 256 * p1 + 65536 * p2) (h0 : p0 ≤ 8) (h1 : p1 ≤ 8) (h2 : p2 ≤ 8) (hd : d = c + c / 256) (he : e = d + d / 65536) :
    (e + e / 4294967296) % 128 = p0 + p1 + p2 ∧ d < 16777216 ∧ e < 16777216 := by
  have x1 : c / 256 = p1 + 256 * p2 := by omega
  have x2 : d / 65536 = p2 := by omega
  have x3 : e / 4294967296 = 0 := by omega
  refine ⟨?_, by omega, by omega⟩
  rw [x3, he, x2, hd, x1, hc]; omega
theorem popT_24 (x : Nat) (h : x < 16777216) : popT 24 x = popT 8 (x % 256) + popT 8 (x / 256 % 256) + popT 8 (x / 65536) := by
  have a := popT_add x 16
  have b := popT_add (x / 256) 8
  have c : x / 256 / 256 = x / 65536 := by omega
  rw [c] at b
  have d := popT_mod x
  have e := popT_mod (x / 256)
  show popT (8 + 16) x = _
  rw [a]
  show _ + popT (8 + 8) (x / 256) = _
  rw [b, d, e]; omega
end Go.Proofs.Ytmlingcnbdpbmaa
