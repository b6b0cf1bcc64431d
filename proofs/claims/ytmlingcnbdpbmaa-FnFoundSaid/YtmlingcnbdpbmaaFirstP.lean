/- Plain mathematics of the first missed error of a span: the powers, the first pair, the first three. No program in sight. -/
import Derived.Test.YtmlingcnbdpbmaaRoll
namespace Go.Proofs.Ytmlingcnbdpbmaa
open Go.RowKit
set_option linter.unusedVariables false

/-- The first number from lo on and below n for which p holds. -/
def scan (p : Nat → Bool) (lo : Nat) : Nat → Option Nat
  | 0 => none
  | n + 1 => match scan p lo n with
    | some j => some j
    | none => if lo ≤ n ∧ p n = true then some n else none
theorem scan_none {p : Nat → Bool} {lo : Nat} : ∀ {n : Nat}, (∀ j, lo ≤ j → j < n → p j = false) → scan p lo n = none
  | 0, _ => rfl
  | n + 1, h => by
    have ih := scan_none (p := p) (lo := lo) (n := n) (fun j a b => h j a (by omega))
    simp only [scan, ih]
    rw [if_neg]
    rintro ⟨a, b⟩
    rw [h n a (by omega)] at b
    cases b
theorem scan_hit {p : Nat → Bool} {lo j : Nat} (h1 : lo ≤ j) (hb : ∀ i, lo ≤ i → i < j → p i = false) (hp : p j = true) : ∀ {n : Nat}, j < n → scan p lo n = some j := by
  intro n
  induction n with
  | zero => intro h; omega
  | succ n ih =>
    intro h
    by_cases hk : j < n
    · simp only [scan, ih hk]
    · have e : j = n := by omega
      subst e
      simp only [scan, scan_none hb]
      rw [if_pos ⟨h1, hp⟩]
theorem scan_cases (p : Nat → Bool) (lo n : Nat) : (scan p lo n = none ∧ ∀ j, lo ≤ j → j < n → p j = false) ∨ ∃ j, scan p lo n = some j ∧ lo ≤ j ∧ j < n ∧ p j = true ∧ ∀ i, lo ≤ i → i < j → p i = false := by
  by_cases h : ∃ j, lo ≤ j ∧ j < n ∧ p j = true ∧ ∀ i, lo ≤ i → i < j → p i = false
  · obtain ⟨j, h1, h2, h3, h4⟩ := h
    exact .inr ⟨j, scan_hit h1 h4 h3 h2, h1, h2, h3, h4⟩
  · have hn : ∀ j, lo ≤ j → j < n → p j = false := by
      intro j
      induction j using Nat.strongRecOn with
      | ind j ih =>
        intro h1 h2
        cases hp : p j
        · rfl
        · exact absurd ⟨j, h1, h2, hp, fun i a b => ih i b a (by omega)⟩ h
    exact .inl ⟨scan_none hn, hn⟩
theorem scan_isSome {p : Nat → Bool} {lo n : Nat} (h : (scan p lo n).isSome = false) : ∀ j, lo ≤ j → j < n → p j = false := by
  rcases scan_cases p lo n with ⟨_, h2⟩ | ⟨j, h1, _⟩
  · exact h2
  · rw [h1] at h; cases h
theorem scan_some {p : Nat → Bool} {lo n j : Nat} (h1 : lo ≤ j) (h2 : j < n) (h3 : p j = true) : (scan p lo n).isSome = true := by
  rcases scan_cases p lo n with ⟨_, h⟩ | ⟨i, h, _⟩
  · rw [h j h1 h2] at h3; cases h3
  · rw [h]; rfl

/-- The first pair i < k < n with E i k. -/
def pairTo (E : Nat → Nat → Bool) (n : Nat) : Option (Nat × Nat) :=
  (scan (fun i => (scan (E i) (i + 1) n).isSome) 0 n).bind fun i => (scan (E i) (i + 1) n).map fun k => (i, k)
/-- The first three i < k < m < n with T i k m. -/
def tripTo (T : Nat → Nat → Nat → Bool) (n : Nat) : Option (Nat × Nat × Nat) :=
  (scan (fun i => (pairFrom (T i) (i + 1) n).isSome) 0 n).bind fun i => (pairFrom (T i) (i + 1) n).map fun q => (i, q)
where
  pairFrom (E : Nat → Nat → Bool) (lo n : Nat) : Option (Nat × Nat) :=
    (scan (fun i => (scan (E i) (i + 1) n).isSome) lo n).bind fun i => (scan (E i) (i + 1) n).map fun k => (i, k)
theorem pairFrom_hit {E : Nat → Nat → Bool} {lo n i k : Nat} (h0 : lo ≤ i) (h1 : ∀ j, lo ≤ j → j < i → (scan (E j) (j + 1) n).isSome = false) (h2 : i < k) (h3 : k < n) (h4 : ∀ j, i + 1 ≤ j → j < k → E i j = false) (h5 : E i k = true) :
    tripTo.pairFrom E lo n = some (i, k) := by
  have e1 : scan (E i) (i + 1) n = some k := scan_hit (by omega) h4 h5 h3
  have e2 : scan (fun i => (scan (E i) (i + 1) n).isSome) lo n = some i := scan_hit h0 h1 (by simp [e1]) (by omega)
  simp [tripTo.pairFrom, e2, e1]
theorem pairFrom_none {E : Nat → Nat → Bool} {lo n : Nat} (h1 : ∀ j, lo ≤ j → j < n → (scan (E j) (j + 1) n).isSome = false) : tripTo.pairFrom E lo n = none := by
  have e2 : scan (fun i => (scan (E i) (i + 1) n).isSome) lo n = none := scan_none h1
  simp [tripTo.pairFrom, e2]
theorem pairFrom_cases (E : Nat → Nat → Bool) (lo n : Nat) : (tripTo.pairFrom E lo n = none ∧ ∀ i k, lo ≤ i → i < k → k < n → E i k = false) ∨ ∃ i k, tripTo.pairFrom E lo n = some (i, k) ∧ lo ≤ i ∧ i < k ∧ k < n ∧ E i k = true := by
  rcases scan_cases (fun i => (scan (E i) (i + 1) n).isSome) lo n with ⟨h1, h2⟩ | ⟨i, h1, h2, h3, h4, _⟩
  · exact .inl ⟨pairFrom_none h2, fun i k a b c => scan_isSome (h2 i a (by omega)) k (by omega) c⟩
  · rcases scan_cases (E i) (i + 1) n with ⟨g, _⟩ | ⟨k, g1, g2, g3, g4, _⟩
    · simp only [g] at h4; cases h4
    · exact .inr ⟨i, k, by simp [tripTo.pairFrom, h1, g1], h2, by omega, g3, g4⟩
theorem pairTo_from (E : Nat → Nat → Bool) (n : Nat) : pairTo E n = tripTo.pairFrom E 0 n := rfl
theorem tripTo_hit {T : Nat → Nat → Nat → Bool} {n i k m : Nat} (h1 : ∀ j, j < i → (tripTo.pairFrom (T j) (j + 1) n).isSome = false) (h2 : tripTo.pairFrom (T i) (i + 1) n = some (k, m)) (h3 : i < n) : tripTo T n = some (i, k, m) := by
  have e2 : scan (fun i => (tripTo.pairFrom (T i) (i + 1) n).isSome) 0 n = some i := scan_hit (Nat.zero_le _) (fun j _ h => h1 j h) (by simp [h2]) h3
  simp [tripTo, e2, h2]
theorem tripTo_none {T : Nat → Nat → Nat → Bool} {n : Nat} (h1 : ∀ j, j < n → (tripTo.pairFrom (T j) (j + 1) n).isSome = false) : tripTo T n = none := by
  have e2 : scan (fun i => (tripTo.pairFrom (T i) (i + 1) n).isSome) 0 n = none := scan_none (fun j _ h => h1 j h)
  simp [tripTo, e2]
theorem tripTo_cases (T : Nat → Nat → Nat → Bool) (n : Nat) : (tripTo T n = none ∧ ∀ i k m, i < k → k < m → m < n → T i k m = false) ∨ ∃ i k m, tripTo T n = some (i, k, m) ∧ i < k ∧ k < m ∧ m < n ∧ T i k m = true := by
  rcases scan_cases (fun i => (tripTo.pairFrom (T i) (i + 1) n).isSome) 0 n with ⟨h1, h2⟩ | ⟨i, h1, _, h3, h4, _⟩
  · refine .inl ⟨tripTo_none (fun j h => h2 j (Nat.zero_le _) h), fun i k m a b c => ?_⟩
    have h := h2 i (Nat.zero_le _) (by omega)
    rcases pairFrom_cases (T i) (i + 1) n with ⟨_, g⟩ | ⟨k', m', g, _⟩
    · exact g k m (by omega) b c
    · simp only [g] at h; cases h
  · rcases pairFrom_cases (T i) (i + 1) n with ⟨g, _⟩ | ⟨k, m, g, g1, g2, g3, g4⟩
    · simp only [g] at h4; cases h4
    · exact .inr ⟨i, k, m, by simp [tripTo, h1, g], by omega, g2, g3, g4⟩

/-- The power at an index of a span, and the syndrome of an error there. -/
def powI (wd po : Int) (n i : Nat) : Int := rollI wd po 1 (n - 1 - i)
def synI (wd po : Int) (n i : Nat) : Int := rollI wd po po (n - 1 - i)
def eqP (f : Nat → Int) (i k : Nat) : Bool := decide (f i = f k)
def eqT (f : Nat → Int) (i k m : Nat) : Bool := decide (bxor (f i) (f k) = f m)
theorem syn_eqP {wd po : Int} (h : crcB wd po = true) (n : Nat) : eqP (synI wd po n) = eqP (powI wd po n) := by
  funext i k
  exact decide_eq_decide.2 (roll_eq h _ _)
theorem syn_nat {W P : Nat} (hW : 3 ≤ W) (hP : P < 2 ^ W) (n i : Nat) : synI (W : Int) (P : Int) n i = ((Reg.dblN W P W (Reg.dblN W P (n - 1 - i) 1) : Nat) : Int) := by
  rw [synI, rollI_nat hW hP P hP, Reg.dblN_P (by omega)]
theorem pow_nat {W P : Nat} (hW : 3 ≤ W) (hP : P < 2 ^ W) (n i : Nat) : powI (W : Int) (P : Int) n i = ((Reg.dblN W P (n - 1 - i) 1 : Nat) : Int) := by
  have h1 : 1 < 2 ^ W := by have := Nat.pow_le_pow_right (show 1 ≤ 2 by decide) hW; omega
  have := rollI_nat hW hP 1 h1 (n - 1 - i)
  exact this
theorem bxor_nat (a b : Nat) : bxor (a : Int) (b : Int) = ((a ^^^ b : Nat) : Int) := by simp [bxor]
theorem syn_eqT {wd po : Int} (h : crcB wd po = true) (n : Nat) : eqT (synI wd po n) = eqT (powI wd po n) := by
  funext i k m
  obtain ⟨W, P, rfl, rfl, hW1, hW2, hP1, hP2, hP3⟩ := crc_nat h
  have h1 : 1 < 2 ^ W := by have := Nat.pow_le_pow_right (show 1 ≤ 2 by decide) hW1; omega
  unfold eqT
  rw [syn_nat hW1 hP2, syn_nat hW1 hP2, syn_nat hW1 hP2, pow_nat hW1 hP2, pow_nat hW1 hP2, pow_nat hW1 hP2, bxor_nat, bxor_nat, ← Reg.dblN_xor]
  have l := fun j => Reg.dblN_lt (W := W) hP2 j 1 h1
  refine decide_eq_decide.2 ⟨fun e => ?_, fun e => ?_⟩
  · have := Reg.dblN_inj (by omega) hP2 hP3 W (Reg.dblN W P (n - 1 - i) 1 ^^^ Reg.dblN W P (n - 1 - k) 1) (Reg.dblN W P (n - 1 - m) 1) (Nat.xor_lt_two_pow (l _) (l _)) (l _) (by omega)
    omega
  · have e2 : Reg.dblN W P (n - 1 - i) 1 ^^^ Reg.dblN W P (n - 1 - k) 1 = Reg.dblN W P (n - 1 - m) 1 := by omega
    rw [e2]
theorem syn_ne {wd po : Int} (h : crcB wd po = true) (n i : Nat) : synI wd po n i ≠ 0 := by
  obtain ⟨W, P, rfl, rfl, hW1, hW2, hP1, hP2, hP3⟩ := crc_nat h
  intro e
  rw [synI, rollI_nat hW1 hP2 P hP2] at e
  have := Reg.dblN_zero (by omega) hP2 hP3 (n - 1 - i) P hP2 (by omega)
  omega
theorem pow_range {wd po : Int} (h : crcB wd po = true) (n i : Nat) : 0 ≤ powI wd po n i ∧ powI wd po n i < 16777216 := by
  obtain ⟨h1, h2, _⟩ := crcB_yes h
  have := rollI_range h (roll_one h).1 (roll_one h).2 (n - 1 - i)
  have := p2_crc h1 h2
  unfold powI
  omega
theorem syn_range {wd po : Int} (h : crcB wd po = true) (n i : Nat) : 0 ≤ synI wd po n i ∧ synI wd po n i < 16777216 := by
  obtain ⟨h1, h2, h3, h4, h5⟩ := crcB_yes h
  have := rollI_range h (show 0 ≤ po by omega) h4 (n - 1 - i)
  have := p2_crc h1 h2
  unfold synI
  omega
/-- The row of n numbers that is filled from its end, down to the index c. -/
def fillDown (f : Nat → Int) (n c : Nat) : List Int := (List.range n).map fun i => if c ≤ i then f i else 0
theorem length_fillDown (f : Nat → Int) (n c : Nat) : (fillDown f n c).length = n := by simp [fillDown]
theorem fillDown_top (f : Nat → Int) (n : Nat) : fillDown f n n = List.replicate n 0 := by
  apply List.ext_getElem
  · simp [fillDown]
  · intro i h1 h2
    simp [fillDown] at h1 ⊢
    omega
theorem fillDown_set (f : Nat → Int) (n c : Nat) (h : c < n) : (fillDown f n (c + 1)).set c (f c) = fillDown f n c := by
  apply List.ext_getElem
  · simp [fillDown]
  · intro i h1 h2
    simp only [fillDown, List.getElem_set, List.getElem_map, List.getElem_range]
    by_cases e : c = i
    · subst e; simp
    · rw [if_neg e]
      by_cases g : c + 1 ≤ i
      · rw [if_pos g, if_pos (by omega)]
      · rw [if_neg g, if_neg (by omega)]
theorem fillDown_getD (f : Nat → Int) (n j : Nat) (h : j < n) : (fillDown f n 0).getD j 0 = f j := by
  simp [fillDown, List.getD, h]
/-- The list of the first missed error. -/
def missL (f : Nat → Int) (n : Nat) : List Int := match pairTo (eqP f) n with
  | some (i, k) => [(i : Int), (k : Int)]
  | none => match tripTo (eqT f) n with
    | some (i, k, m) => [(i : Int), (k : Int), (m : Int)]
    | none => []
theorem missL_syn {wd po : Int} (h : crcB wd po = true) (n : Nat) : missL (synI wd po n) n = missL (powI wd po n) n := by
  unfold missL
  rw [syn_eqP h, syn_eqT h]
theorem missL_pair {f : Nat → Int} {n i k : Nat} (h : pairTo (eqP f) n = some (i, k)) : missL f n = [(i : Int), (k : Int)] := by simp [missL, h]
theorem missL_trip {f : Nat → Int} {n i k m : Nat} (h : pairTo (eqP f) n = none) (h2 : tripTo (eqT f) n = some (i, k, m)) : missL f n = [(i : Int), (k : Int), (m : Int)] := by simp [missL, h, h2]
theorem missL_none {f : Nat → Int} {n : Nat} (h : pairTo (eqP f) n = none) (h2 : tripTo (eqT f) n = none) : missL f n = [] := by simp [missL, h, h2]
theorem missL_len (f : Nat → Int) (n : Nat) : (missL f n).length ≤ 3 := by
  unfold missL
  split
  · simp
  · split <;> simp
/-- FirstMissed's and LeastWeight's answers. -/
def spanC (wd po n : Int) : Int := if crcB wd po = false then 1 else if inB n 1 64 = false then 2 else 0
def firstA (wd po n : Int) : List Int × Int := if spanC wd po n = 0 then (missL (powI wd po n.toNat) n.toNat, if (missL (powI wd po n.toNat) n.toNat).length = 0 then 4 else 0) else ([], spanC wd po n)
def leastA (wd po n : Int) : Int × Int := if spanC wd po n = 0 then (if (missL (powI wd po n.toNat) n.toNat).length = 0 then 4 else ((missL (powI wd po n.toNat) n.toNat).length : Int), 0) else (0, spanC wd po n)
theorem firstA_len (wd po n : Int) : (firstA wd po n).1.length ≤ 16384 := by
  unfold firstA
  split
  · have := missL_len (powI wd po n.toNat) n.toNat
    simp only
    omega
  · simp
end Go.Proofs.Ytmlingcnbdpbmaa
