/- Contracts: bursts: slices.Index, slices.Contains, burstOf, l03Burst, BurstOf (program and reference). -/
import Derived.Test.YtmlingcnbdpbmaaLists
namespace Go.Proofs.Ytmlingcnbdpbmaa
open Go.RowKit
set_option linter.unusedVariables false

/-- The first index below k with the number y; k, if there is none. -/
def firstTo (xs : List Int) (y : Int) : Nat → Nat
  | 0 => 0
  | k + 1 => if firstTo xs y k < k then firstTo xs y k else if xs.getD k 0 = y then k else k + 1
theorem firstTo_le (xs : List Int) (y : Int) : ∀ k, firstTo xs y k ≤ k := by
  intro k
  induction k with
  | zero => exact Nat.le_refl _
  | succ k ih =>
    unfold firstTo
    split
    · omega
    · split <;> omega
theorem firstTo_none {xs : List Int} {y : Int} : ∀ k, (∀ j, j < k → xs.getD j 0 ≠ y) → firstTo xs y k = k := by
  intro k
  induction k with
  | zero => intro _; rfl
  | succ k ih =>
    intro h
    have h1 := ih fun j hj => h j (by omega)
    unfold firstTo
    rw [h1, if_neg (by omega), if_neg (h k (by omega))]
theorem firstTo_at {xs : List Int} {y : Int} {f : Nat} (hf : xs.getD f 0 = y) (hno : ∀ j, j < f → xs.getD j 0 ≠ y) : ∀ k, f < k → firstTo xs y k = f := by
  intro k
  induction k with
  | zero => intro h; omega
  | succ k ih =>
    intro h
    unfold firstTo
    by_cases e : f < k
    · rw [ih e, if_pos e]
    · have : f = k := by omega
      subst this
      rw [firstTo_none f hno, if_neg (by omega), if_pos hf]
theorem firstTo_no {xs : List Int} {y : Int} : ∀ k j, j < firstTo xs y k → xs.getD j 0 ≠ y := by
  intro k
  induction k with
  | zero => intro j hj; simp [firstTo] at hj
  | succ k ih =>
    intro j hj
    unfold firstTo at hj
    split at hj
    · exact ih j hj
    · rename_i h1
      have h2 := firstTo_le xs y k
      split at hj
      · exact ih j (by omega)
      · rename_i h3
        by_cases e : j = k
        · rw [e]; exact h3
        · exact ih j (by omega)
theorem firstTo_is {xs : List Int} {y : Int} : ∀ k, firstTo xs y k < k → xs.getD (firstTo xs y k) 0 = y := by
  intro k
  induction k with
  | zero => intro h; omega
  | succ k ih =>
    intro h
    unfold firstTo at h ⊢
    split
    · rename_i h1; exact ih h1
    · rename_i h1
      rw [if_neg h1] at h
      split
      · rename_i h2; exact h2
      · rename_i h2; rw [if_neg h2] at h; omega
/-- The last index below k with the number 1; 0, if there is none. -/
def lastTo (xs : List Int) : Nat → Nat
  | 0 => 0
  | k + 1 => if xs.getD k 0 = 1 then k else lastTo xs k
theorem lastTo_at {xs : List Int} {l : Nat} (hl : xs.getD l 0 = 1) : ∀ k, l < k → (∀ j, l < j → j < k → xs.getD j 0 ≠ 1) → lastTo xs k = l := by
  intro k
  induction k with
  | zero => intro h; omega
  | succ k ih =>
    intro h hno
    unfold lastTo
    by_cases e : l = k
    · subst e; rw [if_pos hl]
    · rw [if_neg (hno k (by omega) (by omega))]
      exact ih (by omega) fun j h1 h2 => hno j h1 (by omega)
theorem lastTo_ge {xs : List Int} {f : Nat} (hf : xs.getD f 0 = 1) : ∀ k, f < k → f ≤ lastTo xs k ∧ lastTo xs k < k ∧ xs.getD (lastTo xs k) 0 = 1 := by
  intro k
  induction k with
  | zero => intro h; omega
  | succ k ih =>
    intro h
    unfold lastTo
    split
    · rename_i h1; exact ⟨by omega, by omega, h1⟩
    · rename_i h1
      have : f ≠ k := fun e => h1 (e ▸ hf)
      have := ih (by omega)
      exact ⟨this.1, by omega, this.2.2⟩
theorem lastTo_no {xs : List Int} : ∀ k j, lastTo xs k < j → j < k → xs.getD j 0 ≠ 1 := by
  intro k
  induction k with
  | zero => intro j _ h; omega
  | succ k ih =>
    intro j h1 h2
    unfold lastTo at h1
    split at h1
    · omega
    · rename_i h3
      by_cases e : j = k
      · rw [e]; exact h3
      · exact ih j h1 (by omega)
/-- slices.Index' answer. -/
def idxOf (xs : List Int) (y : Int) : Int := if firstTo xs y xs.length < xs.length then (firstTo xs y xs.length : Int) else -1
/-- slices.Contains' answer. -/
def hasY (xs : List Int) (y : Int) : Bool := decide (firstTo xs y xs.length < xs.length)
/-- The burst of a list with a one: its first index, its length. -/
def burst (xs : List Int) : Int × Int := ((firstTo xs 1 xs.length : Int), (lastTo xs xs.length : Int) - (firstTo xs 1 xs.length : Int) + 1)
/-- BurstOf's answer. -/
def burstA (xs : List Int) : Int × Int × Int := if isBitsB xs = false then (0, 0, 1) else if hasY xs 1 = false then (0, 0, 4) else ((burst xs).1, (burst xs).2, 0)
theorem idxOf_nonneg (xs : List Int) (y : Int) : decide (0 ≤ idxOf xs y) = hasY xs y := by
  unfold idxOf hasY
  split
  · rename_i h
    rw [decide_eq_true h, decide_eq_true (by omega)]
  · rename_i h
    rw [decide_eq_false h]; rfl

theorem index_any (v : Value) (xs : List Int) (y : Int) (w : World) (hr : Rd .i64 w v xs) : Calls Try.prog 64 #[v, .int .i64 y] w fun e w' => e = .returned (.int .i64 (idxOf xs y)) ∧ w = w' := by
  obtain ⟨a, cap, rfl, hl, hm, hn, hc⟩ := hr
  unfold maxLen at hm
  have HC := Lib.hid hc
  clear hc hn
  go_enter Try.func64, Try.ntmps64
  go_wp2
  go_loop [5, 8] (fun q i => ∃ (k : Nat) (q0 : Value), k ≤ xs.length ∧ q0 = q ∧ i = .int .i64 k ∧ ∀ j, j < k → xs.getD j 0 ≠ y) (fun _ i => xs.length - (intOf i).toNat)
  case atStart => exact ⟨0, _, Nat.zero_le _, rfl, rfl, fun j hj => absurd hj (Nat.not_lt_zero _)⟩
  case round =>
    obtain ⟨k, q0, hk, rfl, rfl, hv⟩ := hrel
    have HV := Lib.hid hv
    clear hv
    by_cases hlt : k < xs.length
    · obtain ⟨b, off, rfl, hcell⟩ := HC.out k hlt
      obtain ⟨x, hx⟩ : ∃ x, x = xs.getD k 0 := ⟨_, rfl⟩
      rw [← hx] at hcell
      have HX := Lib.hid hx
      clear hx
      by_cases hxy : y = x
      · have hb : (y == x) = true := by simp [hxy]
        have hres : idxOf xs y = (k : Int) := by
          have h1 := firstTo_at (xs := xs) (y := y) (f := k) (by rw [← HX.out, hxy]) HV.out xs.length hlt
          unfold idxOf; rw [h1, if_pos hlt]
        have HR := Lib.hid hres
        clear hxy hres
        go_wp2
        go_ret
        exact ⟨by rw [HR.out]; rfl, rfl⟩
      · have hb : (y == x) = false := by simp [hxy]
        have HXY := Lib.hid hxy
        clear hxy
        go_wp2
        go_round
        case rel => exact ⟨k + 1, _, by omega, rfl, by go_num, fun j hj => by
            by_cases e : j = k
            · rw [e, ← HX.out]; exact fun h => HXY.out h.symm
            · exact HV.out j (by omega)⟩
        case measure => simp [intOf]; omega
    · have hkl : k = xs.length := by omega
      subst hkl
      have hres : idxOf xs y = -1 := by
        unfold idxOf; rw [firstTo_none _ HV.out, if_neg (by omega)]
      have HR := Lib.hid hres
      clear hres
      go_wp2
      go_ret
      exact ⟨by rw [HR.out]; rfl, rfl⟩
theorem contains_any (v : Value) (xs : List Int) (y : Int) (w : World) (hr : Rd .i64 w v xs) : Calls Try.prog 35 #[v, .int .i64 y] w fun e w' => e = .returned (.bool (hasY xs y)) ∧ w = w' := by
  have h := idxOf_nonneg xs y
  rw [← h]
  clear h
  have HR := Lib.hid hr
  clear hr
  go_enter Try.func35, Try.ntmps35
  go_wp2_with (go_at_call 64; refine (index_any _ xs y _ HR.out).mono ?_; rintro e w' ⟨rfl, rfl⟩)
  go_ret
  exact ⟨rfl, rfl⟩
theorem burstOf_any (v : Value) (xs : List Int) (w : World) (hr : Rd .i64 w v xs) (hb : allIn xs 0 1 = true) (h1 : hasY xs 1 = true) :
    Calls Try.prog 37 #[v] w fun e w' => e = .returned (.tuple #[.int .i64 (burst xs).1, .int .i64 (burst xs).2]) ∧ w = w' := by
  have hr0 := hr
  obtain ⟨a, cap, rfl, hl, hm, hn, hc⟩ := hr
  unfold maxLen at hm
  have HC := Lib.hid hc
  have HR := Lib.hid hr0
  have HBT := Lib.hid hb
  have hf : firstTo xs 1 xs.length < xs.length := by simpa [hasY] using h1
  have hidx : idxOf xs 1 = (firstTo xs 1 xs.length : Int) := by unfold idxOf; rw [if_pos hf]
  have hone := firstTo_is xs.length hf
  obtain ⟨f, hf0⟩ : ∃ f, f = firstTo xs 1 xs.length := ⟨_, rfl⟩
  have hbu : burst xs = ((f : Int), (lastTo xs xs.length : Int) - (f : Int) + 1) := by rw [hf0]; rfl
  rw [← hf0] at hf hidx hone
  have HI := Lib.hid hidx
  have HBU := Lib.hid hbu
  have HONE := Lib.hid hone
  clear hc hn hr0 hb h1 hidx hone hf0 hbu
  go_enter Try.func37, Try.ntmps37
  go_wp2_with (go_at_call 64; refine (index_any _ xs 1 _ HR.out).mono ?_; rw [HI.out]; rintro e w' ⟨rfl, rfl⟩)
  go_loop [5] (fun i => ∃ l : Nat, f ≤ l ∧ l < xs.length ∧ i = .int .i64 l ∧ ∀ j, l < j → j < xs.length → xs.getD j 0 ≠ 1) (fun i => (intOf i).toNat)
  case atStart => exact ⟨xs.length - 1, by omega, by omega, by go_num, fun j h1 h2 => by omega⟩
  case round =>
    obtain ⟨l, hfl, hll, rfl, hv⟩ := hrel
    have HV := Lib.hid hv
    clear hv
    obtain ⟨b, off, rfl, hcell⟩ := HC.out l hll
    have hx01 := allIn_at HBT.out l hll
    obtain ⟨x, hx⟩ : ∃ x, x = xs.getD l 0 := ⟨_, rfl⟩
    rw [← hx] at hcell hx01
    obtain ⟨hx0, hx1⟩ := hx01
    have HX := Lib.hid hx
    clear hx
    have hll2 : (l : Int) < (xs.length : Int) := by omega
    have hll3 : (0 : Int) ≤ (l : Int) := by omega
    by_cases hz : x = 0
    · have hb : (x == 0) = true := by simp [hz]
      have hne : f ≠ l := fun e => by
        have h1 := HONE.out
        rw [e, ← HX.out, hz] at h1
        exact absurd h1 (by decide)
      have HZ := Lib.hid hz
      clear hz
      go_wp2
      go_round
      case rel => exact ⟨l - 1, by omega, by omega, by go_num, fun j h1 h2 => by
          by_cases e : j = l
          · rw [e, ← HX.out, HZ.out]; decide
          · exact HV.out j (by omega) h2⟩
      case measure => simp [intOf]; omega
    · have hb : (x == 0) = false := by simp [hz]
      have hone : x = 1 := by omega
      have hres := lastTo_at (xs := xs) (l := l) (by rw [← HX.out, hone]) xs.length hll HV.out
      have HRES := Lib.hid hres
      clear hz hone hres
      go_wp2
      go_ret2
      exact ⟨by rw [HBU.out, HRES.out]; rfl, rfl⟩
/-- What l03Burst has found after k. -/
def burstUpto (xs : List Int) (k : Nat) : Int × Int := if firstTo xs 1 k < k then ((firstTo xs 1 k : Int), (lastTo xs k : Int) - (firstTo xs 1 k : Int) + 1) else (0, 0)
theorem l03Burst_any (v : Value) (xs : List Int) (w : World) (hr : Rd .i64 w v xs) (hb : allIn xs 0 1 = true) (hsm : xs.length ≤ 8192) :
    Calls Try.prog 43 #[v] w fun e w' => e = .returned (.tuple #[.int .i64 (burstUpto xs xs.length).1, .int .i64 (burstUpto xs xs.length).2]) ∧ w = w' := by
  obtain ⟨a, cap, rfl, hl, hm, hn, hc⟩ := hr
  unfold maxLen at hm
  have HC := Lib.hid hc
  have HBT := Lib.hid hb
  clear hc hn hb
  go_enter Try.func43, Try.ntmps43
  go_wp2
  go_loop [4, 5, 6] (fun f n i => ∃ k : Nat, k ≤ xs.length ∧ i = .int .i64 k ∧ f = .int .i64 (burstUpto xs k).1 ∧ n = .int .i64 (burstUpto xs k).2) (fun _ _ i => xs.length - (intOf i).toNat)
  case atStart => exact ⟨0, Nat.zero_le _, rfl, rfl, rfl⟩
  case round =>
    obtain ⟨k, hk, rfl, rfl, rfl⟩ := hrel
    by_cases hlt : k < xs.length
    · obtain ⟨b, off, rfl, hcell⟩ := HC.out k hlt
      have hx01 := allIn_at HBT.out k hlt
      obtain ⟨x, hx⟩ : ∃ x, x = xs.getD k 0 := ⟨_, rfl⟩
      rw [← hx] at hcell hx01
      obtain ⟨hx0, hx1⟩ := hx01
      have hkx : (k : Int) < (xs.length : Int) := by omega
      have hkx2 : (0 : Int) ≤ (k : Int) := by omega
      have hle := firstTo_le xs 1 k
      by_cases hz : x = 0
      · have hb : (x == 0) = true := by simp [hz]
        have hne : ¬ xs.getD k 0 = 1 := by rw [← hx, hz]; decide
        have hs : burstUpto xs (k + 1) = burstUpto xs k := by
          unfold burstUpto
          simp only [firstTo, lastTo, if_neg hne]
          by_cases e : firstTo xs 1 k < k
          · rw [if_pos e, if_pos e, if_pos (by omega)]
          · rw [if_neg e, if_neg e, if_neg (by omega)]
        have HS := Lib.hid hs
        obtain ⟨p, hp⟩ : ∃ p, p = burstUpto xs k := ⟨_, rfl⟩
        rw [← hp]
        have HP := Lib.hid hp
        clear hz hne hs hx hp hle
        go_wp2
        go_round
        case rel => exact ⟨k + 1, by omega, by go_num, by rw [HS.out, HP.out], by rw [HS.out, HP.out]⟩
        case measure => simp [intOf]; omega
      · have hb : (x == 0) = false := by simp [hz]
        have hone : xs.getD k 0 = 1 := by omega
        by_cases e : firstTo xs 1 k < k
        · have hs : burstUpto xs (k + 1) = ((firstTo xs 1 k : Int), (k : Int) - (firstTo xs 1 k : Int) + 1) := by
            unfold burstUpto
            simp only [firstTo, lastTo, if_pos hone, if_pos e]
            rw [if_pos (by omega)]
          have hp : burstUpto xs k = ((firstTo xs 1 k : Int), (lastTo xs k : Int) - (firstTo xs 1 k : Int) + 1) := by unfold burstUpto; rw [if_pos e]
          have hge := lastTo_ge (firstTo_is k e) k e
          rw [hp]
          obtain ⟨f, hf⟩ : ∃ f, f = firstTo xs 1 k := ⟨_, rfl⟩
          obtain ⟨l, hl0⟩ : ∃ l, l = lastTo xs k := ⟨_, rfl⟩
          rw [← hf] at hs hge e ⊢
          rw [← hl0] at hge ⊢
          obtain ⟨hge1, hge2, _⟩ := hge
          have HS := Lib.hid hs
          have hnz : ((l : Int) - (f : Int) + 1 == 0) = false := by simp; omega
          clear hz hone hs hx hp hle hf hl0
          go_wp2
          go_round
          case rel => exact ⟨k + 1, by omega, by go_num, by rw [HS.out], by rw [HS.out]⟩
          case measure => simp [intOf]; omega
        · have hek : firstTo xs 1 k = k := by omega
          have hs : burstUpto xs (k + 1) = ((k : Int), 1) := by
            unfold burstUpto
            simp only [firstTo, lastTo, if_pos hone, if_neg e]
            rw [if_pos (by omega)]
            simp
          have hp : burstUpto xs k = (0, 0) := by unfold burstUpto; rw [if_neg e]
          rw [hp]
          have HS := Lib.hid hs
          clear hz hone hs hx hp hle hek e
          go_wp2
          go_round
          case rel => exact ⟨k + 1, by omega, by go_num, by rw [HS.out], by rw [HS.out]⟩
          case measure => simp [intOf]; omega
    · have : k = xs.length := by omega
      subst this
      go_wp2
      go_ret2
      exact ⟨rfl, rfl⟩
theorem burstOfX_any (v : Value) (xs : List Int) (w : World) (hr : Rd .i64 w v xs) : Calls Try.prog 19 #[v] w fun e w' => e = .returned (.tuple #[.int .i64 (burstA xs).1, .int .i64 (burstA xs).2.1, .int .i64 (burstA xs).2.2]) ∧ w = w' := by
  have HR := Lib.hid hr
  clear hr
  cases h1 : isBitsB xs
  · have hf : burstA xs = (0, 0, 1) := by simp [burstA, h1]
    rw [hf]; clear hf
    go_enter Try.func19, Try.ntmps19
    go_wp2_with (go_at_call 34; refine (isBits_any _ xs _ HR.out).mono ?_; rintro e w' ⟨rfl, rfl⟩)
    go_ret3
    exact ⟨rfl, rfl⟩
  obtain ⟨hb1, hb2⟩ := isBitsB_yes h1
  have HBT := Lib.hid hb2
  clear hb2
  cases h2 : hasY xs 1
  · have hf : burstA xs = (0, 0, 4) := by simp [burstA, h1, h2]
    rw [hf]; clear hf
    go_enter Try.func19, Try.ntmps19
    go_wp2_with (first | (go_at_call 34; refine (isBits_any _ xs _ HR.out).mono ?_; rintro e w' ⟨rfl, rfl⟩) | (go_at_call 35; refine (contains_any _ xs 1 _ HR.out).mono ?_; rintro e w' ⟨rfl, rfl⟩))
    go_ret3
    exact ⟨rfl, rfl⟩
  · have hf : burstA xs = ((burst xs).1, (burst xs).2, 0) := by simp [burstA, h1, h2]
    rw [hf]; clear hf
    go_enter Try.func19, Try.ntmps19
    go_wp2_with (first | (go_at_call 34; refine (isBits_any _ xs _ HR.out).mono ?_; rintro e w' ⟨rfl, rfl⟩) | (go_at_call 35; refine (contains_any _ xs 1 _ HR.out).mono ?_; rintro e w' ⟨rfl, rfl⟩) | (go_at_call 37; refine (burstOf_any _ xs _ HR.out HBT.out h2).mono ?_; rintro e w' ⟨rfl, rfl⟩))
    go_ret3
    exact ⟨rfl, rfl⟩
theorem sBurstOf_any (v : Value) (xs : List Int) (w : World) (hr : Rd .i64 w v xs) : Calls Try.prog 20 #[v] w fun e w' => e = .returned (.tuple #[.int .i64 (burstA xs).1, .int .i64 (burstA xs).2.1, .int .i64 (burstA xs).2.2]) ∧ w = w' := by
  have HR := Lib.hid hr
  clear hr
  cases h1 : isBitsB xs
  · have hf : burstA xs = (0, 0, 1) := by simp [burstA, h1]
    rw [hf]; clear hf
    go_enter Try.func20, Try.ntmps20
    go_wp2_with (go_at_call 41; refine (sIsBits_any _ xs _ HR.out).mono ?_; rintro e w' ⟨rfl, rfl⟩)
    go_ret3
    exact ⟨rfl, rfl⟩
  obtain ⟨hb1, hb2⟩ := isBitsB_yes h1
  have HBT := Lib.hid hb2
  clear hb2
  cases h2 : hasY xs 1
  · have hf : burstA xs = (0, 0, 4) := by simp [burstA, h1, h2]
    have hn : ¬ firstTo xs 1 xs.length < xs.length := by simpa [hasY] using h2
    have hu : burstUpto xs xs.length = (0, 0) := by unfold burstUpto; rw [if_neg hn]
    have HU := Lib.hid hu
    rw [hf]; clear hf hn hu
    go_enter Try.func20, Try.ntmps20
    go_wp2_with (first | (go_at_call 41; refine (sIsBits_any _ xs _ HR.out).mono ?_; rintro e w' ⟨rfl, rfl⟩) | (go_at_call 43; refine (l03Burst_any _ xs _ HR.out HBT.out (by omega)).mono ?_; rw [HU.out]; rintro e w' ⟨rfl, rfl⟩))
    go_ret3
    exact ⟨rfl, rfl⟩
  · have hf : burstA xs = ((burst xs).1, (burst xs).2, 0) := by simp [burstA, h1, h2]
    have hy : firstTo xs 1 xs.length < xs.length := by simpa [hasY] using h2
    have hu : burstUpto xs xs.length = burst xs := by unfold burstUpto; rw [if_pos hy]; rfl
    have hge := lastTo_ge (firstTo_is xs.length hy) xs.length hy
    have hnz : ((burst xs).2 == 0) = false := by
      simp only [burst, beq_eq_false_iff_ne]
      omega
    have HU := Lib.hid hu
    rw [hf]; clear hf hy hu hge
    go_enter Try.func20, Try.ntmps20
    go_wp2_with (first | (go_at_call 41; refine (sIsBits_any _ xs _ HR.out).mono ?_; rintro e w' ⟨rfl, rfl⟩) | (go_at_call 43; refine (l03Burst_any _ xs _ HR.out HBT.out (by omega)).mono ?_; rw [HU.out]; rintro e w' ⟨rfl, rfl⟩))
    go_ret3
    exact ⟨rfl, rfl⟩
end Go.Proofs.Ytmlingcnbdpbmaa
