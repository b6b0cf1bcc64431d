/- Numbers and their texts: what both sides read. No program in sight. -/
import Derived.Test.YtkhmnkpdlodepaaDoorNumsIn
import Derived.Test.YtkhmnkpdlodepaaDoorCutL
import Derived.Test.YtkhmnkpdlodepaaDoorStT
import Derived.Lib.AtoiTie
namespace Go.Proofs.YtkhmnkpdlodepaaDoor
open Go.RowKit
set_option linter.unusedVariables false
set_option linter.unusedSimpArgs false

theorem toList_beq (a b : ByteArray) : (a.toList == b.toList) = true ↔ a = b := by
  rw [beq_iff_eq, ByteArray.toList_eq, ByteArray.toList_eq]
  constructor
  · intro h
    exact ByteArray.ext (Array.ext' h)
  · intro h; rw [h]
theorem decFrom_app (b : UInt8) : ∀ (l : List UInt8) (acc : Nat), Lib.decFrom acc (l ++ [b]) = match Lib.decFrom acc l, Lib.digitVal b with
    | some n, some d => some (n * 10 + d)
    | _, _ => none := by
  intro l
  induction l with
  | nil =>
    intro acc
    simp only [List.nil_append, Lib.decFrom]
    cases Lib.digitVal b <;> rfl
  | cons a l ih =>
    intro acc
    simp only [List.cons_append, Lib.decFrom]
    cases Lib.digitVal a with
    | none => rfl
    | some d => exact ih _
theorem digitVal_of (d : Nat) (h : d < 10) : Lib.digitVal (UInt8.ofNat (48 + d)) = some d := by
  have e : (UInt8.ofNat (48 + d)).toNat = 48 + d := by rw [UInt8.toNat_ofNat']; omega
  unfold Lib.digitVal
  rw [e, if_pos (by omega)]
  congr 1
  omega
theorem decFrom_dec (u : Nat) : Lib.decFrom 0 (Lib.decDigits u) = some u := by
  induction u using Nat.strongRecOn with
  | ind u ih =>
    by_cases h : u < 10
    · rw [Lib.decDigits, dif_pos h, Lib.decFrom, digitVal_of u h]
      simp [Lib.decFrom]
    · rw [Lib.decDigits, dif_neg h, decFrom_app, ih (u / 10) (by omega), digitVal_of (u % 10) (by omega)]
      show some (u / 10 * 10 + u % 10) = some u
      congr 1
      omega
theorem dec_byte (u : Nat) (b : UInt8) (h : b ∈ Lib.decDigits u) : 48 ≤ b.toNat ∧ b.toNat ≤ 57 := by
  obtain ⟨k, hk⟩ := List.getElem?_of_mem h
  obtain ⟨d, hd⟩ := Lib.digit_of_decFrom _ _ _ (decFrom_dec u) k b hk
  have := Lib.digitVal_eq hd
  omega
theorem nDigits_le (k u : Nat) (h : u < 10 ^ (k + 1)) : Lib.nDigits u ≤ k + 1 := by
  induction k generalizing u with
  | zero => rw [Lib.nDigits_small (by simpa using h)]; exact Nat.le_refl _
  | succ k ih =>
    by_cases h10 : u < 10
    · rw [Lib.nDigits_small h10]; omega
    · rw [Lib.nDigits_big h10]
      rw [Nat.pow_succ] at h
      have := ih (u / 10) (by omega)
      omega
theorem decDigits_ne (u : Nat) : Lib.decDigits u ≠ [] := by
  intro h
  have h1 := Lib.decDigits_length u
  have h2 := Lib.nDigits_pos u
  rw [h] at h1
  simp at h1
  omega
/-- The number that a text is, as the reference reads it. -/
def okM (s : ByteArray) : Option Int := if s.size < 1 ∨ 12 < s.size then none else match Lib.decFrom 0 s.data.toList with
  | some n => if ((decS n).toList == s.toList) = true then some (n : Int) else none
  | none => none
theorem okM_dec (n : Nat) (h : n < 1000000000000) : okM (decS n) = some (n : Int) := by
  have hs : (decS n).size = Lib.nDigits n := by
    show (Lib.decDigits n).toArray.size = _
    rw [List.size_toArray, Lib.decDigits_length]
  have h1 := Lib.nDigits_pos n
  have h2 := nDigits_le 11 n (by omega)
  unfold okM
  rw [if_neg (by omega)]
  have e : (decS n).data.toList = Lib.decDigits n := by simp [decS]
  rw [e, decFrom_dec n]
  simp
theorem okM_inv {s : ByteArray} {v : Int} (h : okM s = some v) : ∃ n : Nat, v = (n : Int) ∧ n < 1000000000000 ∧ s = decS n := by
  unfold okM at h
  split at h
  · cases h
  rename_i hsz
  cases hd : Lib.decFrom 0 s.data.toList with
  | none => rw [hd] at h; cases h
  | some n =>
    rw [hd] at h
    simp only at h
    split at h
    · rename_i he
      have hl := Lib.decFrom_lt _ _ _ hd
      have hz : s.data.toList.length = s.size := Array.length_toList
      have hp : 10 ^ s.data.toList.length ≤ 10 ^ 12 := Nat.pow_le_pow_right (by decide) (by omega)
      refine ⟨n, (Option.some.inj h).symm, by omega, ((toList_beq _ _).1 he).symm⟩
    · cases h
theorem itoaS_nat (n : Nat) : itoaS (n : Int) = decS n := by
  unfold itoaS
  rw [Lib.itoa_nonneg]
  rfl
theorem okN_dec (n : Nat) (h : n < 1000000000000) : okN (decS n) = some (n : Int) := by
  have e : (decS n).data.toList = Lib.decDigits n := by simp [decS]
  have h2 := nDigits_le 11 n (by omega)
  have hp : Lib.parseIntB 64 (decS n).data.toList = .ok (n : Int) := by
    rw [e, Lib.parseIntB_64, Lib.atoiAll_short _ (by rw [Lib.decDigits_length]; omega)]
    have ha : Lib.atoi (Lib.decDigits n) = some (n : Int) := by
      cases hl : Lib.decDigits n with
      | nil => exact absurd hl (decDigits_ne n)
      | cons b r =>
        have hb := dec_byte n b (by rw [hl]; exact List.mem_cons_self)
        have h45 : ¬ (b == 45) = true := by
          intro hx
          rw [beq_iff_eq.1 hx] at hb
          exact absurd hb.1 (by decide)
        have h43 : ¬ (b == 43) = true := by
          intro hx
          rw [beq_iff_eq.1 hx] at hb
          exact absurd hb.1 (by decide)
        rw [Lib.atoi, if_neg h45, if_neg h43, ← hl]
        have hn : Lib.decNat (Lib.decDigits n) = some n := by
          unfold Lib.decNat
          rw [hl]
          simp only [List.isEmpty_cons, Bool.false_eq_true, if_false]
          rw [← hl]
          exact decFrom_dec n
        rw [hn]
        rfl
    rw [ha]
    rfl
  unfold okN
  rw [hp]
  simp only
  rw [itoaS_nat]
  simp
theorem okN_inv {s : ByteArray} {v : Int} (h : okN s = some v) : s = itoaS v := by
  unfold okN at h
  split at h
  · split at h
    · rename_i he
      rw [Option.some.inj h] at he
      exact ((toList_beq _ _).1 he).symm
    · cases h
  · cases h
theorem okN_of_okM {s : ByteArray} {v : Int} (h : okM s = some v) : okN s = some v := by
  obtain ⟨n, rfl, hn, rfl⟩ := okM_inv h
  exact okN_dec n hn
theorem okM_of_okN {s : ByteArray} {v : Int} (h : okN s = some v) (h0 : 0 ≤ v) (h1 : v < 1000000000000) : okM s = some v := by
  have e := okN_inv h
  obtain ⟨n, rfl⟩ := Int.eq_ofNat_of_zero_le h0
  rw [e, itoaS_nat]
  exact okM_dec n (by omega)
/-- The numbers that texts are, as the reference reads them. -/
def okMs : List ByteArray → Option (List Int)
  | [] => some []
  | p :: ps => match okM p, okMs ps with
    | some v, some vs => some (v :: vs)
    | _, _ => none
theorem okMs_snoc (ps : List ByteArray) (p : ByteArray) : okMs (ps ++ [p]) = match okMs ps, okM p with
    | some vs, some v => some (vs ++ [v])
    | _, _ => none := by
  induction ps with
  | nil => simp only [List.nil_append, okMs]; cases okM p <;> rfl
  | cons q ps ih =>
    simp only [List.cons_append, okMs, ih]
    cases okM q <;> cases okMs ps <;> cases okM p <;> rfl
theorem okMs_none (ps qs : List ByteArray) (h : okMs ps = none) : okMs (ps ++ qs) = none := by
  induction ps with
  | nil => cases h
  | cons q ps ih =>
    simp only [List.cons_append, okMs] at h ⊢
    cases hq : okM q with
    | none => rfl
    | some v =>
      rw [hq] at h
      cases hp : okMs ps with
      | none => rw [ih hp]
      | some vs => rw [hp] at h; cases h
theorem okMs_len : ∀ (ps : List ByteArray) (ns : List Int), okMs ps = some ns → ns.length = ps.length := by
  intro ps
  induction ps with
  | nil => intro ns h; cases h; rfl
  | cons q ps ih =>
    intro ns h
    simp only [okMs] at h
    cases hq : okM q with
    | none => rw [hq] at h; cases h
    | some v =>
      cases hp : okMs ps with
      | none => rw [hq, hp] at h; cases h
      | some vs =>
        rw [hq, hp] at h
        cases h
        simp [ih vs hp]
theorem okNs_of_okMs : ∀ (ps : List ByteArray) (vs : List Int), okMs ps = some vs → okNs ps = some vs := by
  intro ps
  induction ps with
  | nil => intro vs h; exact h
  | cons q ps ih =>
    intro vs h
    simp only [okMs] at h
    cases hq : okM q with
    | none => rw [hq] at h; cases h
    | some v =>
      cases hp : okMs ps with
      | none => rw [hq, hp] at h; cases h
      | some us =>
        rw [hq, hp] at h
        cases h
        rw [okNs, okN_of_okM hq, ih us hp]
theorem okMs_of_okNs : ∀ (ps : List ByteArray) (vs : List Int), okNs ps = some vs → (∀ v ∈ vs, 0 ≤ v ∧ v < 1000000000000) → okMs ps = some vs := by
  intro ps
  induction ps with
  | nil => intro vs h _; exact h
  | cons q ps ih =>
    intro vs h hb
    simp only [okNs] at h
    cases hq : okN q with
    | none => rw [hq] at h; cases h
    | some v =>
      cases hp : okNs ps with
      | none => rw [hq, hp] at h; cases h
      | some us =>
        rw [hq, hp] at h
        cases h
        have h1 := hb v List.mem_cons_self
        rw [okMs, okM_of_okN hq h1.1 h1.2, ih us hp fun u hu => hb u (List.mem_cons_of_mem _ hu)]
/-- The state that numbers are. -/
def readB : Option (List Int) → Option (Int × Int × Int × Int × Int)
  | some [a, b, c, d, e] => if stB a b c d e = true then some (a, b, c, d, e) else none
  | _ => none
theorem readB_same (ps : List ByteArray) : readB (okMs ps) = readB (okNs ps) := by
  cases hm : okMs ps with
  | some vs => rw [okNs_of_okMs ps vs hm]
  | none =>
    cases hn : okNs ps with
    | none => rfl
    | some vs =>
      match vs, hn with
      | [], _ => rfl
      | [_], _ => rfl
      | [_, _], _ => rfl
      | [_, _, _], _ => rfl
      | [_, _, _, _], _ => rfl
      | _ :: _ :: _ :: _ :: _ :: _ :: _, _ => rfl
      | [a, b, c, d, e], hn =>
        unfold readB
        split
        · rename_i h
          simp at h
        · rename_i h
          by_cases hs : stB a b c d e = true
          · obtain ⟨⟨h1, h2⟩, ⟨h3, h4⟩, ⟨h5, h6⟩, ⟨h7, h8⟩, ⟨h9, h10⟩⟩ := stB_bounds hs
            have := okMs_of_okNs ps _ hn (by
              intro v hv
              simp only [List.mem_cons, List.not_mem_nil, or_false] at hv
              rcases hv with rfl | rfl | rfl | rfl | rfl <;> omega)
            rw [hm] at this
            cases this
          · simp [hs]
/-- The parts of a text at a slash. -/
theorem parts_data (s : ByteArray) : (partsS s slashS).map (·.data.toList) = cutL 47 s.data.toList := by
  unfold partsS
  rw [Lib.splitB_data]
  exact splitK_cut 47 _ _ rfl
theorem map_data_inj : ∀ (ps qs : List ByteArray), ps.map (·.data.toList) = qs.map (·.data.toList) → ps = qs := by
  intro ps
  induction ps with
  | nil => intro qs h; cases qs with
    | nil => rfl
    | cons q qs => simp at h
  | cons p ps ih =>
    intro qs h
    cases qs with
    | nil => simp at h
    | cons q qs =>
      simp only [List.map_cons, List.cons.injEq] at h
      rw [ih qs h.2, ByteArray.ext (Array.ext' h.1)]
theorem dec_noslash (u : Nat) : (47 : UInt8) ∉ Lib.decDigits u := fun h => absurd (dec_byte u _ h).1 (by decide)
/-- A valid state's text reads as that state. -/
theorem read_stT (t m r s v : Int) (h : stB t m r s v = true) : readB (okNs (partsS (stT t m r s v) slashS)) = some (t, m, r, s, v) := by
  obtain ⟨⟨ht1, ht2⟩, ⟨hm1, hm2⟩, ⟨hr1, hr2⟩, ⟨hs1, hs2⟩, ⟨hv1, hv2⟩⟩ := stB_bounds h
  obtain ⟨t, rfl⟩ := Int.eq_ofNat_of_zero_le ht1
  obtain ⟨m, rfl⟩ := Int.eq_ofNat_of_zero_le hm1
  obtain ⟨r, rfl⟩ := Int.eq_ofNat_of_zero_le hr1
  obtain ⟨s, rfl⟩ := Int.eq_ofNat_of_zero_le hs1
  obtain ⟨v, rfl⟩ := Int.eq_ofNat_of_zero_le hv1
  have hp : partsS (stT t m r s v) slashS = [decS t, decS m, decS r, decS s, decS v] := by
    refine map_data_inj _ _ ?_
    rw [parts_data]
    have e : (stT t m r s v).data.toList = Lib.decDigits t ++ 47 :: (Lib.decDigits m ++ 47 :: (Lib.decDigits r ++ 47 :: (Lib.decDigits s ++ 47 :: Lib.decDigits v))) := by
      unfold stT
      rw [if_pos h]
      simp [decS, slashS, List.append_assoc]
    rw [e, cutL_piece _ _ _ (dec_noslash t), cutL_piece _ _ _ (dec_noslash m), cutL_piece _ _ _ (dec_noslash r), cutL_piece _ _ _ (dec_noslash s), cutL_none _ _ (dec_noslash v)]
    simp [decS]
  rw [hp]
  simp only [okNs]
  rw [okN_dec t (by omega), okN_dec m (by omega), okN_dec r (by omega), okN_dec s (by omega), okN_dec v (by omega)]
  simp only [readB]
  rw [if_pos h]
theorem read_none : readB (okNs (partsS ⟨#[]⟩ slashS)) = none := by
  have hp : partsS ⟨#[]⟩ slashS = [⟨#[]⟩] := map_data_inj _ _ (by rw [parts_data]; rfl)
  rw [hp]
  rfl
end Go.Proofs.YtkhmnkpdlodepaaDoor
