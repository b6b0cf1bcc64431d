/- A text cut at every place of one byte, as the reference walks it and as strings.Split answers. No program in sight. -/
import Derived.Test.YtkhmnkpdlodepaaDoorPlain
import Derived.Lib.SplitLaws
import Derived.Lib.IndexLaws
namespace Go.Proofs.YtkhmnkpdlodepaaDoor
open Go.RowKit
set_option linter.unusedVariables false

/-- A piece in front of the first piece. -/
def glue (p : List UInt8) : List (List UInt8) → List (List UInt8)
  | [] => [p]
  | q :: qs => (p ++ q) :: qs
/-- A text cut at every c. -/
def cutL (c : UInt8) : List UInt8 → List (List UInt8)
  | [] => [[]]
  | b :: l => if b = c then [] :: cutL c l else glue [b] (cutL c l)
theorem cutL_ne (c : UInt8) (l : List UInt8) : cutL c l ≠ [] := by
  cases l with
  | nil => simp [cutL]
  | cons b l =>
    rw [cutL]
    split
    · simp
    · cases cutL c l <;> simp [glue]
theorem glue_nil {ps : List (List UInt8)} (h : ps ≠ []) : glue [] ps = ps := by
  cases ps with
  | nil => exact absurd rfl h
  | cons q qs => rfl
theorem glue_glue (p q : List UInt8) (ps : List (List UInt8)) (h : ps ≠ []) : glue p (glue q ps) = glue (p ++ q) ps := by
  cases ps with
  | nil => exact absurd rfl h
  | cons r rs => simp [glue]
/-- No c: one piece. -/
theorem cutL_none (c : UInt8) : ∀ l : List UInt8, c ∉ l → cutL c l = [l] := by
  intro l
  induction l with
  | nil => intro _; rfl
  | cons b l ih =>
    intro h
    have hb : b ≠ c := fun e => h (by rw [e]; exact List.mem_cons_self)
    rw [cutL, if_neg hb, ih (fun h2 => h (List.mem_cons_of_mem _ h2))]
    rfl
/-- A piece without c, then c. -/
theorem cutL_piece (c : UInt8) (r : List UInt8) : ∀ l : List UInt8, c ∉ l → cutL c (l ++ c :: r) = l :: cutL c r := by
  intro l
  induction l with
  | nil => intro _; simp [cutL]
  | cons b l ih =>
    intro h
    have hb : b ≠ c := fun e => h (by rw [e]; exact List.mem_cons_self)
    rw [List.cons_append, cutL, if_neg hb, ih (fun h2 => h (List.mem_cons_of_mem _ h2))]
    rfl
theorem index_one (c : UInt8) : ∀ l : List UInt8, (Lib.index l [c] = -1 → c ∉ l) ∧ ∀ i : Nat, Lib.index l [c] = i → ∃ p r, l = p ++ c :: r ∧ p.length = i ∧ c ∉ p := by
  intro l
  induction l with
  | nil => exact ⟨fun _ => by simp, fun i h => by simp [Lib.index] at h⟩
  | cons b l ih =>
    by_cases hb : b = c
    · subst hb
      have hix : Lib.index (b :: l) [b] = ((0 : Nat) : Int) := by rw [Lib.index]; simp [List.isPrefixOf]
      refine ⟨fun h => by rw [hix] at h; simp at h, fun i h => ⟨[], l, rfl, ?_, by simp⟩⟩
      rw [hix] at h
      simp only [List.length_nil]
      omega
    · have hp : ([c] : List UInt8).isPrefixOf (b :: l) = false := by simp [List.isPrefixOf, Ne.symm hb]
      have hix : Lib.index (b :: l) [c] = if Lib.index l [c] == -1 then -1 else Lib.index l [c] + 1 := by rw [Lib.index, hp]; simp
      have hge := Lib.index_ge l [c]
      constructor
      · intro h
        rw [hix] at h
        split at h
        · rename_i hm
          have := ih.1 (beq_iff_eq.1 hm)
          intro h2
          rcases List.mem_cons.1 h2 with h3 | h3
          · exact hb h3.symm
          · exact this h3
        · rename_i hm
          have hm' : Lib.index l [c] ≠ -1 := fun e => hm (beq_iff_eq.2 e)
          omega
      · intro i h
        rw [hix] at h
        split at h
        · omega
        · rename_i hm
          have hm' : Lib.index l [c] ≠ -1 := fun e => hm (beq_iff_eq.2 e)
          obtain ⟨j, hj⟩ : ∃ j : Nat, Lib.index l [c] = j := ⟨(Lib.index l [c]).toNat, by omega⟩
          obtain ⟨p, r, h1, h2, h3⟩ := ih.2 j hj
          refine ⟨b :: p, r, by rw [h1]; rfl, ?_, ?_⟩
          · simp only [List.length_cons]; omega
          · intro h4
            rcases List.mem_cons.1 h4 with h5 | h5
            · exact hb h5.symm
            · exact h3 h5
/-- strings.Split at one byte. -/
theorem splitK_cut (c : UInt8) : ∀ (k : Nat) (l : List UInt8), Lib.count l [c] = k → Lib.splitK [c] 0 k l = cutL c l := by
  intro k
  induction k with
  | zero =>
    intro l h
    have hn : c ∉ l := by
      rw [Lib.count_one] at h
      exact List.count_eq_zero.1 h
    rw [cutL_none c l hn]
    rfl
  | succ k ih =>
    intro l h
    by_cases hm : Lib.index l [c] = -1
    · rw [Lib.count_miss hm] at h; omega
    · have hge := Lib.index_ge l [c]
      obtain ⟨i, hi⟩ : ∃ i : Nat, Lib.index l [c] = i := ⟨(Lib.index l [c]).toNat, by omega⟩
      obtain ⟨p, r, h1, h2, h3⟩ := (index_one c l).2 i hi
      have hc := Lib.count_hit (sub := [c]) (by simp) hi
      have hm' : ¬ (Lib.index l [c] == -1) = true := fun e => hm (beq_iff_eq.1 e)
      rw [Lib.splitK, if_neg hm', hi]
      have e1 : ((i : Int).toNat + 0) = i := by omega
      have e2 : ((i : Int).toNat + ([c] : List UInt8).length) = i + 1 := by simp
      rw [e1, e2]
      have hd : l.drop (i + 1) = r := by rw [h1, ← h2]; simp
      have ht : l.take i = p := by rw [h1, ← h2]; simp
      have hk : Lib.count r [c] = k := by
        have e3 : i + ([c] : List UInt8).length = i + 1 := rfl
        rw [e3, hd] at hc
        omega
      rw [hd, ht, ih r hk, h1, cutL_piece c r p h3]
end Go.Proofs.YtkhmnkpdlodepaaDoor
