/- Contracts: AcknowledgeBy (program and reference). -/
import Derived.Test.YtmjccemocffefaaSet
namespace Go.Proofs.Ytmjccemocffefaa
open Go.RowKit
set_option linter.unusedVariables false
set_option linter.unusedSimpArgs false

/-- AcknowledgeBy's answer. -/
def ackB (own n f s : Int) : Int × Int :=
  if (inB own 0 4294967295 && inB n 0 31 && inB f 0 4294967295 && inB s 0 4294967295) = false then (0, 2)
  else if hasB own n = false then (0, 5)
  else if (f == own) = true then (1, 0)
  else if (f == setB own n false) = false then (-1, 0)
  else if (s == own) = true then (1, 0)
  else if (s == setB own n false) = true then (0, 0)
  else (-1, 0)
theorem rd_three (k : IntKind) (w : World) (x y z : Int) (E : TypeId) : Rd k (w.alloc (.cells #[.int k x, .int k y, .int k z] E)) (.slice (some ⟨w.heap.size, 0, none⟩) 3 3) [x, y, z] :=
  ⟨_, 3, rfl, Nat.le_refl _, by decide, (fun h => by cases h), fun i hi => ⟨w.heap.size, 0, rfl, by
    have : i = 0 ∨ i = 1 ∨ i = 2 := by simp at hi; omega
    rcases this with rfl | rfl | rfl <;> simp⟩⟩
theorem ack_diff {own n : Int} (h1 : 0 ≤ own) (h2 : own ≤ 4294967295) (h3 : 0 ≤ n) (h4 : n ≤ 31) (h : hasB own n = true) : (own == setB own n false) = false := by
  obtain ⟨M, rfl⟩ := Int.eq_ofNat_of_zero_le h1
  obtain ⟨N, rfl⟩ := Int.eq_ofNat_of_zero_le h3
  rw [hasB_nat] at h
  rw [set_nat, h]
  simp only [Bool.true_eq_false, if_false]
  have hne : M ≠ M ^^^ 2 ^ N := by
    intro e
    have h2 := congrArg (fun z => z.testBit N) e
    simp only [Nat.testBit_xor, Nat.testBit_two_pow, h] at h2
    simp at h2
  have : ((M : Int) = ((M ^^^ 2 ^ N : Nat) : Int)) ↔ False := by constructor <;> intro hh; exact hne (by exact_mod_cast hh); exact hh.elim
  simp only [beq_eq_false_iff_ne, ne_eq]
  intro e
  exact this.1 e
set_option maxHeartbeats 2000000 in
theorem acknowledgeBy_any (own n f s : Int) (w : World) : Calls Try.prog 21 #[.int .i64 own, .int .i64 n, .int .i64 f, .int .i64 s] w fun e w' => e = .returned (.tuple #[.int .i64 (ackB own n f s).1, .int .i64 (ackB own n f s).2]) ∧ w = w' := by
  unfold ackB
  cases h1 : inB own 0 4294967295
  · go_enter Try.func21, Try.ntmps21
    go_wp2_with (go_at_call 36; refine (isVector_any _ _).mono ?_; rintro e w' ⟨rfl, rfl⟩)
    go_ret2
    exact ⟨rfl, rfl⟩
  cases h2 : inB n 0 31
  · go_enter Try.func21, Try.ntmps21
    go_wp2_with (first | (go_at_call 36; refine (isVector_any _ _).mono ?_; rintro e w' ⟨rfl, rfl⟩) | (go_at_call 37; refine (isNode_any _ _).mono ?_; rintro e w' ⟨rfl, rfl⟩) | fail)
    go_ret2
    exact ⟨rfl, rfl⟩
  cases h3 : inB f 0 4294967295
  · go_enter Try.func21, Try.ntmps21
    go_wp2_with (first | (go_at_call 36; refine (isVector_any _ _).mono ?_; rintro e w' ⟨rfl, rfl⟩) | (go_at_call 37; refine (isNode_any _ _).mono ?_; rintro e w' ⟨rfl, rfl⟩) | fail)
    go_ret2
    exact ⟨rfl, rfl⟩
  cases h4 : inB s 0 4294967295
  · go_enter Try.func21, Try.ntmps21
    go_wp2_with (first | (go_at_call 36; refine (isVector_any _ _).mono ?_; rintro e w' ⟨rfl, rfl⟩) | (go_at_call 37; refine (isNode_any _ _).mono ?_; rintro e w' ⟨rfl, rfl⟩) | fail)
    go_ret2
    exact ⟨rfl, rfl⟩
  obtain ⟨b1, b2⟩ := inB_yes h1
  obtain ⟨b3, b4⟩ := inB_yes h2
  have hdiff := ack_diff b1 b2 b3 b4
  obtain ⟨g, hg⟩ : ∃ g, g = setB own n false := ⟨_, rfl⟩
  rw [← hg] at hdiff ⊢
  have HG := Lib.hid hg
  clear hg
  cases h5 : hasB own n
  · clear hdiff
    go_enter Try.func21, Try.ntmps21
    go_wp2_with (first | (go_at_call 36; refine (isVector_any _ _).mono ?_; rintro e w' ⟨rfl, rfl⟩) | (go_at_call 37; refine (isNode_any _ _).mono ?_; rintro e w' ⟨rfl, rfl⟩) | (go_at_call 43; refine (has_any _ _ _ (by omega) (by omega) (by omega) (by omega)).mono ?_; rintro e w' ⟨rfl, rfl⟩) | fail)
    go_ret2
    exact ⟨rfl, rfl⟩
  clear hdiff
  cases h6 : (f == own) <;> cases h7 : (f == g) <;> cases h8 : (s == own) <;> cases h9 : (s == g)
  all_goals
    go_enter Try.func21, Try.ntmps21
    go_wp2_with (first | (go_at_call 36; refine (isVector_any _ _).mono ?_; rintro e w' ⟨rfl, rfl⟩) | (go_at_call 37; refine (isNode_any _ _).mono ?_; rintro e w' ⟨rfl, rfl⟩) | (go_at_call 43; refine (has_any _ _ _ (by omega) (by omega) (by omega) (by omega)).mono ?_; rintro e w' ⟨rfl, rfl⟩) | (go_at_call 38; refine (without_any _ _ _ (by omega) (by omega) (by omega) (by omega)).mono ?_; rw [← HG.out]; rintro e w' ⟨rfl, rfl⟩) | fail)
    go_ret2
    exact ⟨rfl, rfl⟩
set_option maxHeartbeats 2000000 in
theorem sAcknowledgeBy_any (own n f s : Int) (w : World) : Calls Try.prog 20 #[.int .i64 own, .int .i64 n, .int .i64 f, .int .i64 s] w fun e w' => e = .returned (.tuple #[.int .i64 (ackB own n f s).1, .int .i64 (ackB own n f s).2]) ∧ Below w.heap.size w w' := by
  unfold ackB
  have hv : vecs [own, f, s] = (inB own 0 4294967295 && (inB f 0 4294967295 && inB s 0 4294967295)) := by simp [vecs]
  cases h0 : (inB own 0 4294967295 && inB n 0 31 && inB f 0 4294967295 && inB s 0 4294967295)
  · cases h2 : (inB own 0 4294967295 && (inB f 0 4294967295 && inB s 0 4294967295))
    · rw [h2] at hv
      go_enter Try.func20, Try.ntmps20
      go_wp2_with (first | (go_at_call 33; refine (sVector_any _ [own, f, s] _ (rd_three _ _ _ _ _ _)).mono ?_; rintro e w' ⟨rfl, rfl⟩) | fail)
      go_ret2
      exact ⟨rfl, (Below.refl _ _).alloc (Nat.le_refl _) _⟩
    · rw [h2] at hv
      have hn : inB n 0 31 = false := by
        cases hn : inB n 0 31
        · rfl
        · simp [hn] at h0 h2; simp [h2] at h0
      go_enter Try.func20, Try.ntmps20
      go_wp2_with (first | (go_at_call 33; refine (sVector_any _ [own, f, s] _ (rd_three _ _ _ _ _ _)).mono ?_; rintro e w' ⟨rfl, rfl⟩) | (go_at_call 34; refine (sNode_any _ _).mono ?_; rintro e w' ⟨rfl, rfl⟩) | fail)
      go_ret2
      exact ⟨rfl, (Below.refl _ _).alloc (Nat.le_refl _) _⟩
  simp only [Bool.and_eq_true] at h0
  obtain ⟨⟨⟨h1, h2⟩, h3⟩, h4⟩ := h0
  rw [h1, h3, h4] at hv
  obtain ⟨b1, b2⟩ := inB_yes h1
  obtain ⟨b3, b4⟩ := inB_yes h2
  obtain ⟨g, hg⟩ : ∃ g, g = setB own n false := ⟨_, rfl⟩
  have hdiff := ack_diff b1 b2 b3 b4
  rw [← hg] at hdiff ⊢
  have HG := Lib.hid hg
  clear hg h1 h3 h4
  cases h5 : hasB own n
  · clear hdiff
    go_enter Try.func20, Try.ntmps20
    go_wp2_with (first | (go_at_call 33; refine (sVector_any _ [own, f, s] _ (rd_three _ _ _ _ _ _)).mono ?_; rintro e w' ⟨rfl, rfl⟩) | (go_at_call 34; refine (sNode_any _ _).mono ?_; rintro e w' ⟨rfl, rfl⟩) | (go_at_call 42; refine (sHas_any _ _ _ (by omega) (by omega) (by omega) (by omega)).mono ?_; rintro e w' ⟨rfl, rfl⟩) | fail)
    go_ret2
    exact ⟨rfl, (Below.refl _ _).alloc (Nat.le_refl _) _⟩
  have hdf := Lib.hid (hdiff h5)
  clear hdiff
  cases h6 : (f == own) <;> cases h7 : (f == g) <;> cases h8 : (s == own) <;> cases h9 : (s == g)
  all_goals
    first
    | (exfalso
       have e1 : s = own := by simpa using h8
       have e2 : s = g := by simpa using h9
       have e3 := hdf.out
       rw [← e1, ← e2] at e3
       simp at e3
       done)
    | (go_enter Try.func20, Try.ntmps20
       go_wp2_with (first | (go_at_call 33; refine (sVector_any _ [own, f, s] _ (rd_three _ _ _ _ _ _)).mono ?_; rintro e w' ⟨rfl, rfl⟩) | (go_at_call 34; refine (sNode_any _ _).mono ?_; rintro e w' ⟨rfl, rfl⟩) | (go_at_call 42; refine (sHas_any _ _ _ (by omega) (by omega) (by omega) (by omega)).mono ?_; rintro e w' ⟨rfl, rfl⟩) | (go_at_call 35; refine (l05Set_any _ _ _ _ (by omega) (by omega) (by omega) (by omega)).mono ?_; rw [← HG.out]; rintro e w' ⟨rfl, rfl⟩) | fail)
       go_ret2
       exact ⟨rfl, (Below.refl _ _).alloc (Nat.le_refl _) _⟩)
end Go.Proofs.Ytmjccemocffefaa
