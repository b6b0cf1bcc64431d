/- Plain laws of states and their bits and texts. No program in sight. -/
import Derived.Test.YtkhmnkpdlodepaaDoorNumL
import Derived.Test.YtkhmnkpdlodepaaDoorStF
import Derived.Test.YtkhmnkpdlodepaaDoorRdSt
namespace Go.Proofs.YtkhmnkpdlodepaaDoor
open Go.RowKit
set_option linter.unusedVariables false

theorem pw2 : p2 4 = 16 ∧ p2 8 = 256 ∧ p2 16 = 65536 ∧ p2 32 = 4294967296 := by decide
/-- A valid state's bits are that state. -/
theorem stFromB_bits {t m r s v : Int} (h : stB t m r s v = true) : stFromB (stBits t m r s v) = (⟨t, m, r, s, v⟩, 0) := by
  obtain ⟨⟨ht1, ht2⟩, ⟨hm1, hm2⟩, ⟨hr1, hr2⟩, ⟨hs1, hs2⟩, ⟨hv1, hv2⟩⟩ := stB_bounds h
  obtain ⟨q4, q8, q16, q32⟩ := pw2
  have hb : isBitsB (stBits t m r s v) = true := isBitsB_mk (by rw [length_stBits]; omega) (allIn_stBits t m r s v)
  unfold stFromB
  rw [if_pos ⟨hb, length_stBits t m r s v⟩]
  have l16 := length_bitsOf t 16
  have lm := length_bitsOf m 4
  have lr := length_bitsOf r 4
  have ls := length_bitsOf s 8
  have lv := length_bitsOf v 32
  have e1 : (stBits t m r s v).take 16 = bitsOf t 16 := by
    unfold stBits
    simp only [List.append_assoc]
    rw [List.take_append_of_le_length (by omega), List.take_of_length_le (by omega)]
  have e2 : ((stBits t m r s v).drop 16).take 4 = bitsOf m 4 := by
    unfold stBits
    simp only [List.append_assoc]
    rw [List.drop_append, List.drop_of_length_le (by omega), l16]
    simp only [List.nil_append, Nat.sub_self, List.drop_zero]
    rw [List.take_append_of_le_length (by omega), List.take_of_length_le (by omega)]
  have e3 : ((stBits t m r s v).drop 20).take 4 = bitsOf r 4 := by
    unfold stBits
    have : bitsOf t 16 ++ bitsOf m 4 ++ bitsOf r 4 ++ bitsOf s 8 ++ bitsOf v 32 = (bitsOf t 16 ++ bitsOf m 4) ++ (bitsOf r 4 ++ (bitsOf s 8 ++ bitsOf v 32)) := by simp only [List.append_assoc]
    rw [this, List.drop_append, List.drop_of_length_le (by rw [List.length_append]; omega), List.length_append, l16, lm]
    simp only [List.nil_append, Nat.sub_self, List.drop_zero]
    rw [List.take_append_of_le_length (by omega), List.take_of_length_le (by omega)]
  have e4 : ((stBits t m r s v).drop 24).take 8 = bitsOf s 8 := by
    unfold stBits
    have : bitsOf t 16 ++ bitsOf m 4 ++ bitsOf r 4 ++ bitsOf s 8 ++ bitsOf v 32 = (bitsOf t 16 ++ bitsOf m 4 ++ bitsOf r 4) ++ (bitsOf s 8 ++ bitsOf v 32) := by simp only [List.append_assoc]
    rw [this, List.drop_append, List.drop_of_length_le (by simp only [List.length_append]; omega)]
    simp only [List.length_append, l16, lm, lr, List.nil_append, Nat.sub_self, List.drop_zero]
    rw [List.take_append_of_le_length (by omega), List.take_of_length_le (by omega)]
  have e5 : ((stBits t m r s v).drop 32).take 32 = bitsOf v 32 := by
    unfold stBits
    rw [List.drop_append, List.drop_of_length_le (by simp only [List.length_append]; omega)]
    simp only [List.length_append, l16, lm, lr, ls, List.nil_append, Nat.sub_self, List.drop_zero]
    rw [List.take_of_length_le (by omega)]
  unfold stF
  rw [e1, e2, e3, e4, e5, numOf_bitsOf 16 t ht1 (by have : p2 ((16 : Nat) : Int) = 65536 := q16; omega), numOf_bitsOf 4 m hm1 (by have : p2 ((4 : Nat) : Int) = 16 := q4; omega), numOf_bitsOf 4 r hr1 (by have : p2 ((4 : Nat) : Int) = 16 := q4; omega), numOf_bitsOf 8 s hs1 (by have : p2 ((8 : Nat) : Int) = 256 := q8; omega), numOf_bitsOf 32 v hv1 (by have : p2 ((32 : Nat) : Int) = 4294967296 := q32; omega)]
theorem rdSt_text {t m r s v : Int} (h : stB t m r s v = true) : rdSt (stT t m r s v) = (⟨t, m, r, s, v⟩, true) := by
  unfold rdSt
  rw [read_stT t m r s v h]
  rfl
theorem rdSt_none {t m r s v : Int} (h : stB t m r s v = false) : rdSt (stT t m r s v) = (⟨0, 0, 0, 0, 0⟩, false) := by
  have e : stT t m r s v = ⟨#[]⟩ := by simp [stT, h]
  unfold rdSt
  rw [e, read_none]
  rfl
theorem stT_none {t m r s v : Int} (h : stB t m r s v = false) : ((stT t m r s v).toList != (⟨#[]⟩ : ByteArray).toList) = false := by
  have e : stT t m r s v = ⟨#[]⟩ := by simp [stT, h]
  rw [e]
  simp
theorem stT_some {t m r s v : Int} (h : stB t m r s v = true) : ((stT t m r s v).toList != (⟨#[]⟩ : ByteArray).toList) = true := by
  have e : stT t m r s v = decS t.toNat ++ slashS ++ decS m.toNat ++ slashS ++ decS r.toNat ++ slashS ++ decS s.toNat ++ slashS ++ decS v.toNat := by simp [stT, h]
  rw [bne_iff_ne, ByteArray.toList_eq, ByteArray.toList_eq]
  intro hh
  have h2 := congrArg List.length hh
  rw [e] at h2
  simp [slashS] at h2
end Go.Proofs.YtkhmnkpdlodepaaDoor
