/- The plain law of FnBytes: bytes come back from their bits. -/
import Derived.Test.YtmmgpgmjphjgnaaBytes
import Derived.Test.YtmmgpgmjphjgnaaBitBy
import Derived.Test.YtmmgpgmjphjgnaaNumL
namespace Go.Proofs.Ytmmgpgmjphjgnaa
open Go.RowKit
set_option linter.unusedVariables false

theorem bytesBits_cons (x : Int) (xs : List Int) : bytesBits (x :: xs) = bitsOf x 8 ++ bytesBits xs := by simp [bytesBits]
theorem byteAt_bits : ∀ (xs : List Int) (j : Nat) (hj : j < xs.length), allIn xs 0 255 = true → byteAt (bytesBits xs) j = xs[j] := by
  intro xs
  induction xs with
  | nil => intro j hj; cases hj
  | cons x xs ih =>
    intro j hj hb
    have hm := allIn_mem hb
    have h8 : (bitsOf x 8).length = 8 := length_bitsOf x 8
    unfold byteAt
    rw [bytesBits_cons]
    cases j with
    | zero =>
      have hx := hm x (List.mem_cons_self)
      rw [Nat.mul_zero, List.drop_zero, List.take_append_of_le_length (by omega), List.take_of_length_le (by omega)]
      rw [numOf_bitsOf 8 x hx.1 (by have : p2 ((8 : Nat) : Int) = 256 := by decide
                                    omega)]
      rfl
    | succ j =>
      have e : 8 * (j + 1) = 8 * j + 8 := by omega
      have e2 : (bitsOf x 8 ++ bytesBits xs).drop 8 = bytesBits xs := by rw [← h8]; exact List.drop_left
      rw [e, Nat.add_comm (8 * j) 8, ← List.drop_drop, e2]
      have hj2 : j < xs.length := by simpa using hj
      have := ih j hj2 (allIn_mk fun y hy => hm y (List.mem_cons_of_mem _ hy))
      simpa [byteAt] using this
theorem bytesTo_bits {xs : List Int} (hb : allIn xs 0 255 = true) : bytesTo (bytesBits xs) xs.length = xs := by
  apply List.ext_getElem
  · exact length_bytesTo _ _
  · intro j h1 h2
    simp only [bytesTo, List.getElem_map, List.getElem_range]
    exact byteAt_bits xs j h2 hb
theorem by_law {xs : List Int} (h : (byBits xs).2 = 0) : bitsBy (byBits xs).1 = (xs, 0) ∧ (byBits xs).1.length = 8 * xs.length ∧ xs.length ≤ 1024 := by
  unfold byBits at h ⊢
  cases hb : isBytesB xs
  · rw [hb] at h; simp at h
  · obtain ⟨h1, h2⟩ := isBytesB_yes hb
    have hl := length_bytesBits xs
    have hbb : isBitsB (bytesBits xs) = true := isBitsB_mk (by omega) (allIn_bytesBits xs)
    simp only [Bool.true_eq_false, if_false]
    refine ⟨?_, hl, h1⟩
    unfold bitsBy
    rw [hbb]
    simp only [Bool.true_eq_false, if_false]
    rw [if_pos (by omega)]
    have : (bytesBits xs).length / 8 = xs.length := by omega
    rw [this, bytesTo_bits h2]
end Go.Proofs.Ytmmgpgmjphjgnaa
