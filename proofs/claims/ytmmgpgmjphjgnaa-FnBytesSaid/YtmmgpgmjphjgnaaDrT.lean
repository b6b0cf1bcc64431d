/- Contracts: DrawBitsText, DrawReadBits; a text of bits is read as the bits. -/
import Derived.Test.YtmmgpgmjphjgnaaDam
import Derived.Test.YtmmgpgmjphjgnaaTxt
import Derived.Test.YtmmgpgmjphjgnaaReadB
namespace Go.Proofs.Ytmmgpgmjphjgnaa
open Go.RowKit
set_option linter.unusedVariables false
set_option linter.unusedSimpArgs false

/-- What a draw of a list alone hands back. -/
def DrawnL1 (m : Nat) (w : World) (e : Ending) (w' : World) : Prop := ∃ v xs, e = .returned v ∧ Own 2 w' w.heap.size v xs ∧ Short xs m ∧ Below w.heap.size w w'
/-- What a draw of a text hands back. -/
def DrawnT (m : Nat) (w : World) (e : Ending) (w' : World) : Prop := ∃ u : ByteArray, e = .returned (.string u) ∧ u.size ≤ m ∧ Below w.heap.size w w'
theorem txtB_size (xs : List Int) : (txtB xs).size ≤ 8192 := by
  unfold txtB
  split
  · rename_i h
    have := (isBitsB_yes h).1
    have e : (strOfNums (txtL xs)).size = (txtL xs).length := by simp [strOfNums, ByteArray.size]
    rw [e, length_txtL]; exact this
  · decide
theorem strL_txt {xs : List Int} (h : allIn xs 0 1 = true) : strL (strOfNums (txtL xs)).data.toList = xs := by
  have hm := allIn_mem h
  simp only [strOfNums, txtL, strL]
  apply List.ext_getElem
  · simp
  · intro j h1 h2
    have hx := hm _ (List.getElem_mem h2)
    simp only [List.getElem_map, List.map_map]
    have : xs[j] = 0 ∨ xs[j] = 1 := by omega
    rcases this with e | e <;> simp [e]
theorem readB_txt (xs : List Int) : readB (txtB xs) = (if isBitsB xs = true then xs else [], true) := by
  unfold readB txtB
  cases h : isBitsB xs
  · simp only [Bool.false_eq_true, if_false]
    have e : strL (⟨#[]⟩ : ByteArray).data.toList = [] := rfl
    rw [e]
    rfl
  · simp only [if_true]
    rw [strL_txt (isBitsB_yes h).2]
    simp [readC, h]
set_option maxHeartbeats 1000000 in
theorem drawBitsText_any (v : Value) (cs : List Int) (w : World) (hr : Rd .u8 w v cs) (hl : cs.length ≤ 4096) (ho : ∀ x ∈ cs, 0 ≤ x ∧ x ≤ 255) : Calls Try.prog 9 #[v] w (DrawnL1 20 w) := by
  have HR := Lib.hid hr
  have HO8 := Lib.hid ho
  clear hr ho
  go_enter Try.func9, Try.ntmps9
  go_wp2_with fail
  refine (from_any _ cs _ HR.out hl HO8.out).mono ?_
  rintro e w1 ⟨rfl, hS, hb⟩
  have HS := Lib.hid hS
  have HB := Lib.hid hb
  clear hS hb
  go_wp2_with fail
  refine (drawBits_any w.heap.size 20 _ HS.out (by decide)).mono ?_
  rintro e w2 ⟨v2, xs, rfl, hO, hsh, hS, hg⟩
  have HO := Lib.hid (hO.mono HB.out.size)
  have HSH := Lib.hid hsh
  replace HB := Lib.hid (HB.out.trans (grown_below hg (Nat.le_refl _) HB.out.size))
  clear hO hsh hS hg
  go_wp2_with fail
  go_ret
  exact ⟨v2, xs, rfl, HO.out, HSH.out, HB.out⟩
set_option maxHeartbeats 1000000 in
theorem drawReadBits_any (v : Value) (cs : List Int) (w : World) (hr : Rd .u8 w v cs) (hl : cs.length ≤ 4096) (ho : ∀ x ∈ cs, 0 ≤ x ∧ x ≤ 255) : Calls Try.prog 12 #[v] w (DrawnT 9000 w) := by
  have HR := Lib.hid hr
  have HO8 := Lib.hid ho
  clear hr ho
  go_enter Try.func12, Try.ntmps12
  go_wp2_with fail
  refine (from_any _ cs _ HR.out hl HO8.out).mono ?_
  rintro e w1 ⟨rfl, hS, hb⟩
  have HS := Lib.hid hS
  have HB := Lib.hid hb
  clear hS hb
  go_wp2_with fail
  refine (drawBits_any w.heap.size 20 _ HS.out (by decide)).mono ?_
  rintro e w2 ⟨v2, xs, rfl, hO, hsh, hS, hg⟩
  have HO := Lib.hid hO
  replace HB := Lib.hid (HB.out.trans (grown_below hg (Nat.le_refl _) HB.out.size))
  replace HS := Lib.hid hS
  clear hO hsh hS hg
  go_wp2_with fail
  refine (sBitsText_any _ xs _ HO.out.rd).mono ?_
  rintro e w3 ⟨rfl, hb⟩
  replace HB := Lib.hid (bthen HB.out hb)
  replace HS := Lib.hid (HS.out.below hb HS.out.lt)
  have ht := txtB_size xs
  generalize txtB xs = t at ht ⊢
  clear hb HO
  go_wp2_with fail
  refine (next_any w.heap.size _ _ HS.out).mono ?_
  rintro e w4 ⟨z, rfl, hz0, hz1, hS, hg⟩
  replace HB := Lib.hid (HB.out.trans (grown_below hg (Nat.le_refl _) HB.out.size))
  replace HS := Lib.hid hS
  clear hS hg hz0 hz1
  by_cases hz : z = 0
  · subst hz
    go_wp2_with fail
    refine (damage_any w.heap.size t _ HS.out (by omega)).mono ?_
    rintro e w5 ⟨u, rfl, hu, hS, hg⟩
    replace HB := Lib.hid (HB.out.trans (grown_below hg (Nat.le_refl _) HB.out.size))
    have hu2 : u.size ≤ 9000 := by omega
    clear hS hg hu
    go_wp2_with fail
    go_ret
    exact ⟨u, rfl, hu2, HB.out⟩
  have hzb : (z == 0) = false := by simp [hz]
  clear hz
  have ht2 : t.size ≤ 9000 := by omega
  go_wp2_with fail
  go_ret
  exact ⟨t, rfl, ht2, HB.out⟩
end Go.Proofs.Ytmmgpgmjphjgnaa
