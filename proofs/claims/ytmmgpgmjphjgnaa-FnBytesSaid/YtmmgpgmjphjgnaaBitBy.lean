/- Contracts: l01Bytes, BitsToBytes (program and reference). -/
import Derived.Test.YtmmgpgmjphjgnaaToB
namespace Go.Proofs.Ytmmgpgmjphjgnaa
open Go.RowKit
set_option linter.unusedVariables false
set_option linter.unusedSimpArgs false

/-- BitsToBytes' answer. -/
def bitsBy (xs : List Int) : List Int × Int := if isBitsB xs = false then ([], 1) else if xs.length % 8 = 0 then (bytesTo xs (xs.length / 8), 0) else ([], 5)
theorem bitsBy_len (xs : List Int) : (bitsBy xs).1.length ≤ 16384 := by
  unfold bitsBy
  split
  · simp
  · rename_i h
    have h1 : isBitsB xs = true := by cases h2 : isBitsB xs; exact absurd h2 h; rfl
    have := (isBitsB_yes h1).1
    split
    · simp only [length_bytesTo]; omega
    · simp
set_option maxHeartbeats 1000000 in
theorem l01Bytes_any (v : Value) (xs : List Int) (m : Nat) (w : World) (hr : Rd .i64 w v xs) (hl : xs.length = 8 * m) (hm : m ≤ 2048) (hb : allIn xs 0 1 = true) :
    Calls Try.prog 55 #[v] w (OwnRes 2 w (bytesTo xs m)) := by
  obtain ⟨i0, hi, hz0, hz1, hz2⟩ := info_parts infoT8
  obtain ⟨a, cap, rfl⟩ : ∃ a cap, v = .slice a xs.length cap := by obtain ⟨a, cap, h, _⟩ := hr; exact ⟨a, cap, h⟩
  have HR := Lib.hid hr
  have HBT := Lib.hid hb
  have HL := Lib.hid hl
  have HM := Lib.hid (Own.made 2 w w.heap.size (Nat.le_refl _))
  have HB0 := Lib.hid ((Below.refl w.heap.size w).alloc (Nat.le_refl _) (.cells #[] 2))
  have hln : xs.length ≤ 16384 := by omega
  clear hr hb hl
  go_enter Try.func55, Try.ntmps55
  go_wp2
  go_loopw [3, 4] (fun u i wr => ∃ (k I : Nat) (v0 : Value), k ≤ m ∧ I = 8 * k ∧ v0 = u ∧ i = .int .i64 (I : Int) ∧ Own 2 wr w.heap.size v0 (bytesTo xs k) ∧ Below w.heap.size w wr) (fun _ i _ => xs.length - (intOf i).toNat)
  case atStart => exact ⟨0, 0, _, Nat.zero_le _, rfl, rfl, rfl, HM.out, HB0.out⟩
  case round =>
    obtain ⟨k, I, v0, hk, hI, rfl, rfl, hO, hbw⟩ := hrel
    have HO := Lib.hid hO
    have HBW := Lib.hid hbw
    have HI := Lib.hid hI
    have hln2 := HL.out
    by_cases hlt : k < m
    · have hI8 : I + 8 ≤ xs.length := by omega
      have hIi : (I : Int) + 8 ≤ (xs.length : Int) := by omega
      have hs8 : IntKind.i64.wrap ((I : Int) + 8) = (I : Int) + 8 := IntWalk.i64_in _ (by omega)
      have hsz := hbw.size
      have HC := Lib.hid (l01Number_any _ xs I 8 _ (HR.out.below hbw) HBT.out (by decide) hI8)
      have hs := bytesTo_succ xs k
      have hlen := length_bytesTo xs k
      obtain ⟨y, hy⟩ : ∃ y, y = byteAt xs k := ⟨_, rfl⟩
      have hyn : numOf ((xs.drop I).take 8) = y := by rw [hy, hI]; rfl
      rw [hyn] at HC
      rw [← hy] at hs
      have HS := Lib.hid hs
      have HLN := Lib.hid hlen
      clear hO hbw hI hy hyn hs hlen hln2
      go_wp2_with fail
      refine HC.out.mono ?_
      rintro e w' ⟨rfl, rfl⟩
      go_wp2_with (at_builtin; refine wpList_app1 Try.underlying24 hi hz0 hz1 hz2 rfl _ _ rfl wr y w.heap.size v0 (bytesTo xs k) rfl rfl HO.out (by have := HLN.out; omega) hsz ?_)
      intro v3 w3 hO3 hb3 _
      rw [← HS.out] at hO3
      have HO3 := Lib.hid hO3
      have HB3 := Lib.hid (HBW.out.trans hb3)
      clear hO3 hb3
      go_wp2
      go_roundw
      case rel => exact ⟨k + 1, I + 8, v3, by omega, by have := HI.out; omega, rfl, by go_num, HO3.out, HB3.out⟩
      case measure => simp [intOf]; omega
    · have hkm : k = m := by omega
      subst hkm
      have hIi : ¬ ((I : Int) + 8 ≤ (xs.length : Int)) := by omega
      have hIb : decide ((I : Int) + 8 ≤ (xs.length : Int)) = false := decide_eq_false hIi
      have hs8 : IntKind.i64.wrap ((I : Int) + 8) = (I : Int) + 8 := IntWalk.i64_in _ (by omega)
      clear hO hbw hI hln2
      go_wp2
      go_ret
      exact ⟨v0, rfl, HO.out, HBW.out⟩
set_option maxHeartbeats 1000000 in
theorem bitsToBytes_any (v : Value) (xs : List Int) (w : World) (hr : Rd .i64 w v xs) : Calls Try.prog 28 #[v] w (OwnRes2 2 w (bitsBy xs).1 (bitsBy xs).2) := by
  have HR := Lib.hid hr
  obtain ⟨a, cap, rfl⟩ : ∃ a cap, v = .slice a xs.length cap := by obtain ⟨a, cap, h, _⟩ := hr; exact ⟨a, cap, h⟩
  clear hr
  cases h1 : isBitsB xs
  · have hf : bitsBy xs = ([], 1) := by simp [bitsBy, h1]
    rw [hf]; clear hf
    go_enter Try.func28, Try.ntmps28
    go_wp2_with (go_at_call 17; refine (isBits_any _ xs _ HR.out).mono ?_; rintro e w' ⟨rfl, rfl⟩)
    go_ret2
    exact ⟨_, rfl, Own.nil _ _ _, Below.refl _ _⟩
  obtain ⟨hln, hall⟩ := isBitsB_yes h1
  have HALL := Lib.hid hall
  clear hall
  by_cases h8 : xs.length % 8 = 0
  rotate_left
  · have hf : bitsBy xs = ([], 5) := by simp [bitsBy, h1, h8]
    rw [hf]; clear hf
    have h9 : (((xs.length : Int) % 8) == 0) = false := by simp; omega
    have h10 : (((xs.length : Int) % 8) != 0) = true := by simp; omega
    clear h8
    go_enter Try.func28, Try.ntmps28
    go_wp2_with (go_at_call 17; refine (isBits_any _ xs _ HR.out).mono ?_; rintro e w' ⟨rfl, rfl⟩)
    go_ret2
    exact ⟨_, rfl, Own.nil _ _ _, Below.refl _ _⟩
  have hf : bitsBy xs = (bytesTo xs (xs.length / 8), 0) := by simp [bitsBy, h1, h8]
  rw [hf]; clear hf
  have h9 : (((xs.length : Int) % 8) != 0) = false := by simp; omega
  have hl8 : xs.length = 8 * (xs.length / 8) := by omega
  have HL8 := Lib.hid hl8
  clear h8 hl8
  go_enter Try.func28, Try.ntmps28
  go_wp2_with (go_at_call 17; refine (isBits_any _ xs _ HR.out).mono ?_; rintro e w' ⟨rfl, rfl⟩)
  refine (toBytes_any _ xs (xs.length / 8) _ HR.out HL8.out (by omega) HALL.out).mono ?_
  rintro e w1 ⟨v1, rfl, hO1, hbl1⟩
  have HO1 := Lib.hid hO1
  have HB1 := Lib.hid hbl1
  clear hO1 hbl1
  go_wp2_with fail
  go_ret2
  exact ⟨_, rfl, HO1.out, HB1.out⟩
set_option maxHeartbeats 1000000 in
theorem sBitsToBytes_any (v : Value) (xs : List Int) (w : World) (hr : Rd .i64 w v xs) : Calls Try.prog 29 #[v] w (OwnRes2 2 w (bitsBy xs).1 (bitsBy xs).2) := by
  have HR := Lib.hid hr
  obtain ⟨a, cap, rfl⟩ : ∃ a cap, v = .slice a xs.length cap := by obtain ⟨a, cap, h, _⟩ := hr; exact ⟨a, cap, h⟩
  clear hr
  cases h1 : isBitsB xs
  · have hf : bitsBy xs = ([], 1) := by simp [bitsBy, h1]
    rw [hf]; clear hf
    go_enter Try.func29, Try.ntmps29
    go_wp2_with (go_at_call 15; refine (sIsBits_any _ xs _ HR.out).mono ?_; rintro e w' ⟨rfl, rfl⟩)
    go_ret2
    exact ⟨_, rfl, Own.nil _ _ _, Below.refl _ _⟩
  obtain ⟨hln, hall⟩ := isBitsB_yes h1
  have HALL := Lib.hid hall
  clear hall
  by_cases h8 : xs.length % 8 = 0
  rotate_left
  · have hf : bitsBy xs = ([], 5) := by simp [bitsBy, h1, h8]
    rw [hf]; clear hf
    have h9 : (((xs.length : Int) % 8) == 0) = false := by simp; omega
    have h10 : (((xs.length : Int) % 8) != 0) = true := by simp; omega
    clear h8
    go_enter Try.func29, Try.ntmps29
    go_wp2_with (go_at_call 15; refine (sIsBits_any _ xs _ HR.out).mono ?_; rintro e w' ⟨rfl, rfl⟩)
    go_ret2
    exact ⟨_, rfl, Own.nil _ _ _, Below.refl _ _⟩
  have hf : bitsBy xs = (bytesTo xs (xs.length / 8), 0) := by simp [bitsBy, h1, h8]
  rw [hf]; clear hf
  have h9 : (((xs.length : Int) % 8) != 0) = false := by simp; omega
  have hl8 : xs.length = 8 * (xs.length / 8) := by omega
  have HL8 := Lib.hid hl8
  clear h8 hl8
  go_enter Try.func29, Try.ntmps29
  go_wp2_with (go_at_call 15; refine (sIsBits_any _ xs _ HR.out).mono ?_; rintro e w' ⟨rfl, rfl⟩)
  refine (l01Bytes_any _ xs (xs.length / 8) _ HR.out HL8.out (by omega) HALL.out).mono ?_
  rintro e w1 ⟨v1, rfl, hO1, hbl1⟩
  have HO1 := Lib.hid hO1
  have HB1 := Lib.hid hbl1
  clear hO1 hbl1
  go_wp2_with fail
  go_ret2
  exact ⟨_, rfl, HO1.out, HB1.out⟩
end Go.Proofs.Ytmmgpgmjphjgnaa
