/- Contracts: the bits of bytes: toBits, l01Bits, BytesToBits (program and reference). -/
import Derived.Test.YtmmgpgmjphjgnaaNumber
namespace Go.Proofs.Ytmmgpgmjphjgnaa
open Go.RowKit
set_option linter.unusedVariables false

/-- The bits of bytes. -/
def bytesBits (xs : List Int) : List Int := xs.flatMap fun x => bitsOf x 8
theorem bytesBits_snoc (xs : List Int) (x : Int) : bytesBits (xs ++ [x]) = bytesBits xs ++ bitsOf x 8 := by simp [bytesBits]
theorem length_bytesBits (xs : List Int) : (bytesBits xs).length = 8 * xs.length := by
  induction xs using snoc_ind with
  | h0 => rfl
  | hs xs x ih => rw [bytesBits_snoc, List.length_append, ih, length_bitsOf, List.length_append]; simp; omega
theorem allIn_bytesBits (xs : List Int) : allIn (bytesBits xs) 0 1 = true := by
  induction xs using snoc_ind with
  | h0 => rfl
  | hs xs x ih => rw [bytesBits_snoc, allIn_append, ih, allIn_bitsOf]; rfl
/-- BytesToBits' answer. -/
def byBits (xs : List Int) : List Int × Int := if isBytesB xs = false then ([], 1) else (bytesBits xs, 0)

theorem byBits_len (xs : List Int) : (byBits xs).1.length ≤ 16384 := by
  unfold byBits
  split
  · simp
  · rename_i h
    have h3 := (isBytesB_yes (by simpa using h : isBytesB xs = true)).1
    simp only [length_bytesBits]
    omega

set_option maxHeartbeats 400000 in
theorem toBits_any (v : Value) (xs : List Int) (w : World) (hr : Rd .i64 w v xs) (hb : allIn xs 0 255 = true) (hl : xs.length ≤ 16777216) :
    Calls Try.prog 52 #[v] w (OwnRes 2 w (bytesBits xs)) := by
  obtain ⟨a, cap, rfl, hl2, hm, hn, hc⟩ := hr
  have HC := Lib.hid hc
  have HBT := Lib.hid hb
  have HM := Lib.hid (Own.made 2 w w.heap.size (Nat.le_refl _))
  have HB0 := Lib.hid ((Below.refl w.heap.size w).alloc (Nat.le_refl _) (.cells #[] 2))
  unfold maxLen at hm
  clear hc hn hb
  go_enter Try.func52, Try.ntmps52
  go_wp2
  go_loopw [3, 9] (fun u i wr => ∃ (k : Nat) (v0 : Value), k ≤ xs.length ∧ v0 = u ∧ i = .int .i64 k ∧ Own 2 wr w.heap.size v0 (bytesBits (xs.take k)) ∧ Below w.heap.size w wr) (fun _ i _ => xs.length - (intOf i).toNat)
  case atStart => exact ⟨0, _, Nat.zero_le _, rfl, rfl, HM.out, HB0.out⟩
  case round =>
    obtain ⟨k, v0, hk, rfl, rfl, hO, hbw⟩ := hrel
    have hsz := hbw.size
    by_cases hlt : k < xs.length
    · obtain ⟨b, off, rfl, hcell⟩ := HC.out k hlt
      have hcell2 : wr.cell? ⟨b, off + k, none⟩ = some (.int .i64 (xs.getD k 0)) := (hbw.cell (p := ⟨b, off + k, none⟩) (World.block_lt_of_cell? w _ hcell)).trans hcell
      have hx := allIn_at HBT.out k hlt
      have hs : bytesBits (xs.take (k + 1)) = bytesBits (xs.take k) ++ bitsOf (xs.getD k 0) 8 := by rw [take_succ_getD xs k hlt, bytesBits_snoc]
      have hlen : (bytesBits (xs.take k)).length ≤ 4294967296 := by rw [length_bytesBits, List.length_take]; omega
      have HO := Lib.hid hO
      have HBW := Lib.hid hbw
      have HL := Lib.hid hlen
      obtain ⟨x, hx0⟩ : ∃ x, x = xs.getD k 0 := ⟨_, rfl⟩
      rw [← hx0] at hcell2 hx hs
      obtain ⟨hx1, hx2⟩ := hx
      have HS := Lib.hid hs
      clear hO hbw hlen hcell hx0 hs
      go_wp2_with fail
      refine (appendNumber_any _ _ w.heap.size x 8 _ HO.out HL.out hsz hx1 (by omega) (by omega) (by omega)).mono ?_
      rintro e w1 ⟨v1, rfl, hO1, hb1⟩
      have HO1 := Lib.hid hO1
      have HB1 := Lib.hid (HBW.out.trans hb1)
      clear hO1 hb1
      go_wp2
      go_roundw
      case rel => exact ⟨k + 1, v1, by omega, rfl, by go_num, by rw [HS.out]; exact HO1.out, HB1.out⟩
      case measure => simp [intOf]; omega
    · have : k = xs.length := by omega
      subst this
      have HO := Lib.hid hO
      have HBW := Lib.hid hbw
      clear hO hbw
      go_wp2
      go_ret
      exact ⟨_, rfl, by have := HO.out; rwa [List.take_length] at this, HBW.out⟩
theorem bitsUpto_down8 (x : Int) (c : Nat) (h : c + 1 ≤ 8) : bitsUpto x 8 (7 - c) ++ [bitB x c] = bitsUpto x 8 (8 - c) := by
  have e : 7 - c = 8 - (c + 1) := by omega
  rw [e]; exact bitsUpto_down x 8 c h
set_option maxHeartbeats 1000000 in
theorem l01Bits_any (v : Value) (xs : List Int) (w : World) (hr : Rd .i64 w v xs) (hb : allIn xs 0 255 = true) (hl : xs.length ≤ 16777216) :
    Calls Try.prog 53 #[v] w (OwnRes 2 w (bytesBits xs)) := by
  obtain ⟨a, cap, rfl, hl2, hm, hn, hc⟩ := hr
  obtain ⟨i0, hi, hz0, hz1, hz2⟩ := info_parts infoE
  have HC := Lib.hid hc
  have HBT := Lib.hid hb
  have HM := Lib.hid (Own.made 2 w w.heap.size (Nat.le_refl _))
  have HB0 := Lib.hid ((Below.refl w.heap.size w).alloc (Nat.le_refl _) (.cells #[] 2))
  unfold maxLen at hm
  clear hc hn hb
  go_enter Try.func53, Try.ntmps53
  go_wp2
  go_loopw [3, 4, 5] (fun u i j wr => ∃ (k : Nat) (v0 j0 : Value), k ≤ xs.length ∧ v0 = u ∧ j0 = j ∧ i = .int .i64 k ∧ Own 2 wr w.heap.size v0 (bytesBits (xs.take k)) ∧ Below w.heap.size w wr) (fun _ i _ _ => xs.length - (intOf i).toNat)
  case atStart => exact ⟨0, _, _, Nat.zero_le _, rfl, rfl, rfl, HM.out, HB0.out⟩
  case round =>
    obtain ⟨k, v0, j0, hk, rfl, rfl, rfl, hO, hbw⟩ := hrel
    have hsz := hbw.size
    by_cases hlt : k < xs.length
    · obtain ⟨b, off, rfl, hcell⟩ := HC.out k hlt
      have hblk : b < w.heap.size := World.block_lt_of_cell? w _ hcell
      have hx := allIn_at HBT.out k hlt
      have hs : bytesBits (xs.take (k + 1)) = bytesBits (xs.take k) ++ bitsOf (xs.getD k 0) 8 := by rw [take_succ_getD xs k hlt, bytesBits_snoc]
      have hlen : (bytesBits (xs.take k)).length ≤ 4294967296 := by rw [length_bytesBits, List.length_take]; omega
      obtain ⟨ys, hys⟩ : ∃ ys, ys = bytesBits (xs.take k) := ⟨_, rfl⟩
      obtain ⟨x, hx0⟩ : ∃ x, x = xs.getD k 0 := ⟨_, rfl⟩
      rw [← hx0] at hcell hx hs
      rw [← hys] at hs hlen hO
      obtain ⟨hx1, hx2⟩ := hx
      have HO := Lib.hid hO
      have HBW := Lib.hid hbw
      have HL := Lib.hid hlen
      have HS := Lib.hid hs
      have HCL := Lib.hid hcell
      clear hO hbw hlen hcell hx0 hs hys
      obtain ⟨wo, rfl⟩ : ∃ wo : World, wo = wr := ⟨_, rfl⟩
      go_wp2
      go_loopw [3, 5] (fun u j wr => ∃ (c : Nat) (v1 : Value), c ≤ 8 ∧ v1 = u ∧ j = .int .i64 ((c : Int) - 1) ∧ Own 2 wr w.heap.size v1 (ys ++ bitsUpto x 8 (8 - c)) ∧ Below w.heap.size w wr) (fun _ j _ => (intOf j + 1).toNat)
      case atStart => exact ⟨8, v0, Nat.le_refl _, rfl, rfl, by simpa [bitsUpto] using HO.out, HBW.out⟩
      case round =>
        obtain ⟨c, v1, hc8, rfl, rfl, hO1, hb1⟩ := hrel
        have hsz1 := hb1.size
        cases c with
        | zero =>
          have e0 : ((0 : Nat) : Int) - 1 = -1 := by decide
          rw [e0]
          have HO1 := Lib.hid hO1
          have HB1 := Lib.hid hb1
          clear hO1 hb1 e0
          go_wp2
          go_roundw
          case rel => exact ⟨k + 1, v1, _, by omega, rfl, rfl, by go_num, by rw [HS.out]; exact HO1.out, HB1.out⟩
          case measure => simp [intOf]; omega
        | succ c =>
          have e0 : ((c + 1 : Nat) : Int) - 1 = (c : Int) := by omega
          have hbit := bit_and_nat x c hx1 (by omega)
          have hlen1 : (ys ++ bitsUpto x 8 (8 - (c + 1))).length ≤ 1099511627776 := by have := HL.out; rw [List.length_append, length_bitsUpto]; omega
          have hcell2 : wr.cell? ⟨b, off + k, none⟩ = some (.int .i64 x) := (hb1.cell (p := ⟨b, off + k, none⟩) hblk).trans HCL.out
          rw [e0]
          have HO1 := Lib.hid hO1
          have HB1 := Lib.hid hb1
          have HL1 := Lib.hid hlen1
          clear hO1 hb1 hlen1 e0
          go_wp2_with (at_builtin; refine wpList_app1 Try.underlying24 hi hz0 hz1 hz2 rfl _ _ rfl wr (bitB x c) w.heap.size v1 (ys ++ bitsUpto x 8 (8 - (c + 1))) rfl rfl HO1.out HL1.out (by omega) ?_)
          intro v2 w2 hO2 hb2 _
          rw [bitsUpto_down8 x c (by omega)] at hO2
          have HO2 := Lib.hid hO2
          have HB2 := Lib.hid (HB1.out.trans hb2)
          clear hO2 hb2 hbit hcell2
          go_wp2
          go_roundw
          case rel => exact ⟨c, v2, by omega, rfl, rfl, HO2.out, HB2.out⟩
          case measure => simp [intOf]
    · have : k = xs.length := by omega
      subst this
      have HO := Lib.hid hO
      have HBW := Lib.hid hbw
      clear hO hbw
      go_wp2
      go_ret
      exact ⟨_, rfl, by have := HO.out; rwa [List.take_length] at this, HBW.out⟩
theorem bytesToBits_any (v : Value) (xs : List Int) (w : World) (hr : Rd .i64 w v xs) : Calls Try.prog 25 #[v] w (OwnRes2 2 w (byBits xs).1 (byBits xs).2) := by
  have HR := Lib.hid hr
  clear hr
  cases h1 : isBytesB xs
  · have hf : byBits xs = ([], 1) := by simp [byBits, h1]
    rw [hf]; clear hf
    go_enter Try.func25, Try.ntmps25
    go_wp2_with (go_at_call 30; refine (isBytes_any _ xs _ HR.out).mono ?_; rintro e w' ⟨rfl, rfl⟩)
    go_ret2
    exact ⟨_, rfl, Own.nil _ _ _, Below.refl _ _⟩
  · have hf : byBits xs = (bytesBits xs, 0) := by simp [byBits, h1]
    obtain ⟨hb1, hb2⟩ := isBytesB_yes h1
    rw [hf]; clear hf
    have HB := Lib.hid hb2
    clear hb2
    go_enter Try.func25, Try.ntmps25
    go_wp2_with (go_at_call 30; refine (isBytes_any _ xs _ HR.out).mono ?_; rintro e w' ⟨rfl, rfl⟩)
    refine (toBits_any _ xs _ HR.out HB.out (by omega)).mono ?_
    rintro e w1 ⟨v1, rfl, hO1, hbl1⟩
    have HO1 := Lib.hid hO1
    have HB1 := Lib.hid hbl1
    clear hO1 hbl1
    go_wp2_with fail
    go_ret2
    exact ⟨_, rfl, HO1.out, HB1.out⟩
theorem sBytesToBits_any (v : Value) (xs : List Int) (w : World) (hr : Rd .i64 w v xs) : Calls Try.prog 26 #[v] w (OwnRes2 2 w (byBits xs).1 (byBits xs).2) := by
  have HR := Lib.hid hr
  clear hr
  cases h1 : isBytesB xs
  · have hf : byBits xs = ([], 1) := by simp [byBits, h1]
    rw [hf]; clear hf
    go_enter Try.func26, Try.ntmps26
    go_wp2_with (go_at_call 31; refine (sIsBytes_any _ xs _ HR.out).mono ?_; rintro e w' ⟨rfl, rfl⟩)
    go_ret2
    exact ⟨_, rfl, Own.nil _ _ _, Below.refl _ _⟩
  · have hf : byBits xs = (bytesBits xs, 0) := by simp [byBits, h1]
    obtain ⟨hb1, hb2⟩ := isBytesB_yes h1
    rw [hf]; clear hf
    have HB := Lib.hid hb2
    clear hb2
    go_enter Try.func26, Try.ntmps26
    go_wp2_with (go_at_call 31; refine (sIsBytes_any _ xs _ HR.out).mono ?_; rintro e w' ⟨rfl, rfl⟩)
    refine (l01Bits_any _ xs _ HR.out HB.out (by omega)).mono ?_
    rintro e w1 ⟨v1, rfl, hO1, hbl1⟩
    have HO1 := Lib.hid hO1
    have HB1 := Lib.hid hbl1
    clear hO1 hbl1
    go_wp2_with fail
    go_ret2
    exact ⟨_, rfl, HO1.out, HB1.out⟩
end Go.Proofs.Ytmmgpgmjphjgnaa
