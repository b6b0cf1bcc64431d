/- Contracts: BitsText (program and reference). -/
import Derived.Test.YtmmgpgmjphjgnaaOwnB
import Derived.Test.YtmmgpgmjphjgnaaLists
namespace Go.Proofs.Ytmmgpgmjphjgnaa
open Go.RowKit
set_option linter.unusedVariables false
set_option linter.unusedSimpArgs false

theorem infoB : (Try.prog.info? 5).map (fun i => (i.zero, i.size, i.bytes)) = some (some (.int .u8 0), 1, 1) := by kernel_rfl
/-- The text of bits, as bytes. -/
def txtL (xs : List Int) : List Int := xs.map fun x => 48 + x
theorem txtL_snoc (xs : List Int) (x : Int) : txtL (xs ++ [x]) = txtL xs ++ [48 + x] := by simp [txtL]
theorem length_txtL (xs : List Int) : (txtL xs).length = xs.length := by simp [txtL]
/-- BitsText's answer. -/
def txtB (xs : List Int) : ByteArray := if isBitsB xs = true then strOfNums (txtL xs) else ⟨#[]⟩
set_option maxHeartbeats 1000000 in
theorem bitsText_any (v : Value) (xs : List Int) (w : World) (hr : Rd .i64 w v xs) : Calls Try.prog 10 #[v] w fun e w' => e = .returned (.string (txtB xs)) ∧ Below w.heap.size w w' := by
  obtain ⟨a, cap, rfl, hl, hm, hn, hc⟩ := id hr
  unfold maxLen at hm
  have HR := Lib.hid hr
  have HC := Lib.hid hc
  clear hr hc hn
  cases h1 : isBitsB xs
  · have hf : txtB xs = ⟨#[]⟩ := by simp [txtB, h1]
    rw [hf]; clear hf
    have H1 := Lib.hid h1
    clear h1
    go_enter Try.func10, Try.ntmps10
    go_wp2_with fail
    refine (isBits_any _ xs _ HR.out).mono ?_
    rw [H1.out]
    rintro e w' ⟨rfl, rfl⟩
    go_wp2_with fail
    go_ret
    exact ⟨rfl, Below.refl _ _⟩
  have hf : txtB xs = strOfNums (txtL xs) := by simp [txtB, h1]
  rw [hf]; clear hf
  obtain ⟨hlen, hbt⟩ := isBitsB_yes h1
  have H1 := Lib.hid h1
  have HBT := Lib.hid hbt
  obtain ⟨Z, hZ⟩ : ∃ Z, Z = strOfNums (txtL xs) := ⟨_, rfl⟩
  rw [← hZ]
  have HZ := Lib.hid hZ
  obtain ⟨i0, hi, hz0, hz1, hz2⟩ := info_parts infoB
  have HM := Lib.hid (OwnB.made 5 w w.heap.size (Nat.le_refl _))
  have HBM := Lib.hid ((Below.refl w.heap.size w).alloc (Nat.le_refl _) (.cells #[] 5))
  clear h1 hbt hZ
  go_enter Try.func10, Try.ntmps10
  go_wp2_with fail
  refine (isBits_any _ xs _ HR.out).mono ?_
  rw [H1.out]
  rintro e w' ⟨rfl, rfl⟩
  go_wp2
  go_loopw [3, 12] (fun u i wr => ∃ (k : Nat) (v0 : Value), k ≤ xs.length ∧ v0 = u ∧ i = .int .i64 k ∧ OwnB 5 wr w.heap.size v0 (txtL (xs.take k)) ∧ Below w.heap.size w wr) (fun _ i _ => xs.length - (intOf i).toNat)
  case atStart => exact ⟨0, _, Nat.zero_le _, rfl, rfl, HM.out, HBM.out⟩
  case round =>
    obtain ⟨k, v0, hk, rfl, rfl, hO, hb⟩ := hrel
    have hsz := hb.size
    have HO := Lib.hid hO
    have HB := Lib.hid hb
    by_cases hlt : k < xs.length
    · obtain ⟨b, off, rfl, hcell⟩ := HC.out k hlt
      have hbl : b < w.heap.size := World.block_lt_of_cell? w _ hcell
      have hcell2 := (hb.cell (p := ⟨b, off + k, none⟩) hbl).trans hcell
      have hx := allIn_at HBT.out k hlt
      have HS := Lib.hid (show txtL (xs.take (k + 1)) = txtL (xs.take k) ++ [48 + xs.getD k 0] by rw [take_succ_getD xs k hlt, txtL_snoc])
      have HLN := Lib.hid (show (txtL (xs.take k)).length ≤ 1099511627776 by rw [length_txtL, List.length_take]; omega)
      obtain ⟨x, hx0⟩ : ∃ x, x = xs.getD k 0 := ⟨_, rfl⟩
      rw [← hx0] at hcell2 hx HS
      obtain ⟨hx1, hx2⟩ := hx
      have hu1 : IntKind.u8.wrap x = x := IntWalk.u8_in _ (by omega)
      have hu2 : IntKind.u8.wrap (48 + x) = 48 + x := IntWalk.u8_in _ (by omega)
      clear hcell hO hb hx0
      go_wp2_with (at_builtin; refine wpList_app1B Try.underlying22 hi hz0 hz1 hz2 rfl _ _ rfl wr (48 + x) w.heap.size v0 (txtL (xs.take k)) rfl rfl HO.out HLN.out (by omega) ?_)
      intro v' w1 hO' hb' _
      rw [← HS.out] at hO'
      have HO3 := Lib.hid hO'
      have HB3 := Lib.hid (HB.out.trans hb')
      clear hO' hb'
      go_wp2
      go_roundw
      case rel => exact ⟨k + 1, v', by omega, rfl, by go_num, HO3.out, HB3.out⟩
      case measure => simp [intOf]; omega
    · have : k = xs.length := by omega
      subst this
      rw [List.take_length] at hO
      have hcv := hO.text Try.underlying22 Try.underlying5 9 Try.underlying9
      rw [← HZ.out] at hcv
      clear hO hb
      go_wp2
      go_ret
      exact ⟨rfl, HB.out⟩
set_option maxHeartbeats 1000000 in
theorem sBitsText_any (v : Value) (xs : List Int) (w : World) (hr : Rd .i64 w v xs) : Calls Try.prog 14 #[v] w fun e w' => e = .returned (.string (txtB xs)) ∧ Below w.heap.size w w' := by
  obtain ⟨a, cap, rfl, hl, hm, hn, hc⟩ := id hr
  unfold maxLen at hm
  have HR := Lib.hid hr
  have HC := Lib.hid hc
  clear hr hc hn
  cases h1 : isBitsB xs
  · have hf : txtB xs = ⟨#[]⟩ := by simp [txtB, h1]
    rw [hf]; clear hf
    have H1 := Lib.hid h1
    have HR1 := Lib.hid (HR.out.below ((Below.refl w.heap.size w).alloc (Nat.le_refl _) (.cells #[] 5)))
    clear h1
    go_enter Try.func14, Try.ntmps14
    go_wp2_with fail
    refine (sIsBits_any _ xs _ HR1.out).mono ?_
    rw [H1.out]
    rintro e w' ⟨rfl, rfl⟩
    go_wp2_with fail
    go_ret
    exact ⟨rfl, by go_grown⟩
  have hf : txtB xs = strOfNums (txtL xs) := by simp [txtB, h1]
  rw [hf]; clear hf
  obtain ⟨hlen, hbt⟩ := isBitsB_yes h1
  have H1 := Lib.hid h1
  have HBT := Lib.hid hbt
  obtain ⟨Z, hZ⟩ : ∃ Z, Z = strOfNums (txtL xs) := ⟨_, rfl⟩
  rw [← hZ]
  have HZ := Lib.hid hZ
  obtain ⟨i0, hi, hz0, hz1, hz2⟩ := info_parts infoB
  have HM := Lib.hid (OwnB.made 5 w w.heap.size (Nat.le_refl _))
  have HBM := Lib.hid ((Below.refl w.heap.size w).alloc (Nat.le_refl _) (.cells #[] 5))
  have HR1 := Lib.hid (HR.out.below ((Below.refl w.heap.size w).alloc (Nat.le_refl _) (.cells #[] 5)))
  clear h1 hbt hZ
  go_enter Try.func14, Try.ntmps14
  go_wp2_with fail
  refine (sIsBits_any _ xs _ HR1.out).mono ?_
  rw [H1.out]
  rintro e w' ⟨rfl, rfl⟩
  go_wp2
  go_loopw [3, 4] (fun u i wr => ∃ (k : Nat) (v0 : Value), k ≤ xs.length ∧ v0 = u ∧ i = .int .i64 k ∧ OwnB 5 wr w.heap.size v0 (txtL (xs.take k)) ∧ Below w.heap.size w wr) (fun _ i _ => xs.length - (intOf i).toNat)
  case atStart => exact ⟨0, _, Nat.zero_le _, rfl, rfl, HM.out, HBM.out⟩
  case round =>
    obtain ⟨k, v0, hk, rfl, rfl, hO, hb⟩ := hrel
    have hsz := hb.size
    have HO := Lib.hid hO
    have HB := Lib.hid hb
    by_cases hlt : k < xs.length
    · obtain ⟨b, off, rfl, hcell⟩ := HC.out k hlt
      have hbl : b < w.heap.size := World.block_lt_of_cell? w _ hcell
      have hcell2 := (hb.cell (p := ⟨b, off + k, none⟩) hbl).trans hcell
      have hx := allIn_at HBT.out k hlt
      have HS := Lib.hid (show txtL (xs.take (k + 1)) = txtL (xs.take k) ++ [48 + xs.getD k 0] by rw [take_succ_getD xs k hlt, txtL_snoc])
      have HLN := Lib.hid (show (txtL (xs.take k)).length ≤ 1099511627776 by rw [length_txtL, List.length_take]; omega)
      obtain ⟨x, hx0⟩ : ∃ x, x = xs.getD k 0 := ⟨_, rfl⟩
      rw [← hx0] at hcell2 hx HS
      obtain ⟨hx1, hx2⟩ := hx
      have hu1 : IntKind.u8.wrap x = x := IntWalk.u8_in _ (by omega)
      have hu2 : IntKind.u8.wrap (48 + x) = 48 + x := IntWalk.u8_in _ (by omega)
      clear hcell hO hb hx0
      go_wp2_with (at_builtin; refine wpList_app1B Try.underlying22 hi hz0 hz1 hz2 rfl _ _ rfl wr (48 + x) w.heap.size v0 (txtL (xs.take k)) rfl rfl HO.out HLN.out (by omega) ?_)
      intro v' w1 hO' hb' _
      rw [← HS.out] at hO'
      have HO3 := Lib.hid hO'
      have HB3 := Lib.hid (HB.out.trans hb')
      clear hO' hb'
      go_wp2
      go_roundw
      case rel => exact ⟨k + 1, v', by omega, rfl, by go_num, HO3.out, HB3.out⟩
      case measure => simp [intOf]; omega
    · have : k = xs.length := by omega
      subst this
      rw [List.take_length] at hO
      have hcv := hO.text Try.underlying22 Try.underlying5 9 Try.underlying9
      rw [← HZ.out] at hcv
      clear hO hb
      go_wp2
      go_ret
      exact ⟨rfl, HB.out⟩
end Go.Proofs.Ytmmgpgmjphjgnaa
