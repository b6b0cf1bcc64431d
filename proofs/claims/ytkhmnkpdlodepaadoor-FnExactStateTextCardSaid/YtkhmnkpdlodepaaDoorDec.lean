/- Contracts: text (strconv.FormatInt at base 10), l01Dec. -/
import Derived.Test.YtkhmnkpdlodepaaDoorShelfF
import Derived.Test.YtkhmnkpdlodepaaDoorLists
import Derived.Deep.RegionHeld3
import Derived.Lib.AppendIntMem
import Derived.Laws.IdiomStrings
import Derived.Lib.ItoaLen
import Derived.Deep.RegionWith
namespace Go.Proofs.YtkhmnkpdlodepaaDoor
open Go.RowKit
set_option linter.unusedVariables false
set_option linter.unusedSimpArgs false

/-- A number's text. -/
def decS (u : Nat) : ByteArray := ⟨(Lib.decDigits u).toArray⟩
/-- The table of the powers of ten lies as the program's text lays it. -/
def TabP (w : World) : Prop := Lib.TabIs Tryd.prog w "internal/strconv.uint64pow10" .u64 Lib.pow10Tab
theorem TabP.below {w w' : World} (h : TabP w) (hb : Below w.heap.size w w') : TabP w' := Lib.tabBelow_of_tabIs h w' hb
theorem keepD {w w4 : World} {b : Nat} {v : Value} (hb : Below w.heap.size w w4) (h : w.cell? ⟨b, 0, none⟩ = some v) : w4.cell? ⟨b, 0, none⟩ = some v :=
  (hb.cell (p := ⟨b, 0, none⟩) (World.block_lt_of_cell? w _ h)).trans h
set_option maxHeartbeats 400000 in
theorem text_any (u : Nat) (w : World) (h : u ≤ 4294967296) (ht : TabP w) : Calls Tryd.prog 36 #[.int .i64 (u : Int)] w fun e w' => e = .returned (.string (decS u)) ∧ Below w.heap.size w w' := by
  have HT := Lib.hid ht
  clear ht
  go_enter Tryd.func36, Tryd.ntmps36
  go_wp2_with fail
  refine (Tryd.strconv_FormatInt_10 (u : Int) (by omega) (by omega) w HT.out).mono ?_
  rintro e w' ⟨rfl, k, os, rfl⟩
  go_wp2_with fail
  go_ret
  refine ⟨?_, ?_⟩
  · rw [Lib.itoa_nonneg]; rfl
  · exact Lib.below_grow _ w (Nat.le_refl _) _ _
set_option maxRecDepth 100000 in
theorem conv1 (b : UInt8) (W : World) (g : Nat) (h : W.cell? ⟨g, 0, none⟩ = some (.int .u8 (b.toNat : Int))) : (Go.convert 28 9 (.slice (some ⟨g, 0, none⟩) 1 1)).run Tryd.prog W = .ok (.string ⟨#[b]⟩) W :=
  run_convert_bytes_back (P := Tryd.prog) W 28 9 5 ⟨g, 0, none⟩ 1 [b] Tryd.underlying28 Tryd.underlying5 Tryd.underlying9 (fun j hj => by
    have : j = 0 := by simpa using hj
    subst this
    simpa [Addr.add] using h)
theorem decS_size (u : Nat) (h : u ≤ 4294967296) : (decS u).size ≤ 21 := by
  have := Lib.itoa_length_le (u : Int) (by omega) (by omega)
  rw [Lib.itoa_nonneg] at this
  simpa [decS, ByteArray.size] using this
set_option maxRecDepth 100000 in
set_option maxHeartbeats 1000000 in
theorem l01Dec_any : ∀ (u : Nat) (w : World) (h : u ≤ 4294967296), Calls Tryd.prog 38 #[.int .i64 (u : Int)] w fun e w' => e = .returned (.string (decS u)) ∧ Below w.heap.size w w' := by
  intro u
  induction u using Nat.strongRecOn with
  | ind u ih =>
    intro w h
    obtain ⟨b, hb0⟩ : ∃ b : UInt8, b = UInt8.ofNat (48 + u % 10) := ⟨_, rfl⟩
    have hbn : b.toNat = 48 + u % 10 := by rw [hb0, UInt8.toNat_ofNat']; omega
    have hbw : IntKind.u8.wrap (48 + (u : Int) % 10) = (b.toNat : Int) := by rw [hbn]; simp [IntKind.wrap, IntKind.bits, IntKind.signed]; omega
    have hk : ∀ W : World, (W.alloc (.cells #[.int .u8 (b.toNat : Int)] 5)).cell? ⟨W.heap.size, 0, none⟩ = some (.int .u8 (b.toNat : Int)) := fun W => by simp
    obtain ⟨D, hD⟩ : ∃ D, D = decS u := ⟨_, rfl⟩
    rw [← hD]
    by_cases h10 : u < 10
    · have e : decS u = ⟨#[b]⟩ := by
        rw [hb0]; unfold decS; rw [Lib.decDigits, dif_pos h10, Nat.mod_eq_of_lt h10]
      have HD := Lib.hid (hD.trans e)
      have hu : (u : Int) % 10 = (u : Int) := by omega
      rw [hu] at hbw
      have hcv := conv1 b _ _ (hk w)
      clear ih e hD hu hb0 hbn
      go_enter Tryd.func38, Tryd.ntmps38
      go_wp2_with fail
      go_ret
      exact ⟨by rw [HD.out]; rfl, (Below.refl _ w).alloc (Nat.le_refl _) _⟩
    · have e : decS u = decS (u / 10) ++ ⟨#[b]⟩ := by
        rw [hb0]; unfold decS
        conv => lhs; rw [Lib.decDigits, dif_neg h10]
        apply ByteArray.ext
        simp
      have HD := Lib.hid (hD.trans e)
      have HI := Lib.hid (ih (u / 10) (by omega))
      obtain ⟨q, hq0⟩ : ∃ q, q = u / 10 := ⟨_, rfl⟩
      obtain ⟨d, hd0⟩ : ∃ d, d = u % 10 := ⟨_, rfl⟩
      rw [← hq0] at HD HI
      have hq : IntKind.i64.wrap ((u : Int) / 10) = (q : Int) := by rw [IntWalk.i64_in _ (by omega)]; omega
      have hr : (u : Int).tmod 10 = (d : Int) := by rw [Int.tmod_eq_emod_of_nonneg (by omega)]; omega
      have hs : IntKind.i64.wrap (48 + (d : Int)) = 48 + (d : Int) := IntWalk.i64_in _ (by omega)
      have hd1 : (u : Int) % 10 = (d : Int) := by omega
      rw [hd1] at hbw
      have hqb : q ≤ 4294967296 := by omega
      have hun : ¬ ((u : Int) < 10) := by omega
      obtain ⟨s0, hs0⟩ : ∃ x, x = decS q := ⟨_, rfl⟩
      obtain ⟨t0, ht0⟩ : ∃ x : ByteArray, x = ⟨#[b]⟩ := ⟨_, rfl⟩
      have hlt : ¬ (s0.size + t0.size > 9223372036854775807) := by
        have h1 : s0.size ≤ 21 := by rw [hs0]; exact decS_size q hqb
        have h2 : t0.size = 1 := by rw [ht0]; rfl
        omega
      rw [← hs0, ← ht0] at HD
      have HI2 : Hid (∀ w : World, Calls Tryd.prog 38 #[.int .i64 (q : Int)] w fun e w' => e = .returned (.string s0) ∧ Below w.heap.size w w') := Lib.hid (fun w => by rw [hs0]; exact HI.out w hqb)
      have cv : ∀ (W : World) (g : Nat) (h : W.cell? ⟨g, 0, none⟩ = some (.int .u8 (b.toNat : Int))), (Go.convert 28 9 (.slice (some ⟨g, 0, none⟩) 1 1)).run Tryd.prog W = .ok (.string t0) W := fun W g h => by rw [ht0]; exact conv1 b W g h
      have CV := Lib.hid cv
      have hcvd := cv _ _ (show (w.alloc (.cells #[.int .u8 (b.toNat : Int)] 5)).drew.cell? ⟨w.heap.size, 0, none⟩ = some (.int .u8 (b.toNat : Int)) from hk w)
      clear ih e hD hb0 hbn hq0 hd0 hd1 HI hs0 ht0 cv
      go_enter Tryd.func38, Tryd.ntmps38
      go_wp2_with fail
      go_region_with ((first | (go_at_call 38; (with_reducible refine (HI2.out w.drew).mono ?_); rintro e w4 ⟨rfl, hb4⟩; have HB4 := Lib.hid ((Below.refl w.heap.size w).drew.trans hb4); have hcv4 := CV.out _ _ (hk w4); clear hb4) | (go_at_call 38; (with_reducible refine (HI2.out (w.alloc (.cells #[.int .u8 (b.toNat : Int)] 5)).drew).mono ?_); rintro e w4 ⟨rfl, hb4⟩; have HB4 := Lib.hid (((Below.refl w.heap.size w).alloc (Nat.le_refl _) (.cells #[.int .u8 (b.toNat : Int)] 5)).drew.trans (hb4.mono (by simp))); have hcv4 := CV.out w4 w.heap.size (keepD hb4 (hk w)); clear hb4) | fail))
      all_goals
        go_wp2_with fail
        go_ret
        first | exact ⟨by rw [HD.out]; rfl, HB4.out⟩ | exact ⟨by rw [HD.out]; rfl, HB4.out.alloc HB4.out.size _⟩ | fail
end Go.Proofs.YtkhmnkpdlodepaaDoor
