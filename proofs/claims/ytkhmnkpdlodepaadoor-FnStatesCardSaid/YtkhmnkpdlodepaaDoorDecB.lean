/- Contract: l01Dec for numbers of up to twelve digits. -/
import Derived.Test.YtkhmnkpdlodepaaDoorDec
namespace Go.Proofs.YtkhmnkpdlodepaaDoor
open Go.RowKit
set_option linter.unusedVariables false
set_option linter.unusedSimpArgs false

theorem decS_size12 (u : Nat) (h : u ≤ 1000000000000) : (decS u).size ≤ 21 := by
  have := Lib.itoa_length_le (u : Int) (by omega) (by omega)
  rw [Lib.itoa_nonneg] at this
  simpa [decS, ByteArray.size] using this
set_option maxRecDepth 100000 in
set_option maxHeartbeats 1000000 in
theorem l01Dec_12 : ∀ (u : Nat) (w : World) (h : u ≤ 1000000000000), Calls Tryd.prog 38 #[.int .i64 (u : Int)] w fun e w' => e = .returned (.string (decS u)) ∧ Below w.heap.size w w' := by
  intro u
  induction u using Nat.strongRecOn with
  | ind u ih =>
    intro w h
    obtain ⟨b, hb0⟩ : ∃ b : UInt8, b = UInt8.ofNat (48 + u % 10) := ⟨_, rfl⟩
    have hbn : b.toNat = 48 + u % 10 := by rw [hb0, UInt8.toNat_ofNat']; omega
    have hbw : IntKind.u8.wrap (48 + (u : Int) % 10) = (b.toNat : Int) := by rw [hbn]; simp [IntKind.wrap, IntKind.bits, IntKind.signed]; omega
    have hk : ∀ W : World, (W.alloc (.cells #[.int .u8 (b.toNat : Int)] 5)).cell? ⟨W.heap.size, 0, none⟩ = some (.int .u8 (b.toNat : Int)) := fun W => by simp
    obtain ⟨D, hD⟩ : ∃ D, D = decS u := ⟨_, rfl⟩
    rw [← hD]
    by_cases h10 : u < 10
    · have e : decS u = ⟨#[b]⟩ := by
        rw [hb0]; unfold decS; rw [Lib.decDigits, dif_pos h10, Nat.mod_eq_of_lt h10]
      have HD := Lib.hid (hD.trans e)
      have hu : (u : Int) % 10 = (u : Int) := by omega
      rw [hu] at hbw
      have hcv := conv1 b _ _ (hk w)
      clear ih e hD hu hb0 hbn
      go_enter Tryd.func38, Tryd.ntmps38
      go_wp2_with fail
      go_ret
      exact ⟨by rw [HD.out]; rfl, (Below.refl _ w).alloc (Nat.le_refl _) _⟩
    · have e : decS u = decS (u / 10) ++ ⟨#[b]⟩ := by
        rw [hb0]; unfold decS
        conv => lhs; rw [Lib.decDigits, dif_neg h10]
        apply ByteArray.ext
        simp
      have HD := Lib.hid (hD.trans e)
      have HI := Lib.hid (ih (u / 10) (by omega))
      obtain ⟨q, hq0⟩ : ∃ q, q = u / 10 := ⟨_, rfl⟩
      obtain ⟨d, hd0⟩ : ∃ d, d = u % 10 := ⟨_, rfl⟩
      rw [← hq0] at HD HI
      have hq : IntKind.i64.wrap ((u : Int) / 10) = (q : Int) := by rw [IntWalk.i64_in _ (by omega)]; omega
      have hr : (u : Int).tmod 10 = (d : Int) := by rw [Int.tmod_eq_emod_of_nonneg (by omega)]; omega
      have hs : IntKind.i64.wrap (48 + (d : Int)) = 48 + (d : Int) := IntWalk.i64_in _ (by omega)
      have hd1 : (u : Int) % 10 = (d : Int) := by omega
      rw [hd1] at hbw
      have hqb : q ≤ 1000000000000 := by omega
      have hun : ¬ ((u : Int) < 10) := by omega
      obtain ⟨s0, hs0⟩ : ∃ x, x = decS q := ⟨_, rfl⟩
      obtain ⟨t0, ht0⟩ : ∃ x : ByteArray, x = ⟨#[b]⟩ := ⟨_, rfl⟩
      have hlt : ¬ (s0.size + t0.size > 9223372036854775807) := by
        have h1 : s0.size ≤ 21 := by rw [hs0]; exact decS_size12 q hqb
        have h2 : t0.size = 1 := by rw [ht0]; rfl
        omega
      rw [← hs0, ← ht0] at HD
      have HI2 : Hid (∀ w : World, Calls Tryd.prog 38 #[.int .i64 (q : Int)] w fun e w' => e = .returned (.string s0) ∧ Below w.heap.size w w') := Lib.hid (fun w => by rw [hs0]; exact HI.out w hqb)
      have cv : ∀ (W : World) (g : Nat) (h : W.cell? ⟨g, 0, none⟩ = some (.int .u8 (b.toNat : Int))), (Go.convert 28 9 (.slice (some ⟨g, 0, none⟩) 1 1)).run Tryd.prog W = .ok (.string t0) W := fun W g h => by rw [ht0]; exact conv1 b W g h
      have CV := Lib.hid cv
      have hcvd := cv _ _ (show (w.alloc (.cells #[.int .u8 (b.toNat : Int)] 5)).drew.cell? ⟨w.heap.size, 0, none⟩ = some (.int .u8 (b.toNat : Int)) from hk w)
      clear ih e hD hb0 hbn hq0 hd0 hd1 HI hs0 ht0 cv
      go_enter Tryd.func38, Tryd.ntmps38
      go_wp2_with fail
      go_region_with ((first | (go_at_call 38; (with_reducible refine (HI2.out w.drew).mono ?_); rintro e w4 ⟨rfl, hb4⟩; have HB4 := Lib.hid ((Below.refl w.heap.size w).drew.trans hb4); have hcv4 := CV.out _ _ (hk w4); clear hb4) | (go_at_call 38; (with_reducible refine (HI2.out (w.alloc (.cells #[.int .u8 (b.toNat : Int)] 5)).drew).mono ?_); rintro e w4 ⟨rfl, hb4⟩; have HB4 := Lib.hid (((Below.refl w.heap.size w).alloc (Nat.le_refl _) (.cells #[.int .u8 (b.toNat : Int)] 5)).drew.trans (hb4.mono (by simp))); have hcv4 := CV.out w4 w.heap.size (keepD hb4 (hk w)); clear hb4) | fail))
      all_goals
        go_wp2_with fail
        go_ret
        first | exact ⟨by rw [HD.out]; rfl, HB4.out⟩ | exact ⟨by rw [HD.out]; rfl, HB4.out.alloc HB4.out.size _⟩ | fail
end Go.Proofs.YtkhmnkpdlodepaaDoor
