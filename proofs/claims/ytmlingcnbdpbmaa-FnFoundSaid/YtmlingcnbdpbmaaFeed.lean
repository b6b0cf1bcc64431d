/- Contracts: feeding a register: (Crc).feed, l02Feed. -/
import Derived.Test.YtmlingcnbdpbmaaLow
import Derived.Test.YtmlingcnbdpbmaaPlainL
namespace Go.Proofs.Ytmlingcnbdpbmaa
open Go.RowKit
set_option linter.unusedVariables false

/-- The register after a bit. -/
def stepI (wd po r b : Int) : Int := if bxor b (r / p2 (wd - 1)) = 1 then bxor ((2 * r) % p2 wd) po else (2 * r) % p2 wd
def feedI (wd po r : Int) (xs : List Int) : Int := xs.foldl (stepI wd po) r
theorem feedI_snoc (wd po r : Int) (xs : List Int) (b : Int) : feedI wd po r (xs ++ [b]) = stepI wd po (feedI wd po r xs) b := by simp [feedI]
theorem p2_half {wd : Int} (h : 3 ≤ wd) : p2 wd = 2 * p2 (wd - 1) := by
  have := p2_succ (wd - 1) (by omega)
  have e : wd - 1 + 1 = wd := by omega
  rwa [e] at this
theorem stepI_range {wd po r b : Int} (h : crcB wd po = true) : 0 ≤ stepI wd po r b ∧ stepI wd po r b < p2 wd := by
  obtain ⟨h1, h2, h3, h4, h5⟩ := crcB_yes h
  have hp := p2_crc h1 h2
  have hm : 0 ≤ (2 * r) % p2 wd ∧ (2 * r) % p2 wd < p2 wd := ⟨Int.emod_nonneg _ (by omega), Int.emod_lt_of_pos _ (by omega)⟩
  unfold stepI
  split
  · obtain ⟨n, rfl⟩ := Int.eq_ofNat_of_zero_le (show 0 ≤ wd by omega)
    exact bxor_lt hm.1 hm.2 (by omega) h4
  · exact hm
theorem feedI_range {wd po r : Int} (h : crcB wd po = true) (h0 : 0 ≤ r) (h1 : r < p2 wd) (xs : List Int) : 0 ≤ feedI wd po r xs ∧ feedI wd po r xs < p2 wd := by
  induction xs using snoc_ind with
  | h0 => exact ⟨h0, h1⟩
  | hs xs b ih => rw [feedI_snoc]; exact stepI_range h
theorem p2_pred {wd : Int} : (2 : Int) ^ (wd.toNat - 1) = p2 (wd - 1) := by
  unfold p2
  have : (wd - 1).toNat = wd.toNat - 1 := by omega
  rw [this]
theorem bxor_comm (a b : Int) : bxor a b = bxor b a := by simp [bxor, Nat.xor_comm]
theorem mask_eq {r wd : Int} (h0 : 0 ≤ r) (h1 : r < 16777216) (hw1 : 3 ≤ wd) (hw2 : wd ≤ 24) : bits BinOp.and IntKind.i64 (r * 2) (p2 wd - 1) = (2 * r) % p2 wd := by
  have two63 : (2 : Int) ^ 63 = 9223372036854775808 := by decide
  have hw : ∀ n : Int, 0 ≤ n → n < 2 ^ 63 → IntKind.i64.wrap n = n := by
    intro n a b
    rw [two63] at b
    exact IntWalk.i64_in n (by omega)
  have h := bits_mask .i64 63 (by decide) hw wd.toNat (by omega) (r * 2) (by omega) (by rw [two63]; omega)
  have e : r * 2 = 2 * r := by omega
  rw [e] at h ⊢
  exact h

set_option maxHeartbeats 1000000 in
theorem feed_any (v : Value) (xs : List Int) (wd po r : Int) (w : World) (hr : Rd .i64 w v xs) (hb : allIn xs 0 1 = true) (h : crcB wd po = true) (h0 : 0 ≤ r) (h1 : r < p2 wd) :
    Calls Try.prog 46 #[.agg #[.int .i64 wd, .int .i64 po], .int .i64 r, v] w fun e w' => e = .returned (.int .i64 (feedI wd po r xs)) ∧ Below w.heap.size w w' := by
  obtain ⟨a, cap, rfl, hl, hm, hn, hc⟩ := hr
  obtain ⟨hw1, hw2, hp1, hp2, _⟩ := crcB_yes h
  obtain ⟨hq1, hq2⟩ := p2_crc hw1 hw2
  unfold maxLen at hm
  have HC := Lib.hid hc
  have HBT := Lib.hid hb
  have HCR := Lib.hid h
  have hs1 := p2_wrap64 (n := wd) (by omega)
  have hpw := p2_pred (wd := wd)
  have HALF := Lib.hid (p2_half hw1)
  have hT1 := p2_pos (wd - 1)
  have H0 := Lib.hid h0
  have H1 := Lib.hid h1
  clear hc hn hb h
  go_enter Try.func46, Try.ntmps46
  go_wp2
  go_loop [1, 8, 9, 12] (fun q b0 t0 i => ∃ (k : Nat) (b1 t1 : Value), k ≤ xs.length ∧ b1 = b0 ∧ t1 = t0 ∧ i = .int .i64 k ∧ q = .int .i64 (feedI wd po r (xs.take k))) (fun _ _ _ i => xs.length - (intOf i).toNat)
  case atStart => exact ⟨0, _, _, Nat.zero_le _, rfl, rfl, rfl, rfl⟩
  case round =>
    obtain ⟨k, b1, t1, hk, rfl, rfl, rfl, rfl⟩ := hrel
    by_cases hlt : k < xs.length
    · obtain ⟨b, off, rfl, hcell0⟩ := HC.out k hlt
      have hblk : b < w.heap.size := World.block_lt_of_cell? w _ hcell0
      have hx := allIn_at HBT.out k hlt
      have hg := feedI_range HCR.out H0.out H1.out (xs.take k)
      have hs : feedI wd po r (xs.take (k + 1)) = stepI wd po (feedI wd po r (xs.take k)) (xs.getD k 0) := by rw [take_succ_getD xs k hlt, feedI_snoc]
      obtain ⟨x, hx0⟩ : ∃ x, x = xs.getD k 0 := ⟨_, rfl⟩
      obtain ⟨g, hg0⟩ : ∃ g, g = feedI wd po r (xs.take k) := ⟨_, rfl⟩
      rw [← hx0] at hcell0 hx hs
      rw [← hg0] at hg hs ⊢
      obtain ⟨hx1, hx2⟩ := hx
      obtain ⟨hg1, hg2⟩ := hg
      have hdv : 0 ≤ g / p2 (wd - 1) ∧ g / p2 (wd - 1) ≤ 1 := by
        refine ⟨Int.ediv_nonneg hg1 (by omega), ?_⟩
        have : g / p2 (wd - 1) < 2 := Int.ediv_lt_of_lt_mul (by omega) (by have := HALF.out; omega)
        omega
      have hxor := bits_xor x (g / p2 (wd - 1)) hx1 (by omega) hdv.1 (by omega)
      have hmask := mask_eq hg1 (by omega) hw1 hw2
      have hmr : 0 ≤ (2 * g) % p2 wd ∧ (2 * g) % p2 wd < p2 wd := ⟨Int.emod_nonneg _ (by omega), Int.emod_lt_of_pos _ (by omega)⟩
      have hxp := bits_xor ((2 * g) % p2 wd) po hmr.1 (by omega) (by omega) (by omega)
      have HS := Lib.hid hs
      have hdv2 := hdv.1
      clear hx0 hg0 hs hmr
      by_cases ht : bxor x (g / p2 (wd - 1)) = 1
      · have htb : (bxor x (g / p2 (wd - 1)) == 1) = true := by simp [ht]
        have HT : Hid (stepI wd po g x = bxor ((2 * g) % p2 wd) po) := by
          show stepI wd po g x = _
          unfold stepI; rw [if_pos ht]
        clear ht
        go_wp2
        go_round
        case rel => exact ⟨k + 1, _, _, by omega, rfl, rfl, by go_num, by rw [HS.out, HT.out]⟩
        case measure => simp [intOf]; omega
      · have htb : (bxor x (g / p2 (wd - 1)) == 1) = false := by simp [ht]
        have HT : Hid (stepI wd po g x = (2 * g) % p2 wd) := by
          show stepI wd po g x = _
          unfold stepI; rw [if_neg ht]
        clear ht
        go_wp2
        go_round
        case rel => exact ⟨k + 1, _, _, by omega, rfl, rfl, by go_num, by rw [HS.out, HT.out]⟩
        case measure => simp [intOf]; omega
    · have : k = xs.length := by omega
      subst this
      go_wp2
      go_ret
      exact ⟨rfl, (Below.refl _ _).alloc (Nat.le_refl _) _⟩
theorem half_mod {T g : Int} (hT : 1 ≤ T) : g % T * 2 = (2 * g) % (2 * T) := by
  rw [Int.mul_emod_mul_of_pos g T (by decide : (0 : Int) < 2)]
  omega
set_option maxHeartbeats 1000000 in
theorem l02Feed_any (v : Value) (xs : List Int) (wd po r : Int) (w : World) (hr : Rd .i64 w v xs) (hb : allIn xs 0 1 = true) (h : crcB wd po = true) (h0 : 0 ≤ r) (h1 : r < p2 wd) :
    Calls Try.prog 47 #[.agg #[.int .i64 wd, .int .i64 po], .int .i64 r, v] w fun e w' => e = .returned (.int .i64 (feedI wd po r xs)) ∧ Below w.heap.size w w' := by
  obtain ⟨a, cap, rfl, hl, hm, hn, hc⟩ := hr
  obtain ⟨hw1, hw2, hp1, hp2, _⟩ := crcB_yes h
  obtain ⟨hq1, hq2⟩ := p2_crc hw1 hw2
  unfold maxLen at hm
  have HC := Lib.hid hc
  have HBT := Lib.hid hb
  have HCR := Lib.hid h
  have hpw := p2_pred (wd := wd)
  have HALF := Lib.hid (p2_half hw1)
  have hT1 := p2_pos (wd - 1)
  have hT2 : p2 (wd - 1) ≤ 16777216 := by have := HALF.out; omega
  have hs1 : wrap64 (p2 (wd - 1)) = p2 (wd - 1) := IntWalk.wrap64_in _ (by omega)
  have H0 := Lib.hid h0
  have H1 := Lib.hid h1
  have HB0 := Lib.hid ((Below.refl w.heap.size w).alloc (Nat.le_refl _) (.cells #[.int .i64 wd, .int .i64 po] 25))
  have hbx0 : (w.alloc (.cells #[.int .i64 wd, .int .i64 po] 25)).cell? ⟨w.heap.size, 1, none⟩ = some (.int .i64 po) := by simp
  clear hc hn hb h
  go_enter Try.func47, Try.ntmps47
  go_wp2
  go_loopw [1, 8, 9] (fun q i t0 wr => ∃ (k : Nat) (t1 : Value), k ≤ xs.length ∧ t1 = t0 ∧ i = .int .i64 k ∧ q = .int .i64 (feedI wd po r (xs.take k)) ∧ Below w.heap.size w wr ∧ wr.cell? ⟨w.heap.size, 1, none⟩ = some (.int .i64 po)) (fun _ i _ _ => xs.length - (intOf i).toNat)
  case atStart => exact ⟨0, _, Nat.zero_le _, rfl, rfl, rfl, HB0.out, hbx0⟩
  case round =>
    obtain ⟨k, t1, hk, rfl, rfl, rfl, hbw, hbx⟩ := hrel
    by_cases hlt : k < xs.length
    · obtain ⟨b, off, rfl, hcell0⟩ := HC.out k hlt
      have hcell1 : wr.cell? ⟨b, off + k, none⟩ = some (.int .i64 (xs.getD k 0)) := (hbw.cell (p := ⟨b, off + k, none⟩) (World.block_lt_of_cell? w _ hcell0)).trans hcell0
      have hx := allIn_at HBT.out k hlt
      have hg := feedI_range HCR.out H0.out H1.out (xs.take k)
      have hs : feedI wd po r (xs.take (k + 1)) = stepI wd po (feedI wd po r (xs.take k)) (xs.getD k 0) := by rw [take_succ_getD xs k hlt, feedI_snoc]
      obtain ⟨x, hx0⟩ : ∃ x, x = xs.getD k 0 := ⟨_, rfl⟩
      obtain ⟨g, hg0⟩ : ∃ g, g = feedI wd po r (xs.take k) := ⟨_, rfl⟩
      rw [← hx0] at hcell1 hx hs
      rw [← hg0] at hg hs ⊢
      obtain ⟨hx1, hx2⟩ := hx
      obtain ⟨hg1, hg2⟩ := hg
      have hdv : 0 ≤ g / p2 (wd - 1) ∧ g / p2 (wd - 1) ≤ 1 := by
        refine ⟨Int.ediv_nonneg hg1 (by omega), ?_⟩
        have : g / p2 (wd - 1) < 2 := Int.ediv_lt_of_lt_mul (by omega) (by have := HALF.out; omega)
        omega
      have hquo : IntKind.i64.wrap (g.tdiv (p2 (wd - 1))) = g / p2 (wd - 1) := IntWalk.i64_quo _ _ (by omega)
      have hxor0 := bits_xor (g / p2 (wd - 1)) x hdv.1 (by omega) hx1 (by omega)
      have hxor : bits BinOp.xor IntKind.i64 (g / p2 (wd - 1)) x = bxor x (g / p2 (wd - 1)) := by rw [hxor0, bxor_comm]
      have hrem : g % p2 (wd - 1) * 2 = (2 * g) % p2 wd := by rw [half_mod hT1, ← HALF.out]
      have hrm : 0 ≤ g % p2 (wd - 1) ∧ g % p2 (wd - 1) < p2 (wd - 1) := ⟨Int.emod_nonneg _ (by omega), Int.emod_lt_of_pos _ (by omega)⟩
      have hmr : 0 ≤ (2 * g) % p2 wd ∧ (2 * g) % p2 wd < p2 wd := ⟨Int.emod_nonneg _ (by omega), Int.emod_lt_of_pos _ (by omega)⟩
      have hxp := bits_xor ((2 * g) % p2 wd) po hmr.1 (by omega) (by omega) (by omega)
      have HS := Lib.hid hs
      have HBW := Lib.hid hbw
      have hdv2 := hdv.1
      obtain ⟨hrm1, hrm2⟩ := hrm
      have hkx : (k : Int) < (xs.length : Int) := by omega
      have hkx2 : (0 : Int) ≤ (k : Int) := by omega
      clear hx0 hg0 hs hmr hbw hcell0 hxor0
      by_cases ht : bxor x (g / p2 (wd - 1)) = 1
      · have htb : (bxor x (g / p2 (wd - 1)) == 1) = true := by simp [ht]
        have HT : Hid (stepI wd po g x = bxor ((2 * g) % p2 wd) po) := by
          show stepI wd po g x = _
          unfold stepI; rw [if_pos ht]
        clear ht
        go_wp2
        go_quiet (fail)
        go_wp2
        go_roundw
        case rel => exact ⟨k + 1, _, by omega, rfl, by go_num, by rw [HS.out, HT.out], below_drewN HBW.out _, by simpa using hbx⟩
        case measure => simp [intOf]; omega
      · have htb : (bxor x (g / p2 (wd - 1)) == 1) = false := by simp [ht]
        have HT : Hid (stepI wd po g x = (2 * g) % p2 wd) := by
          show stepI wd po g x = _
          unfold stepI; rw [if_neg ht]
        clear ht
        go_wp2
        go_quiet (fail)
        go_wp2
        go_roundw
        case rel => exact ⟨k + 1, _, by omega, rfl, by go_num, by rw [HS.out, HT.out], below_drewN HBW.out _, by simpa using hbx⟩
        case measure => simp [intOf]; omega
    · have : k = xs.length := by omega
      subst this
      have HBW := Lib.hid hbw
      clear hbw
      go_wp2
      go_ret
      exact ⟨by first | rfl | (rw [List.take_length]; rfl), HBW.out⟩
end Go.Proofs.Ytmlingcnbdpbmaa
