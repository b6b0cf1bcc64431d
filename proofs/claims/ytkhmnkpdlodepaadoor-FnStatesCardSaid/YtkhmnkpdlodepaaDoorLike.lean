/- Contracts: likeInts compares two lists, big tells a long code. -/
import Derived.Test.YtkhmnkpdlodepaaDoorPlainL
import Derived.Deep.QuietTactic
import Derived.BigQuiet
import Derived.WalkSmall
import Derived.WalkSpells
import Derived.Handy
import Derived.Lib.Hide
import Derived.Test.YtkhmnkpdlodepaaDoorRows
namespace Go.Proofs.YtkhmnkpdlodepaaDoor
open Go.RowKit
set_option linter.unusedVariables false
set_option linter.unusedSimpArgs false

set_option maxHeartbeats 400000 in
theorem likeInts_any (u v : Value) (xs ys : List Int) (w : World) (hr : Rd .i64 w u xs) (hr2 : Rd .i64 w v ys) : Calls Tryd.prog 18 #[u, v] w fun e w' => e = .returned (.bool (eqB xs ys)) ∧ Below w.heap.size w w' := by
  obtain ⟨a, cap, rfl, hl, hm, hn, hc⟩ := hr
  obtain ⟨a2, cap2, rfl, hl2, hm2, hn2, hc2⟩ := hr2
  unfold maxLen at hm hm2
  have HC := Lib.hid hc
  have HC2 := Lib.hid hc2
  clear hc hn hc2 hn2
  by_cases hlen : xs.length = ys.length
  rotate_left
  · have hf : eqB xs ys = false := eqB_len hlen
    have HF := Lib.hid hf
    have hne : ((xs.length : Int) == (ys.length : Int)) = false := by simp; omega
    have hne2 : ((xs.length : Int) != (ys.length : Int)) = true := by simp; omega
    clear hf hlen
    go_enter Tryd.func18, Tryd.ntmps18
    go_wp2
    go_ret
    exact ⟨by rw [HF.out]; rfl, Below.refl _ _⟩
  have hne : ((ys.length : Int) != (ys.length : Int)) = false := by simp
  have hl' : ys.length ≤ cap := by omega
  have HL := Lib.hid hlen
  rw [hlen]
  clear hlen hl
  go_enter Tryd.func18, Tryd.ntmps18
  go_wp2
  go_loopw [5] (fun i wr => ∃ k : Nat, k ≤ ys.length ∧ i = .int .i64 k ∧ xs.take k = ys.take k ∧ Below w.heap.size w wr) (fun i _ => ys.length - (intOf i).toNat)
  case atStart => exact ⟨0, Nat.zero_le _, rfl, rfl, Below.refl _ _⟩
  case round =>
    obtain ⟨k, hk, rfl, ht, hb⟩ := hrel
    have HT := Lib.hid ht
    clear ht
    by_cases hlt : k < ys.length
    · have hltx : k < xs.length := by rw [HL.out]; exact hlt
      obtain ⟨b, off, rfl, hcell⟩ := HC.out k hltx
      obtain ⟨b2, off2, rfl, hcell2⟩ := HC2.out k hlt
      have hbl : b < w.heap.size := World.block_lt_of_cell? w _ hcell
      have hbl2 : b2 < w.heap.size := World.block_lt_of_cell? w _ hcell2
      have hc1 : wr.cell? ⟨b, off + k, none⟩ = some (.int .i64 (xs.getD k 0)) := (hb.cell (p := ⟨b, off + k, none⟩) hbl).trans hcell
      have hc2 : wr.cell? ⟨b2, off2 + k, none⟩ = some (.int .i64 (ys.getD k 0)) := (hb.cell (p := ⟨b2, off2 + k, none⟩) hbl2).trans hcell2
      have hTx := take_succ_getD xs k hltx
      have hTy := take_succ_getD ys k hlt
      have hat : xs.getD k 0 ≠ ys.getD k 0 → eqB xs ys = false := fun h => eqB_at k h
      obtain ⟨x, hx⟩ : ∃ x, x = xs.getD k 0 := ⟨_, rfl⟩
      obtain ⟨y, hy⟩ : ∃ y, y = ys.getD k 0 := ⟨_, rfl⟩
      rw [← hx] at hc1 hTx hat
      rw [← hy] at hc2 hTy hat
      have HTX := Lib.hid hTx
      have HTY := Lib.hid hTy
      have HAT := Lib.hid hat
      have hkx : (k : Int) < (ys.length : Int) := by omega
      have hkx2 : (0 : Int) ≤ (k : Int) := by omega
      clear hcell hcell2 hTx hTy hx hy hat
      by_cases hxy : x = y
      · have hxy1 : (x != y) = false := by simp [hxy]
        have HXY := Lib.hid hxy
        clear hxy
        go_wp2
        go_quiet (fail)
        go_wp2
        go_roundw
        case rel => exact ⟨k + 1, by omega, by go_num, by rw [HTX.out, HTY.out, HT.out, HXY.out], below_drewN hb _⟩
        case measure => simp [intOf]; omega
      · have hxy1 : (x != y) = true := by simp [hxy]
        have HXY := Lib.hid hxy
        clear hxy
        go_wp2
        go_quiet (fail)
        go_wp2
        go_ret
        exact ⟨by rw [HAT.out HXY.out]; rfl, below_drewN hb _⟩
    · have : k = ys.length := by omega
      subst this
      have HB := Lib.hid hb
      clear hb
      go_wp2
      go_ret
      refine ⟨?_, HB.out⟩
      have e : xs = ys := by
        have h1 := HT.out
        rw [List.take_length] at h1
        have h2 : xs.take ys.length = xs := List.take_of_length_le (by rw [HL.out]; exact Nat.le_refl _)
        rw [h2] at h1; exact h1
      rw [e, eqB_self]; rfl
theorem big_any (v : Value) (cs : List Int) (w : World) (hr : Rd .u8 w v cs) : Calls Tryd.prog 9 #[v] w fun e w' => e = .returned (.bool (decide ((4096 : Int) < (cs.length : Int)))) ∧ w = w' := by
  obtain ⟨a, cap, rfl, hl, hm, hn, hc⟩ := hr
  unfold maxLen at hm
  clear hc hn
  go_enter Tryd.func9, Tryd.ntmps9
  go_wp2
  go_ret
  exact ⟨rfl, rfl⟩
theorem IsRow.bytes {w : World} {a : Option Addr} {len cap : Nat} {zs : List Int} (h : IsRow .u8 w a len cap zs) : ∀ x ∈ zs.take len, 0 ≤ x ∧ x ≤ 255 := by
  intro x hx
  have hx' := List.mem_of_mem_take hx
  rcases h with ⟨rfl, rfl, rfl, rfl⟩ | ⟨x', rfl, hl, hm, hz, hc, hw⟩
  · cases hx'
  · simpa [Lit.wf, IntKind.min, IntKind.max, IntKind.signed, IntKind.bits] using hw x hx'
end Go.Proofs.YtkhmnkpdlodepaaDoor
