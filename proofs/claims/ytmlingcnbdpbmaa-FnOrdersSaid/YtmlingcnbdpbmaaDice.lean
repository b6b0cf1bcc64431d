/- Contracts: dice: roll, below. -/
import Derived.Test.YtmlingcnbdpbmaaSrc
import Derived.Laws.Bits64
namespace Go.Proofs.Ytmlingcnbdpbmaa
open Go.RowKit
set_option linter.unusedVariables false
set_option linter.unusedSimpArgs false

/-- Block b is a die: the code's slice, how much of it is used, the state. -/
structure Die (w : World) (b : Nat) (ca : Option Addr) (cap : Nat) (cs : List Int) (at0 h : Int) : Prop where
  c0 : w.cell? ⟨b, 0, none⟩ = some (.slice ca cs.length cap)
  c1 : w.cell? ⟨b, 1, none⟩ = some (.int .i64 at0)
  c2 : w.cell? ⟨b, 2, none⟩ = some (.int .u64 h)
  f1 : w.frozen? ⟨b, 1, none⟩ = false
  f2 : w.frozen? ⟨b, 2, none⟩ = false
  a0 : 0 ≤ at0
  a1 : at0 ≤ cs.length
  l : cs.length ≤ 4096
  lc : cs.length ≤ cap
  lm : cap ≤ maxLen
  rd : ∀ i, i < cs.length → ∃ b' off, ca = some ⟨b', off, none⟩ ∧ b' < b ∧ w.cell? ⟨b', off + i, none⟩ = some (.int .u8 (cs.getD i 0))
  oct : ∀ x ∈ cs, 0 ≤ x ∧ x ≤ 255
def DieAt (w : World) (b : Nat) : Prop := ∃ ca cap cs at0 h, Die w b ca cap cs at0 h

section
variable {w w' : World} {b : Nat} {ca : Option Addr} {cap : Nat} {cs : List Int} {at0 h : Int}
theorem Die.lt (d : Die w b ca cap cs at0 h) : b < w.heap.size := World.block_lt_of_cell? w _ d.c0
theorem Die.kept {row : Option Nat} (d : Die w b ca cap cs at0 h) (hg : w.grownBy w' row) (hr : ∀ k, row = some k → b < k) : Die w' b ca cap cs at0 h := by
  have hne : some b ≠ row := fun e => absurd (hr b e.symm) (Nat.lt_irrefl b)
  exact ⟨hg.cell d.c0 hne, hg.cell d.c1 hne, hg.cell d.c2 hne, (hg.frozen_far ⟨b, 1, none⟩ d.lt hne).trans d.f1, (hg.frozen_far ⟨b, 2, none⟩ d.lt hne).trans d.f2, d.a0, d.a1, d.l, d.lc, d.lm,
    fun i hi => by
      obtain ⟨b', off, e, hb, hc⟩ := d.rd i hi
      exact ⟨b', off, e, hb, hg.cell hc (fun e => absurd (hr b' e.symm) (by omega))⟩, d.oct⟩
theorem Die.below {B : Nat} (d : Die w b ca cap cs at0 h) (hb : Below B w w') (hB : b < B) : Die w' b ca cap cs at0 h := by
  refine ⟨(hb.cell (p := ⟨b, 0, none⟩) hB).trans d.c0, (hb.cell (p := ⟨b, 1, none⟩) hB).trans d.c1, (hb.cell (p := ⟨b, 2, none⟩) hB).trans d.c2, (hb.frozen (p := ⟨b, 1, none⟩) hB).trans d.f1, (hb.frozen (p := ⟨b, 2, none⟩) hB).trans d.f2, d.a0, d.a1, d.l, d.lc, d.lm,
    fun i hi => ?_, d.oct⟩
  obtain ⟨b', off, e, hlt, hc⟩ := d.rd i hi
  exact ⟨b', off, e, hlt, (hb.cell (p := ⟨b', off + i, none⟩) (show b' < B by omega)).trans hc⟩
theorem Die.drewN (d : Die w b ca cap cs at0 h) (n : Nat) : Die (w.drewN n) b ca cap cs at0 h := d.below (B := b + 1) (below_drewN (Below.refl _ _) n) (by omega)
theorem Die.set2 (d : Die w b ca cap cs at0 h) (s : Int) : Die (w.setCell ⟨b, 2, none⟩ (.int .u64 s)) b ca cap cs at0 s := by
  refine ⟨?_, ?_, ?_, ?_, ?_, d.a0, d.a1, d.l, d.lc, d.lm, fun i hi => ?_, d.oct⟩
  · rw [World.cell?_setCell_other _ _ _ _ (by simp)]; exact d.c0
  · rw [World.cell?_setCell_other _ _ _ _ (by simp)]; exact d.c1
  · exact World.cell?_setCell_same' _ _ _ (by rw [d.c2]; rfl)
  · rw [World.frozen?_setCell]; exact d.f1
  · rw [World.frozen?_setCell]; exact d.f2
  · obtain ⟨b', off, e, hb, hc⟩ := d.rd i hi
    refine ⟨b', off, e, hb, ?_⟩
    rw [World.cell?_setCell_other _ _ _ _ (by simp <;> omega)]; exact hc
theorem Die.set1 (d : Die w b ca cap cs at0 h) (s : Int) (h0 : 0 ≤ s) (h1 : s ≤ cs.length) : Die (w.setCell ⟨b, 1, none⟩ (.int .i64 s)) b ca cap cs s h := by
  refine ⟨?_, ?_, ?_, ?_, ?_, h0, h1, d.l, d.lc, d.lm, fun i hi => ?_, d.oct⟩
  · rw [World.cell?_setCell_other _ _ _ _ (by simp)]; exact d.c0
  · exact World.cell?_setCell_same' _ _ _ (by rw [d.c1]; rfl)
  · rw [World.cell?_setCell_other _ _ _ _ (by simp)]; exact d.c2
  · rw [World.frozen?_setCell]; exact d.f1
  · rw [World.frozen?_setCell]; exact d.f2
  · obtain ⟨b', off, e, hb, hc⟩ := d.rd i hi
    refine ⟨b', off, e, hb, ?_⟩
    rw [World.cell?_setCell_other _ _ _ _ (by simp <;> omega)]; exact hc
end
theorem DieAt.kept {w w' : World} {b : Nat} {row : Option Nat} (h : DieAt w b) (hg : w.grownBy w' row) (hr : ∀ k, row = some k → b < k) : DieAt w' b := by
  obtain ⟨ca, cap, cs, at0, sd, h⟩ := h
  exact ⟨ca, cap, cs, at0, sd, h.kept hg hr⟩
theorem DieAt.below {w w' : World} {b B : Nat} (h : DieAt w b) (hb : Below B w w') (hB : b < B) : DieAt w' b := by
  obtain ⟨ca, cap, cs, at0, sd, h⟩ := h
  exact ⟨ca, cap, cs, at0, sd, h.below hb hB⟩
theorem DieAt.lt {w : World} {b : Nat} (h : DieAt w b) : b < w.heap.size := by
  obtain ⟨ca, cap, cs, at0, sd, h⟩ := h
  exact h.lt
theorem die_x (H : Int) : 0 ≤ wrap64 (bits BinOp.and IntKind.u64 (IntKind.u64.wrap H / 8589934592) 16777215) ∧ wrap64 (bits BinOp.and IntKind.u64 (IntKind.u64.wrap H / 8589934592) 16777215) ≤ 16777215 := by
  have h0 : 0 ≤ IntKind.u64.wrap H / 8589934592 := by rw [IntKind.wrap_u64]; omega
  have h1 : IntKind.u64.wrap H / 8589934592 < 2 ^ 31 := by
    have e : (2 : Int) ^ 31 = 2147483648 := by decide
    rw [IntKind.wrap_u64, e]; omega
  have hw : ∀ n : Int, 0 ≤ n → n < 2 ^ 31 → IntKind.u64.wrap n = n := by
    intro n a b
    have e : (2 : Int) ^ 31 = 2147483648 := by decide
    rw [e] at b
    rw [IntKind.wrap_u64]; omega
  have h := bits_mask .u64 31 (by decide) hw 24 (by decide) _ h0 h1
  have e1 : ((2 : Int) ^ 24 - 1) = 16777215 := by decide
  have e2 : ((2 : Int) ^ 24) = 16777216 := by decide
  rw [e1, e2] at h
  rw [h]
  have : wrap64 (IntKind.u64.wrap H / 8589934592 % 16777216) = IntKind.u64.wrap H / 8589934592 % 16777216 := IntWalk.wrap64_in _ (by omega)
  rw [this]
  omega
/-- What below hands back. -/
def BelowRes (b : Nat) (n : Int) (w : World) (e : Ending) (w' : World) : Prop := ∃ x : Int, e = .returned (.int .i64 x) ∧ 0 ≤ x ∧ x < n ∧ DieAt w' b ∧ w.grownBy w' (some b)
set_option maxRecDepth 20000 in
set_option maxHeartbeats 2000000 in
theorem dieBelow_any (b : Nat) (n : Int) (w : World) (h : DieAt w b) (hn : 1 ≤ n) : Calls Try.prog 17 #[.pointer (some ⟨b, 0, none⟩), .int .i64 n] w (BelowRes b n w) := by
  obtain ⟨ca, cap, cs, at0, hh, hS⟩ := h
  obtain ⟨K, hK⟩ := Int.eq_ofNat_of_zero_le hS.a0
  subst hK
  have hc2 := hS.c2
  have hf2 := hS.f2
  have HS := Lib.hid hS
  clear hS
  go_enter Try.func17, Try.ntmps17
  go_wp2
  have hlen := HS.out.l
  have hlc := HS.out.lc
  have hlm := HS.out.lm
  have hat1 := HS.out.a1
  unfold maxLen at hlm
  have hxr := die_x (IntKind.u64.wrap (hh * 6364136223846793005) + 1442695040888963407)
  obtain ⟨H, hH⟩ : ∃ H, H = IntKind.u64.wrap (IntKind.u64.wrap (hh * 6364136223846793005) + 1442695040888963407) := ⟨_, rfl⟩
  rw [← hH] at hxr ⊢
  clear hH
  obtain ⟨X, hX⟩ : ∃ X, X = wrap64 (bits BinOp.and IntKind.u64 (H / 8589934592) 16777215) := ⟨_, rfl⟩
  rw [← hX] at hxr ⊢
  clear hX
  obtain ⟨hX0, hX1⟩ := hxr
  by_cases hat : K < cs.length
  rotate_left
  · obtain ⟨W, hW⟩ : ∃ W, W = w.setCell ⟨b, 2, none⟩ (.int .u64 H) := ⟨_, rfl⟩
    have HS2 : Hid (Die W b ca cap cs (K : Int) H) := Lib.hid (by rw [hW]; exact HS.out.set2 H)
    have HG2 : Hid (w.grownBy W (some b)) := Lib.hid (by rw [hW]; exact grown_set (World.grownBy.refl w (some b)) 2 _)
    rw [← hW]
    have c0 := HS2.out.c0
    have c1 := HS2.out.c1
    have hkk : decide ((K : Int) < (cs.length : Int)) = false := decide_eq_false (by omega)
    clear hW hc2 hf2
    go_quiet (fail)
    go_wp2
    go_ret
    exact ⟨X % n, rfl, Int.emod_nonneg _ (by omega), Int.emod_lt_of_pos _ (by omega), ⟨_, _, _, _, _, HS2.out.drewN _⟩, grown_drewN HG2.out _⟩
  have hk1 : (K : Int) < (cs.length : Int) := by omega
  have hk0 : (0 : Int) ≤ (K : Int) := by omega
  obtain ⟨b', off, rfl, hbb, _⟩ := HS.out.rd K hat
  obtain ⟨C, hC⟩ : ∃ C, C = cs.getD K 0 := ⟨_, rfl⟩
  have hCr : 0 ≤ C ∧ C ≤ 255 := by rw [hC, getD_of_lt _ _ hat]; exact HS.out.oct _ (List.getElem_mem hat)
  have HC := Lib.hid hC
  obtain ⟨hC0, hC1⟩ := hCr
  have hxc : IntKind.i64.wrap (X + C) = X + C := IntWalk.i64_in _ (by omega)
  have hk2 : IntKind.i64.wrap ((K : Int) + 1) = (K : Int) + 1 := IntWalk.i64_in _ (by omega)
  clear hC hc2 hf2
  obtain ⟨W3, hW3⟩ : ∃ W3, W3 = w.setCell ⟨b, 2, none⟩ (.int .u64 H) := ⟨_, rfl⟩
  have HS3 : Hid (Die W3 b (some ⟨b', off, none⟩) cap cs (K : Int) H) := Lib.hid (by rw [hW3]; exact HS.out.set2 H)
  have HG3 : Hid (w.grownBy W3 (some b)) := Lib.hid (by rw [hW3]; exact grown_set (World.grownBy.refl w (some b)) 2 _)
  rw [← hW3]
  have c0 := HS3.out.c0
  have c1 := HS3.out.c1
  have f1 := HS3.out.f1
  have hcode : W3.cell? ⟨b', off + K, none⟩ = some (.int .u8 C) := by
    obtain ⟨b2, off2, e, _, hc⟩ := HS3.out.rd K hat
    cases e
    rw [hc, ← HC.out]
  clear hW3
  clear HS
  go_quiet (fail)
  clear c0 c1 f1 hcode
  obtain ⟨W4, hW4⟩ : ∃ W4, W4 = W3.drewN nq := ⟨_, rfl⟩
  have HS4 : Hid (Die W4 b (some ⟨b', off, none⟩) cap cs (K : Int) H) := Lib.hid (by rw [hW4]; exact HS3.out.drewN nq)
  have HG4 : Hid (w.grownBy W4 (some b)) := Lib.hid (by rw [hW4]; exact grown_drewN HG3.out nq)
  rw [← hW4]
  have c0 := HS4.out.c0
  have c1 := HS4.out.c1
  have f1 := HS4.out.f1
  have hcode : W4.cell? ⟨b', off + K, none⟩ = some (.int .u8 C) := by
    obtain ⟨b2, off2, e, _, hc⟩ := HS4.out.rd K hat
    cases e
    rw [hc, ← HC.out]
  clear hW4
  clear HS3 HG3
  go_wp2
  go_quiet (fail)
  clear c0 c1 f1 hcode
  obtain ⟨W5, hW5⟩ : ∃ W5, W5 = W4.drewN nq := ⟨_, rfl⟩
  have HS5 : Hid (Die W5 b (some ⟨b', off, none⟩) cap cs (K : Int) H) := Lib.hid (by rw [hW5]; exact HS4.out.drewN nq)
  have HG5 : Hid (w.grownBy W5 (some b)) := Lib.hid (by rw [hW5]; exact grown_drewN HG4.out nq)
  rw [← hW5]
  have c0 := HS5.out.c0
  have c1 := HS5.out.c1
  have f1 := HS5.out.f1
  have hcode : W5.cell? ⟨b', off + K, none⟩ = some (.int .u8 C) := by
    obtain ⟨b2, off2, e, _, hc⟩ := HS5.out.rd K hat
    cases e
    rw [hc, ← HC.out]
  clear hW5
  clear HS4 HG4
  have HF := Lib.hid (HS5.out.set1 ((K : Int) + 1) (by omega) (by omega))
  have HFG := Lib.hid (grown_set HG5.out 1 (.int .i64 ((K : Int) + 1)))
  go_wp2
  go_ret
  exact ⟨(X + C) % n, rfl, Int.emod_nonneg _ (by omega), Int.emod_lt_of_pos _ (by omega), ⟨_, _, _, _, _, HF.out⟩, HFG.out⟩
/-- What roll hands back. -/
def RollRes (w : World) (e : Ending) (w' : World) : Prop := e = .returned (.pointer (some ⟨w.heap.size, 0, none⟩)) ∧ DieAt w' w.heap.size ∧ Below w.heap.size w w'
set_option maxRecDepth 20000 in
set_option maxHeartbeats 2000000 in
theorem roll_any (v : Value) (cs : List Int) (seed : Int) (w : World) (hr : Rd .u8 w v cs) (hl : cs.length ≤ 4096) (ho : ∀ x ∈ cs, 0 ≤ x ∧ x ≤ 255) : Calls Try.prog 16 #[v, .int .u64 seed] w (RollRes w) := by
  obtain ⟨ca, cap, rfl, hlc, hlm, hn, hc⟩ := hr
  have hS : ∀ h0 : Int, Die (w.alloc (.cells #[.slice ca cs.length cap, .int .i64 0, .int .u64 h0] 65)) w.heap.size ca cap cs 0 h0 := by
    intro h0
    refine ⟨by simp, by simp, by simp, by simp, by simp, by omega, by omega, hl, hlc, hlm, fun i hi => ?_, ho⟩
    obtain ⟨b', off, e, hcell⟩ := hc i hi
    exact ⟨b', off, e, World.block_lt_of_cell? w _ hcell, keepA hcell _⟩
  have HS := Lib.hid hS
  have HB := Lib.hid (fun h0 : Int => (Below.refl w.heap.size w).alloc (Nat.le_refl _) (.cells #[.slice ca cs.length cap, .int .i64 0, .int .u64 h0] 65))
  have HO := Lib.hid ho
  unfold maxLen at hlm
  clear hS hc hn ho
  go_enter Try.func16, Try.ntmps16
  go_wp2
  go_loopw [6] (fun i wr => ∃ (k : Nat) (sd : Int), k ≤ cs.length ∧ i = .int .i64 k ∧ Die wr w.heap.size ca cap cs 0 sd ∧ Below w.heap.size w wr) (fun i _ => cs.length - (intOf i).toNat)
  case atStart => exact ⟨0, _, Nat.zero_le _, rfl, HS.out _, HB.out _⟩
  case round =>
    obtain ⟨k, sd, hk, rfl, hS, hb⟩ := hrel
    by_cases hlt : k < cs.length
    · have hk1 : (k : Int) < (cs.length : Int) := by omega
      have hk0 : (0 : Int) ≤ (k : Int) := by omega
      obtain ⟨C, hC⟩ : ∃ C, C = cs.getD k 0 := ⟨_, rfl⟩
      have hCr : 0 ≤ C ∧ C ≤ 255 := by rw [hC, getD_of_lt _ _ hlt]; exact HO.out _ (List.getElem_mem hlt)
      obtain ⟨b', off, rfl, hbb, hcode⟩ := hS.rd k hlt
      rw [← hC] at hcode
      obtain ⟨hC0, hC1⟩ := hCr
      have HF := Lib.hid (fun S : Int => (hS.below (B := w.heap.size + 1) ((Below.refl _ _).drew) (by omega) : Die wr.drew w.heap.size (some ⟨b', off, none⟩) cap cs 0 sd).set2 S)
      have HFB := Lib.hid (fun S : Int => (hb.drew).setCell (p := ⟨w.heap.size, 2, none⟩) (Nat.le_refl _) (.int .u64 S))
      have c2 : wr.drew.cell? ⟨w.heap.size, 2, none⟩ = some (.int .u64 sd) := hS.c2
      have f2 : wr.drew.frozen? ⟨w.heap.size, 2, none⟩ = false := hS.f2
      have hcode2 : wr.drew.cell? ⟨b', off + k, none⟩ = some (.int .u8 C) := hcode
      have hbb2 : ¬ (b' = w.heap.size) := by omega
      clear hS hb hC hcode
      go_wp2
      go_still_tail 15, (by kernel_rfl)
      change wpList _ _ _ _ _ wr.drew
      obtain ⟨w2, hw2⟩ : ∃ w2, w2 = wr.drew := ⟨_, rfl⟩
      rw [← hw2] at HF HFB c2 f2 hcode2 ⊢
      clear hw2
      go_wp2
      go_roundw
      case rel => exact ⟨k + 1, _, by omega, by go_num, HF.out _, HFB.out _⟩
      case measure => simp [intOf]; omega
    · have hkd : decide ((k : Int) < (cs.length : Int)) = false := decide_eq_false (by omega)
      have HF := Lib.hid hS
      have HFB := Lib.hid hb
      clear hS hb
      go_wp2
      go_ret
      exact ⟨rfl, ⟨_, _, _, _, _, HF.out⟩, HFB.out⟩
end Go.Proofs.Ytmlingcnbdpbmaa
