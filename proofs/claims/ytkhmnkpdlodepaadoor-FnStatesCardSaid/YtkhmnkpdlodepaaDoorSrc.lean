/- Contracts: the source of drawn numbers: l01From, l01Next. -/
import Derived.Test.YtkhmnkpdlodepaaDoorPlainL
import Derived.Test.YtkhmnkpdlodepaaDoorOwnS
import Derived.Test.YtkhmnkpdlodepaaDoorQuiet
import Derived.WalkSmall
import Derived.Deep.AppendLies
import Derived.Lib.Hide
import Derived.StillTailTactics
import Derived.Handy
import Derived.Test.YtkhmnkpdlodepaaDoorRows
namespace Go.Proofs.YtkhmnkpdlodepaaDoor
open Go.RowKit
set_option linter.unusedVariables false
set_option linter.unusedSimpArgs false

/-- Block b is a source: the code's slice, how much of it is used, the seed. -/
structure Src (w : World) (b : Nat) (ca : Option Addr) (cap : Nat) (cs : List Int) (at0 sd : Int) : Prop where
  c0 : w.cell? ⟨b, 0, none⟩ = some (.slice ca cs.length cap)
  c1 : w.cell? ⟨b, 1, none⟩ = some (.int .i64 at0)
  c2 : w.cell? ⟨b, 2, none⟩ = some (.int .i64 sd)
  f1 : w.frozen? ⟨b, 1, none⟩ = false
  f2 : w.frozen? ⟨b, 2, none⟩ = false
  a0 : 0 ≤ at0
  a1 : at0 ≤ cs.length
  s0 : 0 ≤ sd
  s1 : sd ≤ 2147483646
  l : cs.length ≤ 4096
  lc : cs.length ≤ cap
  lm : cap ≤ maxLen
  rd : ∀ i, i < cs.length → ∃ b' off, ca = some ⟨b', off, none⟩ ∧ b' < b ∧ w.cell? ⟨b', off + i, none⟩ = some (.int .u8 (cs.getD i 0))
  oct : ∀ x ∈ cs, 0 ≤ x ∧ x ≤ 255
def SrcAt (w : World) (b : Nat) : Prop := ∃ ca cap cs at0 sd, Src w b ca cap cs at0 sd

section
variable {w w' : World} {b : Nat} {ca : Option Addr} {cap : Nat} {cs : List Int} {at0 sd : Int}
theorem Src.lt (h : Src w b ca cap cs at0 sd) : b < w.heap.size := World.block_lt_of_cell? w _ h.c0
theorem Src.kept {row : Option Nat} (h : Src w b ca cap cs at0 sd) (hg : w.grownBy w' row) (hr : ∀ k, row = some k → b < k) : Src w' b ca cap cs at0 sd := by
  have hne : some b ≠ row := fun e => absurd (hr b e.symm) (Nat.lt_irrefl b)
  exact ⟨hg.cell h.c0 hne, hg.cell h.c1 hne, hg.cell h.c2 hne, (hg.frozen_far ⟨b, 1, none⟩ h.lt hne).trans h.f1, (hg.frozen_far ⟨b, 2, none⟩ h.lt hne).trans h.f2, h.a0, h.a1, h.s0, h.s1, h.l, h.lc, h.lm,
    fun i hi => by
      obtain ⟨b', off, e, hb, hc⟩ := h.rd i hi
      exact ⟨b', off, e, hb, hg.cell hc (fun e => absurd (hr b' e.symm) (by omega))⟩, h.oct⟩
theorem Src.below {B : Nat} (h : Src w b ca cap cs at0 sd) (hb : Below B w w') (hB : b < B) : Src w' b ca cap cs at0 sd := by
  refine ⟨(hb.cell (p := ⟨b, 0, none⟩) hB).trans h.c0, (hb.cell (p := ⟨b, 1, none⟩) hB).trans h.c1, (hb.cell (p := ⟨b, 2, none⟩) hB).trans h.c2, (hb.frozen (p := ⟨b, 1, none⟩) hB).trans h.f1, (hb.frozen (p := ⟨b, 2, none⟩) hB).trans h.f2, h.a0, h.a1, h.s0, h.s1, h.l, h.lc, h.lm,
    fun i hi => ?_, h.oct⟩
  obtain ⟨b', off, e, hlt, hc⟩ := h.rd i hi
  exact ⟨b', off, e, hlt, (hb.cell (p := ⟨b', off + i, none⟩) (show b' < B by omega)).trans hc⟩
theorem Src.drewN (h : Src w b ca cap cs at0 sd) (n : Nat) : Src (w.drewN n) b ca cap cs at0 sd := h.below (B := b + 1) (below_drewN (Below.refl _ _) n) (by omega)
theorem Src.set2 (h : Src w b ca cap cs at0 sd) (s : Int) (h0 : 0 ≤ s) (h1 : s ≤ 2147483646) : Src (w.setCell ⟨b, 2, none⟩ (.int .i64 s)) b ca cap cs at0 s := by
  refine ⟨?_, ?_, ?_, ?_, ?_, h.a0, h.a1, h0, h1, h.l, h.lc, h.lm, fun i hi => ?_, h.oct⟩
  · rw [World.cell?_setCell_other _ _ _ _ (by simp)]; exact h.c0
  · rw [World.cell?_setCell_other _ _ _ _ (by simp)]; exact h.c1
  · exact World.cell?_setCell_same' _ _ _ (by rw [h.c2]; rfl)
  · rw [World.frozen?_setCell]; exact h.f1
  · rw [World.frozen?_setCell]; exact h.f2
  · obtain ⟨b', off, e, hb, hc⟩ := h.rd i hi
    refine ⟨b', off, e, hb, ?_⟩
    rw [World.cell?_setCell_other _ _ _ _ (by simp <;> omega)]; exact hc
theorem Src.set1 (h : Src w b ca cap cs at0 sd) (s : Int) (h0 : 0 ≤ s) (h1 : s ≤ cs.length) : Src (w.setCell ⟨b, 1, none⟩ (.int .i64 s)) b ca cap cs s sd := by
  refine ⟨?_, ?_, ?_, ?_, ?_, h0, h1, h.s0, h.s1, h.l, h.lc, h.lm, fun i hi => ?_, h.oct⟩
  · rw [World.cell?_setCell_other _ _ _ _ (by simp)]; exact h.c0
  · exact World.cell?_setCell_same' _ _ _ (by rw [h.c1]; rfl)
  · rw [World.cell?_setCell_other _ _ _ _ (by simp)]; exact h.c2
  · rw [World.frozen?_setCell]; exact h.f1
  · rw [World.frozen?_setCell]; exact h.f2
  · obtain ⟨b', off, e, hb, hc⟩ := h.rd i hi
    refine ⟨b', off, e, hb, ?_⟩
    rw [World.cell?_setCell_other _ _ _ _ (by simp <;> omega)]; exact hc
end
theorem SrcAt.kept {w w' : World} {b : Nat} {row : Option Nat} (h : SrcAt w b) (hg : w.grownBy w' row) (hr : ∀ k, row = some k → b < k) : SrcAt w' b := by
  obtain ⟨ca, cap, cs, at0, sd, h⟩ := h
  exact ⟨ca, cap, cs, at0, sd, h.kept hg hr⟩
theorem SrcAt.below {w w' : World} {b B : Nat} (h : SrcAt w b) (hb : Below B w w') (hB : b < B) : SrcAt w' b := by
  obtain ⟨ca, cap, cs, at0, sd, h⟩ := h
  exact ⟨ca, cap, cs, at0, sd, h.below hb hB⟩
theorem SrcAt.alloc {w : World} {b : Nat} (h : SrcAt w b) (o : Obj) : SrcAt (w.alloc o) b := by
  obtain ⟨ca, cap, cs, at0, sd, h⟩ := h
  exact ⟨ca, cap, cs, at0, sd, h.below (B := w.heap.size) ((Below.refl w.heap.size w).alloc (Nat.le_refl _) o) h.lt⟩
theorem SrcAt.lt {w : World} {b : Nat} (h : SrcAt w b) : b < w.heap.size := by
  obtain ⟨ca, cap, cs, at0, sd, h⟩ := h
  exact h.lt
theorem grown_set {a w : World} {b : Nat} (h : a.grownBy w (some b)) (i : Nat) (v : Value) : a.grownBy (w.setCell ⟨b, i, none⟩ v) (some b) :=
  grownBy_trans h ⟨rfl, rfl, rfl, by simp, fun k _ hn => Below.heap_setCell w ⟨b, i, none⟩ v k (fun e => hn (by rw [e]))⟩
theorem grown_drewN {a w : World} {row : Option Nat} (h : a.grownBy w row) (n : Nat) : a.grownBy (w.drewN n) row := grownBy_trans h (grown_of_below (below_drewN (Below.refl _ _) n))
theorem grown_below {a w : World} {b B : Nat} (h : a.grownBy w (some b)) (hB : B ≤ b) (hs : B ≤ a.heap.size) : Below B a w := below_of_grown h hs (fun k e => by cases e; exact hB)
/-- A row of the call's own is not touched by what writes block b alone. -/
theorem Own.far {E : TypeId} {w w' : World} {B b : Nat} {v : Value} {xs : List Int} (h : Own E w B v xs) (hg : w.grownBy w' (some b)) (hB : b < B) : Own E w' B v xs := by
  refine h.kept hg ?_
  cases hv : v.ownBlock with
  | none => exact .inl rfl
  | some k =>
    refine .inr fun e => ?_
    have := (Own.between h k hv).1
    cases e
    omega

/-- What l01Next hands back. -/
def NextRes (b : Nat) (n : Int) (w : World) (e : Ending) (w' : World) : Prop := ∃ x : Int, e = .returned (.int .i64 x) ∧ 0 ≤ x ∧ (x < n ∨ x = 0) ∧ SrcAt w' b ∧ w.grownBy w' (some b)
set_option maxRecDepth 20000 in
set_option maxHeartbeats 2000000 in
theorem next_any (b : Nat) (n : Int) (w : World) (h : SrcAt w b) : Calls Tryd.prog 31 #[.pointer (some ⟨b, 0, none⟩), .int .i64 n] w (NextRes b n w) := by
  by_cases hn : n ≤ 1
  · have H := Lib.hid h
    clear h
    go_enter Tryd.func31, Tryd.ntmps31
    go_wp2
    go_ret
    exact ⟨0, rfl, by omega, .inr rfl, H.out, World.grownBy.refl _ _⟩
  obtain ⟨ca, cap, cs, at0, sd, hS⟩ := h
  obtain ⟨K, hK⟩ := Int.eq_ofNat_of_zero_le hS.a0
  subst hK
  have hs0 := hS.s0
  have hs1 := hS.s1
  obtain ⟨S, hSd⟩ : ∃ S, S = (sd * 48271 + 17) % 2147483647 := ⟨_, rfl⟩
  have hS0 : 0 ≤ S := by rw [hSd]; exact Int.emod_nonneg _ (by decide)
  have hS1 : S ≤ 2147483646 := by rw [hSd]; have := Int.emod_lt_of_pos (sd * 48271 + 17) (show (0 : Int) < 2147483647 by decide); omega
  obtain ⟨X, hX⟩ : ∃ X, X = S / 23 := ⟨_, rfl⟩
  have hX0 : 0 ≤ X := by omega
  have hX1 : X ≤ 93368854 := by omega
  have hc2 := hS.c2
  have hf2 := hS.f2
  have HS2 := Lib.hid (hS.set2 S hS0 hS1)
  have HG2 := Lib.hid (grown_set (World.grownBy.refl w (some b)) 2 (.int .i64 S))
  have hlen := hS.l
  have hlc := hS.lc
  have hlm := hS.lm
  have hat1 := hS.a1
  unfold maxLen at hlm
  have HS := Lib.hid hS
  have hSd2 := hSd.symm
  have hX2 := hX.symm
  have HX := Lib.hid hX
  clear hS hSd hX
  go_enter Tryd.func31, Tryd.ntmps31
  go_wp2
  by_cases hat : K < cs.length
  rotate_left
  · obtain ⟨W, hW⟩ : ∃ W, W = w.setCell ⟨b, 2, none⟩ (.int .i64 S) := ⟨_, rfl⟩
    rw [← hW] at HS2 HG2 ⊢
    have c0 := HS2.out.c0
    have c1 := HS2.out.c1
    have c2 := HS2.out.c2
    have hkk : decide ((K : Int) < (cs.length : Int)) = false := decide_eq_false (by omega)
    clear hW hc2 hf2 hSd2
    go_quiet (fail)
    go_wp2
    go_ret
    exact ⟨X % n, rfl, Int.emod_nonneg _ (by omega), .inl (Int.emod_lt_of_pos _ (by omega)), ⟨_, _, _, _, _, HS2.out.drewN _⟩, grown_drewN HG2.out _⟩
  have hk1 : (K : Int) < (cs.length : Int) := by omega
  have hk0 : (0 : Int) ≤ (K : Int) := by omega
  obtain ⟨b', off, rfl, hbb, _⟩ := HS2.out.rd K hat
  obtain ⟨C, hC⟩ : ∃ C, C = cs.getD K 0 := ⟨_, rfl⟩
  have hCr : 0 ≤ C ∧ C ≤ 255 := by rw [hC, getD_of_lt _ _ hat]; exact HS.out.oct _ (List.getElem_mem hat)
  have HC := Lib.hid hC
  obtain ⟨hC0, hC1⟩ := hCr
  have hxc : IntKind.i64.wrap (X + C) = X + C := IntWalk.i64_in _ (by omega)
  have hk2 : IntKind.i64.wrap ((K : Int) + 1) = (K : Int) + 1 := IntWalk.i64_in _ (by omega)
  have hk3 : IntKind.i64.wrap ((K : Int) + 1 - 1) = (K : Int) := by rw [IntWalk.i64_in _ (by omega)]; omega
  clear hC hc2 hf2 HS hSd2
  obtain ⟨W3, hW3⟩ : ∃ W3, W3 = w.setCell ⟨b, 2, none⟩ (.int .i64 S) := ⟨_, rfl⟩
  have HS3 : Hid (Src W3 b (some ⟨b', off, none⟩) cap cs (K : Int) S) := Lib.hid (by rw [hW3]; exact HS2.out)
  have HG3 : Hid (w.grownBy W3 (some b)) := Lib.hid (by rw [hW3]; exact HG2.out)
  rw [← hW3]
  have c0 := HS3.out.c0
  have c1 := HS3.out.c1
  have c2 := HS3.out.c2
  have f1 := HS3.out.f1
  have hcode : W3.cell? ⟨b', off + K, none⟩ = some (.int .u8 C) := by
    obtain ⟨b2, off2, e, _, hc⟩ := HS3.out.rd K hat
    cases e
    rw [hc, ← HC.out]
  clear hW3
  clear HS2 HG2
  go_quiet (fail)
  clear c0 c1 c2 f1 hcode
  obtain ⟨W4, hW4⟩ : ∃ W4, W4 = W3.drewN nq := ⟨_, rfl⟩
  have HS4 : Hid (Src W4 b (some ⟨b', off, none⟩) cap cs (K : Int) S) := Lib.hid (by rw [hW4]; exact HS3.out.drewN nq)
  have HG4 : Hid (w.grownBy W4 (some b)) := Lib.hid (by rw [hW4]; exact grown_drewN HG3.out nq)
  rw [← hW4]
  have c0 := HS4.out.c0
  have c1 := HS4.out.c1
  have c2 := HS4.out.c2
  have f1 := HS4.out.f1
  have hcode : W4.cell? ⟨b', off + K, none⟩ = some (.int .u8 C) := by
    obtain ⟨b2, off2, e, _, hc⟩ := HS4.out.rd K hat
    cases e
    rw [hc, ← HC.out]
  clear hW4
  clear HS3 HG3
  go_wp2
  go_quiet (fail)
  clear c0 c1 c2 f1 hcode
  obtain ⟨W5, hW5⟩ : ∃ W5, W5 = W4.drewN nq := ⟨_, rfl⟩
  have HS5 : Hid (Src W5 b (some ⟨b', off, none⟩) cap cs (K : Int) S) := Lib.hid (by rw [hW5]; exact HS4.out.drewN nq)
  have HG5 : Hid (w.grownBy W5 (some b)) := Lib.hid (by rw [hW5]; exact grown_drewN HG4.out nq)
  rw [← hW5]
  have c0 := HS5.out.c0
  have c1 := HS5.out.c1
  have c2 := HS5.out.c2
  have f1 := HS5.out.f1
  have hcode : W5.cell? ⟨b', off + K, none⟩ = some (.int .u8 C) := by
    obtain ⟨b2, off2, e, _, hc⟩ := HS5.out.rd K hat
    cases e
    rw [hc, ← HC.out]
  clear hW5
  clear HS4 HG4
  have HF := Lib.hid (HS5.out.set1 ((K : Int) + 1) (by omega) (by omega))
  have HFG := Lib.hid (grown_set HG5.out 1 (.int .i64 ((K : Int) + 1)))
  by_cases h256 : n ≤ 256
  · cases hpar : (((K : Int) + 1) % 2 == 0)
    · go_wp2
      go_ret
      exact ⟨(X + C) % n, rfl, Int.emod_nonneg _ (by omega), .inl (Int.emod_lt_of_pos _ (by omega)), ⟨_, _, _, _, _, HF.out⟩, HFG.out⟩
    · go_wp2
      clear c0 c1 c2 f1 hcode
      obtain ⟨W6, hW6⟩ : ∃ W6, W6 = W5.setCell ⟨b, 1, none⟩ (.int .i64 ((K : Int) + 1)) := ⟨_, rfl⟩
      have HS6 : Hid (Src W6 b (some ⟨b', off, none⟩) cap cs ((K : Int) + 1) S) := Lib.hid (by rw [hW6]; exact HF.out)
      have HG6 : Hid (w.grownBy W6 (some b)) := Lib.hid (by rw [hW6]; exact HFG.out)
      rw [← hW6]
      have c0 := HS6.out.c0
      have c1 := HS6.out.c1
      have c2 := HS6.out.c2
      have f1 := HS6.out.f1
      have hcode : W6.cell? ⟨b', off + K, none⟩ = some (.int .u8 C) := by
        obtain ⟨b2, off2, e, _, hc⟩ := HS6.out.rd K hat
        cases e
        rw [hc, ← HC.out]
      clear hW6
      clear HF HFG HS5 HG5
      go_quiet (fail)
      go_wp2
      go_ret
      exact ⟨C % n, rfl, Int.emod_nonneg _ (by omega), .inl (Int.emod_lt_of_pos _ (by omega)), ⟨_, _, _, _, _, HS6.out.drewN _⟩, grown_drewN HG6.out _⟩
  · have hd256 : decide (n ≤ 256) = false := decide_eq_false h256
    go_wp2
    go_ret
    exact ⟨(X + C) % n, rfl, Int.emod_nonneg _ (by omega), .inl (Int.emod_lt_of_pos _ (by omega)), ⟨_, _, _, _, _, HF.out⟩, HFG.out⟩
/-- What l01From hands back. -/
def FromRes (w : World) (e : Ending) (w' : World) : Prop := e = .returned (.pointer (some ⟨w.heap.size, 0, none⟩)) ∧ SrcAt w' w.heap.size ∧ Below w.heap.size w w'
set_option maxRecDepth 20000 in
set_option maxHeartbeats 2000000 in
theorem from_any (v : Value) (cs : List Int) (w : World) (hr : Rd .u8 w v cs) (hl : cs.length ≤ 4096) (ho : ∀ x ∈ cs, 0 ≤ x ∧ x ≤ 255) : Calls Tryd.prog 27 #[v] w (FromRes w) := by
  obtain ⟨ca, cap, rfl, hlc, hlm, hn, hc⟩ := hr
  have hS : Src (w.alloc (.cells #[.slice ca cs.length cap, .int .i64 0, .int .i64 40009] 64)) w.heap.size ca cap cs 0 40009 := by
    refine ⟨by simp, by simp, by simp, by simp, by simp, by omega, by omega, by omega, by omega, hl, hlc, hlm, fun i hi => ?_, ho⟩
    obtain ⟨b', off, e, hcell⟩ := hc i hi
    exact ⟨b', off, e, World.block_lt_of_cell? w _ hcell, keepA hcell _⟩
  have HS := Lib.hid hS
  have HB := Lib.hid ((Below.refl w.heap.size w).alloc (Nat.le_refl _) (.cells #[.slice ca cs.length cap, .int .i64 0, .int .i64 40009] 64))
  have HO := Lib.hid ho
  unfold maxLen at hlm
  clear hS hc hn ho
  go_enter Tryd.func27, Tryd.ntmps27
  go_wp2
  go_loopw [4] (fun i wr => ∃ (k : Nat) (sd : Int), k ≤ cs.length ∧ i = .int .i64 k ∧ Src wr w.heap.size ca cap cs 0 sd ∧ Below w.heap.size w wr) (fun i _ => cs.length - (intOf i).toNat)
  case atStart => exact ⟨0, 40009, Nat.zero_le _, rfl, HS.out, HB.out⟩
  case round =>
    obtain ⟨k, sd, hk, rfl, hS, hb⟩ := hrel
    by_cases hlt : k < cs.length
    · have hk1 : (k : Int) < (cs.length : Int) := by omega
      have hk0 : (0 : Int) ≤ (k : Int) := by omega
      by_cases h64 : k < 64
      · have hd64 : decide ((k : Int) < 64) = true := decide_eq_true (by omega)
        have hs0 := hS.s0
        have hs1 := hS.s1
        obtain ⟨C, hC⟩ : ∃ C, C = cs.getD k 0 := ⟨_, rfl⟩
        have hCr : 0 ≤ C ∧ C ≤ 255 := by rw [hC, getD_of_lt _ _ hlt]; exact HO.out _ (List.getElem_mem hlt)
        obtain ⟨b', off, rfl, hbb, hcode⟩ := hS.rd k hlt
        rw [← hC] at hcode
        obtain ⟨hC0, hC1⟩ := hCr
        obtain ⟨S, hSd⟩ : ∃ S, S = (sd * 53 + C) % 2147483647 := ⟨_, rfl⟩
        have hS0 : 0 ≤ S := by rw [hSd]; exact Int.emod_nonneg _ (by decide)
        have hS1 : S ≤ 2147483646 := by rw [hSd]; have := Int.emod_lt_of_pos (sd * 53 + C) (show (0 : Int) < 2147483647 by decide); omega
        have hSd2 := hSd.symm
        have hm1 : IntKind.i64.wrap (sd * 53) = sd * 53 := IntWalk.i64_in _ (by omega)
        have hm2 : IntKind.i64.wrap (sd * 53 + C) = sd * 53 + C := IntWalk.i64_in _ (by omega)
        have hm3 : (sd * 53 + C).tmod 2147483647 = S := by rw [Int.tmod_eq_emod_of_nonneg (by omega)]; exact hSd2
        have hm4 : IntKind.i64.wrap S = S := IntWalk.i64_in _ (by omega)
        have HF := Lib.hid ((hS.below (B := w.heap.size + 1) ((Below.refl _ _).drew) (by omega) : Src wr.drew w.heap.size (some ⟨b', off, none⟩) cap cs 0 sd).set2 S hS0 hS1)
        have HFB := Lib.hid ((hb.drew).setCell (p := ⟨w.heap.size, 2, none⟩) (Nat.le_refl _) (.int .i64 S))
        have c2 : wr.drew.cell? ⟨w.heap.size, 2, none⟩ = some (.int .i64 sd) := hS.c2
        have f2 : wr.drew.frozen? ⟨w.heap.size, 2, none⟩ = false := hS.f2
        have hcode2 : wr.drew.cell? ⟨b', off + k, none⟩ = some (.int .u8 C) := hcode
        have hbb2 : ¬ (b' = w.heap.size) := by omega
        clear hS hb hC hSd hcode
        go_wp2
        go_still_tail 15, (by kernel_rfl)
        change wpList _ _ _ _ _ wr.drew
        obtain ⟨w2, hw2⟩ : ∃ w2, w2 = wr.drew := ⟨_, rfl⟩
        rw [← hw2] at HF HFB c2 f2 hcode2 ⊢
        clear hw2
        go_wp2
        go_roundw
        case rel => exact ⟨k + 1, S, by omega, by go_num, HF.out, HFB.out⟩
        case measure => simp [intOf]; omega
      · have hd64 : decide ((k : Int) < 64) = false := decide_eq_false (by omega)
        have HF := Lib.hid hS
        have HFB := Lib.hid hb
        clear hS hb
        go_wp2
        go_ret
        exact ⟨rfl, ⟨_, _, _, _, _, HF.out⟩, HFB.out⟩
    · have hkd : decide ((k : Int) < (cs.length : Int)) = false := decide_eq_false (by omega)
      have HF := Lib.hid hS
      have HFB := Lib.hid hb
      clear hS hb
      go_wp2
      go_ret
      exact ⟨rfl, ⟨_, _, _, _, _, HF.out⟩, HFB.out⟩
end Go.Proofs.YtkhmnkpdlodepaaDoor
