/- Contracts: drawn lists: l01DrawBits, l01DrawBytes. -/
import Derived.Test.YtmlingcnbdpbmaaSrc
import Derived.Test.YtmlingcnbdpbmaaApps
import Derived.OwnWalk
namespace Go.Proofs.Ytmlingcnbdpbmaa
open Go.RowKit
set_option linter.unusedVariables false
set_option linter.unusedSimpArgs false

theorem infoD : (Try.prog.info? 2).map (fun i => (i.zero, i.size, i.bytes)) = some (some (.int .i64 0), 1, 8) := by kernel_rfl
theorem grown_then {w w2 w3 : World} {b : Nat} (h : w.grownBy w2 (some b)) (hb : Below w.heap.size w2 w3) : w.grownBy w3 (some b) :=
  ⟨hb.os.trans h.os, hb.tape.trans h.tape, hb.output.trans h.output, Nat.le_trans h.size hb.size, fun k hk hn => (hb.block k hk).trans (h.block k hk hn)⟩
/-- A list that was drawn: short, or zeros alone. -/
def Short (xs : List Int) (m : Nat) : Prop := xs.length ≤ m + 1 ∨ ∃ k, k ≤ 9000 ∧ xs = List.replicate k 0
theorem Short.len {xs : List Int} {m : Nat} (h : Short xs m) (hm : m ≤ 8000) : xs.length ≤ 9000 := by
  rcases h with h | ⟨k, h, rfl⟩
  · omega
  · simpa using h
/-- What a draw of a list hands back. -/
def DrawnL (b : Nat) (m : Nat) (w : World) (e : Ending) (w' : World) : Prop := ∃ v xs, e = .returned v ∧ Own 2 w' w.heap.size v xs ∧ Short xs m ∧ SrcAt w' b ∧ w.grownBy w' (some b)
theorem lit2 (w : World) (x y : Value) (E : TypeId) (K : Nat) (h : K < 2) : ∃ u, (w.alloc (.cells #[x, y] E)).cell? ⟨w.heap.size, K, none⟩ = some u ∧ (u = x ∨ u = y) := by
  match K, h with
  | 0, _ => exact ⟨x, by simp, .inl rfl⟩
  | 1, _ => exact ⟨y, by simp, .inr rfl⟩
theorem lit3 (w : World) (x y z : Value) (E : TypeId) (K : Nat) (h : K < 3) : ∃ u, (w.alloc (.cells #[x, y, z] E)).cell? ⟨w.heap.size, K, none⟩ = some u ∧ (u = x ∨ u = y ∨ u = z) := by
  match K, h with
  | 0, _ => exact ⟨x, by simp, .inl rfl⟩
  | 1, _ => exact ⟨y, by simp, .inr (.inl rfl)⟩
  | 2, _ => exact ⟨z, by simp, .inr (.inr rfl)⟩
theorem lit4 (w : World) (x y z t : Value) (E : TypeId) (K : Nat) (h : K < 4) : ∃ u, (w.alloc (.cells #[x, y, z, t] E)).cell? ⟨w.heap.size, K, none⟩ = some u ∧ (u = x ∨ u = y ∨ u = z ∨ u = t) := by
  match K, h with
  | 0, _ => exact ⟨x, by simp, .inl rfl⟩
  | 1, _ => exact ⟨y, by simp, .inr (.inl rfl)⟩
  | 2, _ => exact ⟨z, by simp, .inr (.inr (.inl rfl))⟩
  | 3, _ => exact ⟨t, by simp, .inr (.inr (.inr rfl))⟩
theorem int2 (w : World) (x y : Int) (E : TypeId) (K : Nat) (h : K < 2) : ∃ u : Int, (w.alloc (.cells #[.int .i64 x, .int .i64 y] E)).cell? ⟨w.heap.size, K, none⟩ = some (.int .i64 u) ∧ (u = x ∨ u = y) := by
  obtain ⟨u, h1, rfl | rfl⟩ := lit2 w (.int .i64 x) (.int .i64 y) E K h
  · exact ⟨x, h1, .inl rfl⟩
  · exact ⟨y, h1, .inr rfl⟩
theorem int3 (w : World) (x y z : Int) (E : TypeId) (K : Nat) (h : K < 3) : ∃ u : Int, (w.alloc (.cells #[.int .i64 x, .int .i64 y, .int .i64 z] E)).cell? ⟨w.heap.size, K, none⟩ = some (.int .i64 u) ∧ (u = x ∨ u = y ∨ u = z) := by
  obtain ⟨u, h1, rfl | rfl | rfl⟩ := lit3 w (.int .i64 x) (.int .i64 y) (.int .i64 z) E K h
  · exact ⟨x, h1, .inl rfl⟩
  · exact ⟨y, h1, .inr (.inl rfl)⟩
  · exact ⟨z, h1, .inr (.inr rfl)⟩
theorem int4 (w : World) (x y z t : Int) (E : TypeId) (K : Nat) (h : K < 4) : ∃ u : Int, (w.alloc (.cells #[.int .i64 x, .int .i64 y, .int .i64 z, .int .i64 t] E)).cell? ⟨w.heap.size, K, none⟩ = some (.int .i64 u) ∧ (u = x ∨ u = y ∨ u = z ∨ u = t) := by
  obtain ⟨u, h1, rfl | rfl | rfl | rfl⟩ := lit4 w (.int .i64 x) (.int .i64 y) (.int .i64 z) (.int .i64 t) E K h
  · exact ⟨x, h1, .inl rfl⟩
  · exact ⟨y, h1, .inr (.inl rfl)⟩
  · exact ⟨z, h1, .inr (.inr (.inl rfl))⟩
  · exact ⟨t, h1, .inr (.inr (.inr rfl))⟩
/-- A cell of another block than b is as it was behind a draw. -/
theorem far_cell {w w' : World} {b g o : Nat} {v : Value} (h : w.cell? ⟨g, o, none⟩ = some v) (hg : w.grownBy w' (some b)) (hne : b < g) : w'.cell? ⟨g, o, none⟩ = some v :=
  hg.cell h (fun e => by have h2 : g = b := Option.some.inj e; omega)
theorem own_zeros {E : TypeId} {w' : World} {B g n : Nat} (h : w'.ownsRow B E 1 (.slice (some ⟨g, 0, none⟩) n n) n (madeCells #[Value.int IntKind.i64 0] n).toList) : Own E w' B (.slice (some ⟨g, 0, none⟩) n n) (List.replicate n 0) := by
  unfold Own
  have e : (madeCells #[Value.int IntKind.i64 0] n).toList = (List.replicate n 0).map (Value.int .i64) := by simp [toList_madeCells_one]
  rw [List.length_replicate, ← e]; exact h
set_option maxHeartbeats 2000000 in
theorem drawBits_any (b m : Nat) (w : World) (h : SrcAt w b) (hm : m ≤ 1000) : Calls Try.prog 69 #[.pointer (some ⟨b, 0, none⟩), .int .i64 (m : Int)] w (DrawnL b m w) := by
  obtain ⟨i0, hi, hz0, hz1, hz2⟩ := info_parts infoD
  have hlt := h.lt
  have HS0 := Lib.hid (h.below (B := w.heap.size) ((Below.refl w.heap.size w).alloc (Nat.le_refl _) (.cells #[] 2)) hlt)
  have HM := Lib.hid (Own.made 2 w w.heap.size (Nat.le_refl _))
  have HG0 := Lib.hid (World.grownBy_alloc w (.cells #[] 2) (some b))
  clear h
  go_enter Try.func69, Try.ntmps69
  go_wp2_with fail
  refine (next_any b _ _ HS0.out).mono ?_
  rintro e w1 ⟨x, rfl, hx0, hx1, hS1, hg1⟩
  obtain ⟨X, rfl⟩ := Int.eq_ofNat_of_zero_le hx0
  have HS1 := Lib.hid hS1
  have HG1 := Lib.hid (grownBy_trans HG0.out hg1)
  have HO1 := Lib.hid (HM.out.far hg1 hlt)
  have hXm : X ≤ m := by omega
  clear hS1 hg1 hx1 hx0
  go_wp2
  go_loopw [5, 6] (fun u n wr => ∃ (c : Nat) (v0 : Value) (xs : List Int), v0 = u ∧ n = .int .i64 c ∧ xs.length + c ≤ m ∧ Own 2 wr w.heap.size v0 xs ∧ SrcAt wr b ∧ w.grownBy wr (some b)) (fun _ n _ => (intOf n).toNat)
  case atStart => exact ⟨X, _, [], rfl, rfl, by simpa using hXm, HO1.out, HS1.out, HG1.out⟩
  case round =>
    clear HO1 HS1 HG1 hXm
    obtain ⟨c, v0, xs, rfl, rfl, hlen, hO, hS, hg⟩ := hrel
    have HS := Lib.hid hS
    have HO := Lib.hid hO
    have HG := Lib.hid hg
    have HL := Lib.hid hlen
    have hcb : c ≤ 1000 := by omega
    clear hO hS hg hlen
    cases c with
    | succ c =>
      go_wp2_with fail
      refine (next_any b _ _ HS.out).mono ?_
      rintro e w2 ⟨y, rfl, hy0, hy1, hS2, hg2⟩
      have HO2 := Lib.hid (HO.out.far hg2 hlt)
      have HG2 := Lib.hid (grownBy_trans HG.out hg2)
      have HS2 := Lib.hid hS2
      have hsz := HG2.out.size
      clear hg2 hS2
      go_wp2_with (at_builtin; refine wpList_app1 Try.underlying26 hi hz0 hz1 hz2 rfl _ _ rfl w2 y w.heap.size v0 xs rfl rfl HO2.out (by have := HL.out; omega) hsz ?_)
      intro v3 w3 hO3 hb3 _
      have HO3 := Lib.hid hO3
      have HG3 := Lib.hid (grown_then HG2.out hb3)
      have HS3 := Lib.hid (HS2.out.below hb3 hlt)
      clear hO3 hb3
      go_wp2
      go_roundw
      case rel => exact ⟨c, v3, xs ++ [y], rfl, by go_num, by have := HL.out; simp; omega, HO3.out, HS3.out, HG3.out⟩
      case measure => simp [intOf]
    | zero =>
      go_wp2_with fail
      refine (next_any b _ _ HS.out).mono ?_
      rintro e w2 ⟨z, rfl, hz0', hz1', hS2, hg2⟩
      have HO2 := Lib.hid (HO.out.far hg2 hlt)
      have HG2 := Lib.hid (grownBy_trans HG.out hg2)
      have HS2 := Lib.hid hS2
      have hsz := HG2.out.size
      clear hg2 hS2
      by_cases hc0 : z = 0
      · subst hc0
        have HS3 := Lib.hid (HS2.out.below (B := w2.heap.size) ((Below.refl w2.heap.size w2).alloc (Nat.le_refl _) (.cells #[.int .i64 2, .int .i64 (-1)] 2)) HS2.out.lt)
        go_wp2_with fail
        refine (next_any b _ _ HS3.out).mono ?_
        rintro e w4 ⟨k, rfl, hk0, hk1, hS4, hg4⟩
        obtain ⟨K, rfl⟩ := Int.eq_ofNat_of_zero_le hk0
        have hK2 : K < 2 := by omega
        have hkx : (K : Int) < 2 := by omega
        obtain ⟨y, hy, _⟩ := int2 w2 (2) (-1) 2 K hK2
        have hy4 := far_cell hy hg4 (by omega)
        have HO4 := Lib.hid ((HO2.out.alloc (.cells #[.int .i64 2, .int .i64 (-1)] 2)).far hg4 hlt)
        have HG4 := Lib.hid (grownBy_trans (grown_then HG2.out ((Below.refl w.heap.size w2).alloc hsz (.cells #[.int .i64 2, .int .i64 (-1)] 2))) hg4)
        have HS4 := Lib.hid hS4
        have hsz4 := HG4.out.size
        clear hg4 hS4 hy hk1
        go_wp2_with (at_builtin; refine wpList_app1 Try.underlying26 hi hz0 hz1 hz2 rfl _ _ rfl w4 y w.heap.size v0 xs rfl rfl HO4.out (by have := HL.out; omega) hsz4 ?_)
        intro v5 w5 hO5 hb5 _
        have HO5 := Lib.hid hO5
        have HG5 := Lib.hid (grown_then HG4.out hb5)
        have HS5 := Lib.hid (HS4.out.below hb5 hlt)
        clear hO5 hb5
        go_wp2
        go_ret
        exact ⟨v5, xs ++ [y], rfl, HO5.out, .inl (by have := HL.out; simp; omega), HS5.out, HG5.out⟩
      · have hz0b : (z == 0) = false := by simp [hc0]
        by_cases hc1 : z = 1
        · subst hc1
          go_wp2_with fail
          refine (next_any b _ _ HS2.out).mono ?_
          rintro e w4 ⟨k, rfl, hk0, hk1, hS4, hg4⟩
          obtain ⟨K, rfl⟩ := Int.eq_ofNat_of_zero_le hk0
          have hK3 : K < 3 := by omega
          have HG4 := Lib.hid (grownBy_trans HG2.out hg4)
          have HS4 := Lib.hid hS4
          have hsz4 := HG4.out.size
          clear hg4 hS4
          go_wp2_with (at_make; refine wpList_make_full _ rfl _ _ 26 rfl w.heap.size 2 i0 (.int .i64 0) 1 Try.underlying26 hi hz0 hz1 .i64 .i64 (8192 + (K : Int) - 1) (8192 + (K : Int) - 1) (8191 + K) rfl rfl (by omega) (by omega) (by rw [hz2]; omega) (by unfold maxLen; omega) hsz4 ?_)
          intro w5 hown hgrow
          have HO5 := Lib.hid (own_zeros hown)
          have HB5 := Lib.hid (below_of_grown hgrow hsz4 (fun k h => by cases h))
          have HG5 := Lib.hid (grown_then HG4.out HB5.out)
          have HS5 := Lib.hid (HS4.out.below HB5.out hlt)
          clear hown hgrow
          go_wp2
          go_ret
          exact ⟨_, _, rfl, HO5.out, .inr ⟨_, by omega, rfl⟩, HS5.out, HG5.out⟩
        · have hz1b : (z == 1) = false := by simp [hc1]
          clear hc0 hc1
          go_wp2
          go_ret
          exact ⟨v0, xs, rfl, HO2.out, .inl (by have := HL.out; omega), HS2.out, HG2.out⟩
end Go.Proofs.Ytmlingcnbdpbmaa
