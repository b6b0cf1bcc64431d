/- Contracts: drawn indices, drawn pairs of lists. -/
import Derived.Test.YtmlingcnbdpbmaaDrB
import Derived.Test.YtmlingcnbdpbmaaFlip
namespace Go.Proofs.Ytmlingcnbdpbmaa
open Go.RowKit
set_option linter.unusedVariables false
set_option linter.unusedSimpArgs false

/-- What a draw of indices hands back. -/
def DrawnI (b : Nat) (m : Nat) (w : World) (e : Ending) (w' : World) : Prop := ∃ v xs, e = .returned v ∧ Own 2 w' w.heap.size v xs ∧ xs.length ≤ m + 1 ∧ SrcAt w' b ∧ w.grownBy w' (some b)
/-- What a draw of two lists hands back. -/
def DrawnLL (w : World) (e : Ending) (w' : World) : Prop := ∃ u v xs ys, e = .returned (.tuple #[u, v]) ∧ Own 2 w' w.heap.size u xs ∧ Own 2 w' w.heap.size v ys ∧ xs.length ≤ 16384 ∧ ys.length ≤ 16384 ∧ Below w.heap.size w w'
set_option maxHeartbeats 4000000 in
theorem drawIdx_any (b m : Nat) (n : Int) (w : World) (h : SrcAt w b) (hm : m ≤ 1000) (hn0 : 0 ≤ n) (hn : n ≤ 16384) : Calls Try.prog 71 #[.pointer (some ⟨b, 0, none⟩), .int .i64 n, .int .i64 (m : Int)] w (DrawnI b m w) := by
  obtain ⟨i0, hi, hz0, hz1, hz2⟩ := info_parts infoD
  have hlt := h.lt
  have HS0 := Lib.hid (h.below (B := w.heap.size) ((Below.refl w.heap.size w).alloc (Nat.le_refl _) (.cells #[] 2)) hlt)
  have HM := Lib.hid (Own.made 2 w w.heap.size (Nat.le_refl _))
  have HG0 := Lib.hid (World.grownBy_alloc w (.cells #[] 2) (some b))
  clear h
  go_enter Try.func71, Try.ntmps71
  go_wp2_with fail
  all_goals
    refine (next_any b _ _ HS0.out).mono ?_
    rintro e w1 ⟨x, rfl, hx0, hx1, hS1, hg1⟩
    have hx2 : x ≤ 20000 := by omega
    have HS1 := Lib.hid hS1
    have HG1 := Lib.hid (grownBy_trans HG0.out hg1)
    have HO1 := Lib.hid (HM.out.far hg1 hlt)
    clear hS1 hg1 hx1
    go_wp2_with fail
    refine (next_any b _ _ HS1.out).mono ?_
    rintro e w2 ⟨q, rfl, hq0, hq1, hS1, hg1⟩
    obtain ⟨Q, rfl⟩ := Int.eq_ofNat_of_zero_le hq0
    have hQ : Q ≤ m := by omega
    replace HS1 := Lib.hid hS1
    replace HO1 := Lib.hid (HO1.out.far hg1 hlt)
    replace HG1 := Lib.hid (grownBy_trans HG1.out hg1)
    clear hS1 hg1 hq1 hq0
    go_wp2
    go_loopw [7, 8, 9] (fun u a c wr => ∃ (k : Nat) (v0 : Value) (y : Int) (xs : List Int), v0 = u ∧ a = .int .i64 y ∧ c = .int .i64 k ∧ 0 ≤ y ∧ y ≤ 20000 ∧ xs.length + k ≤ m ∧ Own 2 wr w.heap.size v0 xs ∧ SrcAt wr b ∧ w.grownBy wr (some b)) (fun _ _ c _ => (intOf c).toNat)
    case atStart => exact ⟨Q, _, x, [], rfl, rfl, rfl, hx0, hx2, by simpa using hQ, HO1.out, HS1.out, HG1.out⟩
    case round =>
      clear HO1 HS1 HG1 hQ hx0 hx2
      obtain ⟨k, v0, y, xs, rfl, rfl, rfl, hy0, hy1, hlen, hO, hS, hg⟩ := hrel
      have HS := Lib.hid hS
      have HO := Lib.hid hO
      have HG := Lib.hid hg
      have HL := Lib.hid hlen
      have hkb : k ≤ 1000 := by omega
      have hsz := hg.size
      clear hO hS hg hlen
      by_cases hgo : 0 < k ∧ y < n
      · obtain ⟨hk, hyn⟩ := hgo
        obtain ⟨c, rfl⟩ : ∃ c, k = c + 1 := ⟨k - 1, by omega⟩
        have hd1 : decide (y < n) = true := decide_eq_true hyn
        go_wp2_with (at_builtin; refine wpList_app1 Try.underlying26 hi hz0 hz1 hz2 rfl _ _ rfl wr y w.heap.size v0 xs rfl rfl HO.out (by have := HL.out; omega) hsz ?_)
        intro v3 w3 hO3 hb3 _
        have HO3 := Lib.hid hO3
        have HG3 := Lib.hid (grown_then HG.out hb3)
        have HS3 := Lib.hid (HS.out.below hb3 hlt)
        clear hO3 hb3
        go_wp2_with fail
        refine (next_any b _ _ HS3.out).mono ?_
        rintro e w4 ⟨z, rfl, hz0', hz1', hS4, hg4⟩
        have hz3 : z ≤ 5 := by omega
        have HO4 := Lib.hid (HO3.out.far hg4 hlt)
        have HG4 := Lib.hid (grownBy_trans HG3.out hg4)
        have HS4 := Lib.hid hS4
        clear hg4 hS4 hz1'
        go_wp2
        go_roundw
        case rel => exact ⟨c, v3, y + 1 + z, xs ++ [y], rfl, rfl, by go_num, by omega, by omega, by have := HL.out; simp; omega, HO4.out, HS4.out, HG4.out⟩
        case measure => simp [intOf]
      · have hk : k = 0 ∨ ¬ y < n := by omega
        rcases hk with rfl | hyn
        all_goals
          try have hd1 : decide (y < n) = false := decide_eq_false hyn
          try have hd2 : ¬ (y < n) := hyn
          clear hgo
          go_wp2_with fail
          all_goals
            refine (next_any b _ _ HS.out).mono ?_
            rintro e w2 ⟨z, rfl, hz0', hz1', hS2, hg2⟩
            have HO2 := Lib.hid (HO.out.far hg2 hlt)
            have HG2 := Lib.hid (grownBy_trans HG.out hg2)
            have HS2 := Lib.hid hS2
            have hsz2 := HG2.out.size
            clear hg2 hS2
            by_cases hc0 : z = 0
            · subst hc0
              go_wp2_with (at_builtin; refine wpList_app1 Try.underlying26 hi hz0 hz1 hz2 rfl _ _ rfl w2 n w.heap.size v0 xs rfl rfl HO2.out (by have := HL.out; omega) hsz2 ?_)
              intro v5 w5 hO5 hb5 _
              have HO5 := Lib.hid hO5
              have HG5 := Lib.hid (grown_then HG2.out hb5)
              have HS5 := Lib.hid (HS2.out.below hb5 hlt)
              clear hO5 hb5
              go_wp2
              go_ret
              exact ⟨v5, xs ++ [n], rfl, HO5.out, by have := HL.out; simp; omega, HS5.out, HG5.out⟩
            · have hz0b : (z == 0) = false := by simp [hc0]
              by_cases hc1 : z = 1
              · subst hc1
                go_wp2_with (at_builtin; refine wpList_app1 Try.underlying26 hi hz0 hz1 hz2 rfl _ _ rfl w2 0 w.heap.size v0 xs rfl rfl HO2.out (by have := HL.out; omega) hsz2 ?_)
                intro v5 w5 hO5 hb5 _
                have HO5 := Lib.hid hO5
                have HG5 := Lib.hid (grown_then HG2.out hb5)
                have HS5 := Lib.hid (HS2.out.below hb5 hlt)
                clear hO5 hb5
                go_wp2
                go_ret
                exact ⟨v5, xs ++ [0], rfl, HO5.out, by have := HL.out; simp; omega, HS5.out, HG5.out⟩
              · have hz1b : (z == 1) = false := by simp [hc1]
                clear hc0 hc1
                go_wp2
                go_ret
                exact ⟨v0, xs, rfl, HO2.out, by have := HL.out; omega, HS2.out, HG2.out⟩
set_option maxHeartbeats 4000000 in
theorem drawDifferingBits_any (v : Value) (cs : List Int) (w : World) (hr : Rd .u8 w v cs) (hl : cs.length ≤ 4096) (ho : ∀ x ∈ cs, 0 ≤ x ∧ x ≤ 255) : Calls Try.prog 51 #[v] w (DrawnLL w) := by
  have HR := Lib.hid hr
  have HO8 := Lib.hid ho
  clear hr ho
  go_enter Try.func51, Try.ntmps51
  go_wp2_with fail
  refine (from_any _ cs _ HR.out hl HO8.out).mono ?_
  rintro e w1 ⟨rfl, hS, hb⟩
  have HS := Lib.hid hS
  have HB := Lib.hid hb
  clear hS hb
  go_wp2_with fail
  refine (drawBits_any w.heap.size 20 _ HS.out (by decide)).mono ?_
  rintro e w2 ⟨va, xs, rfl, hO, hshxs, hS, hg⟩
  have HOxs := Lib.hid (hO.mono (show w.heap.size + 1 ≤ _ from HS.out.lt))
  have HSHxs := Lib.hid hshxs
  clear hshxs
  replace HS := Lib.hid hS
  clear hS hO
  replace HB := Lib.hid (HB.out.trans (grown_below hg (Nat.le_refl _) HB.out.size))
  clear hg
  obtain ⟨aa, ca, rfl⟩ := HOxs.out.slice
  have hxl : xs.length ≤ 9000 := HSHxs.out.len (by decide)
  go_wp2_with fail
  refine (next_any w.heap.size _ _ HS.out).mono ?_
  rintro e w3 ⟨z, rfl, hz0, hz1, hS, hg⟩
  replace HS := Lib.hid hS
  clear hS
  replace HOxs := Lib.hid (HOxs.out.far hg (Nat.lt_succ_self _))
  replace HB := Lib.hid (HB.out.trans (grown_below hg (Nat.le_refl _) HB.out.size))
  clear hg
  by_cases hz : z = 0
  · subst hz
    go_wp2_with fail
    refine (drawBits_any w.heap.size 20 _ HS.out (by decide)).mono ?_
    rintro e w4 ⟨vb, ys, rfl, hO, hshys, hS, hg⟩
    have HOys := Lib.hid (hO.mono (show w.heap.size + 1 ≤ _ from HS.out.lt))
    have HSHys := Lib.hid hshys
    clear hshys
    replace HS := Lib.hid hS
    clear hS hO
    replace HOxs := Lib.hid (HOxs.out.far hg (Nat.lt_succ_self _))
    replace HB := Lib.hid (HB.out.trans (grown_below hg (Nat.le_refl _) HB.out.size))
    clear hg
    have hyl : ys.length ≤ 9000 := HSHys.out.len (by decide)
    go_wp2_with fail
    go_ret2
    exact ⟨_, _, xs, ys, rfl, HOxs.out.mono (by omega), HOys.out.mono (by omega), by omega, by omega, HB.out⟩
  have hzb : (z == 0) = false := by simp [hz]
  clear hz
  go_wp2_with fail
  refine (drawIdx_any w.heap.size 5 _ _ HS.out (by decide) (by omega) (by omega)).mono ?_
  rintro e w4 ⟨vb, is, rfl, hO, hilis, hS, hg⟩
  have HOis := Lib.hid (hO.mono (show w.heap.size + 1 ≤ _ from HS.out.lt))
  replace HS := Lib.hid hS
  clear hS hO
  replace HOxs := Lib.hid (HOxs.out.far hg (Nat.lt_succ_self _))
  replace HB := Lib.hid (HB.out.trans (grown_below hg (Nat.le_refl _) HB.out.size))
  clear hg
  obtain ⟨X, hX⟩ : ∃ X, X = flipA xs is := ⟨_, rfl⟩
  have hXl : X.1.length ≤ 16384 := by rw [hX]; exact flipA_len _ _
  have HX := Lib.hid hX
  clear hX
  go_wp2_with fail
  refine (sFlipBits_any _ _ xs is _ HOxs.out.rd HOis.out.rd).mono ?_
  rw [← HX.out]
  rintro e w9 ⟨vc, rfl, hO9, hb9⟩
  have HOys := Lib.hid (hO9.mono HB.out.size)
  replace HOxs := Lib.hid (HOxs.out.below hb9)
  replace HB := Lib.hid (bthen HB.out hb9)
  clear hO9 hb9
  by_cases hbad : X.2 = 0
  · have hbb : (X.2 != 0) = false := by simp [hbad]
    clear hbad
    go_wp2_with fail
    go_ret2
    exact ⟨_, _, xs, X.1, rfl, HOxs.out.mono (by omega), HOys.out, by omega, hXl, HB.out⟩
  · have hbb : (X.2 != 0) = true := by simpa using hbad
    clear hbad
    go_wp2_with fail
    go_ret2
    exact ⟨_, _, xs, xs, rfl, HOxs.out.mono (by omega), HOxs.out.mono (by omega), by omega, by omega, HB.out⟩
theorem drawSumErrors_any (v : Value) (cs : List Int) (w : World) (hr : Rd .u8 w v cs) (hl : cs.length ≤ 4096) (ho : ∀ x ∈ cs, 0 ≤ x ∧ x ≤ 255) : Calls Try.prog 21 #[v] w (DrawnLL w) := by
  have HR := Lib.hid hr
  have HO8 := Lib.hid ho
  clear hr ho
  go_enter Try.func21, Try.ntmps21
  go_wp2_with fail
  refine (drawDifferingBits_any _ cs _ HR.out hl HO8.out).mono ?_
  rintro e w1 ⟨u, v, xs, ys, rfl, hx, hy, h1, h2, hb⟩
  have HX := Lib.hid hx
  have HY := Lib.hid hy
  have HB := Lib.hid hb
  clear hx hy hb
  go_wp2_with fail
  go_ret2
  exact ⟨_, _, xs, ys, rfl, HX.out, HY.out, h1, h2, HB.out⟩
end Go.Proofs.Ytmlingcnbdpbmaa
