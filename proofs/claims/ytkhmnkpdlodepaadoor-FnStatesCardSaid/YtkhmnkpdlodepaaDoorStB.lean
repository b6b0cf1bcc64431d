/- Contracts: stateBits, l04Bits, StateToBits (program and reference). -/
import Derived.Test.YtkhmnkpdlodepaaDoorState
import Derived.Test.YtkhmnkpdlodepaaDoorNumber
import Derived.Deep.RegionHeld3
namespace Go.Proofs.YtkhmnkpdlodepaaDoor
open Go.RowKit
set_option linter.unusedVariables false
set_option linter.unusedSimpArgs false

theorem stB_bounds {t m r s v : Int} (h : stB t m r s v = true) : (0 ≤ t ∧ t ≤ 65535) ∧ (0 ≤ m ∧ m ≤ 15) ∧ (0 ≤ r ∧ r ≤ 15) ∧ (0 ≤ s ∧ s ≤ 255) ∧ (0 ≤ v ∧ v ≤ 4294967295) := by
  simp only [stB, Bool.and_eq_true] at h
  exact ⟨inB_yes h.1.1.1.1, inB_yes h.1.1.1.2, inB_yes h.1.1.2, inB_yes h.1.2, inB_yes h.2⟩
/-- The bits of a state. -/
def stBits (t m r s v : Int) : List Int := bitsOf t 16 ++ bitsOf m 4 ++ bitsOf r 4 ++ bitsOf s 8 ++ bitsOf v 32
theorem length_stBits (t m r s v : Int) : (stBits t m r s v).length = 64 := by simp [stBits, length_bitsOf]
theorem allIn_stBits (t m r s v : Int) : allIn (stBits t m r s v) 0 1 = true := by simp [stBits, allIn_append, allIn_bitsOf]
/-- StateToBits' answer. -/
def stToBits (t m r s v : Int) : List Int × Int := if stB t m r s v = false then ([], 1) else (stBits t m r s v, 0)
theorem stToBits_len (t m r s v : Int) : (stToBits t m r s v).1.length ≤ 16384 := by
  unfold stToBits
  split
  · simp
  · simp only [length_stBits]; omega
/-- A box of five cells stays as it is. -/
theorem box5 {w w1 : World} {a b c d e : Value} {T : TypeId} (hb : Below (w.heap.size + 1) (w.alloc (.cells #[a, b, c, d, e] T)) w1) :
    w1.cell? ⟨w.heap.size, 0, none⟩ = some a ∧ w1.cell? ⟨w.heap.size, 1, none⟩ = some b ∧ w1.cell? ⟨w.heap.size, 2, none⟩ = some c ∧ w1.cell? ⟨w.heap.size, 3, none⟩ = some d ∧ w1.cell? ⟨w.heap.size, 4, none⟩ = some e := by
  refine ⟨?_, ?_, ?_, ?_, ?_⟩
  · exact (hb.cell (p := ⟨w.heap.size, 0, none⟩) (by simp)).trans (by simp)
  · exact (hb.cell (p := ⟨w.heap.size, 1, none⟩) (by simp)).trans (by simp)
  · exact (hb.cell (p := ⟨w.heap.size, 2, none⟩) (by simp)).trans (by simp)
  · exact (hb.cell (p := ⟨w.heap.size, 3, none⟩) (by simp)).trans (by simp)
  · exact (hb.cell (p := ⟨w.heap.size, 4, none⟩) (by simp)).trans (by simp)
set_option maxHeartbeats 1000000 in
theorem stateBits_any (t m r s v : Int) (w : World) (h : stB t m r s v = true) : Calls Tryd.prog 28 #[.agg #[.int .i64 t, .int .i64 m, .int .i64 r, .int .i64 s, .int .i64 v]] w (OwnRes 2 w (stBits t m r s v)) := by
  obtain ⟨⟨ht1, ht2⟩, ⟨hm1, hm2⟩, ⟨hr1, hr2⟩, ⟨hs1, hs2⟩, ⟨hv1, hv2⟩⟩ := stB_bounds h
  clear h
  have HB0 := Lib.hid ((Below.refl w.heap.size w).alloc (Nat.le_refl _) (.cells #[.int .i64 t, .int .i64 m, .int .i64 r, .int .i64 s, .int .i64 v] 23))
  go_enter Tryd.func28, Tryd.ntmps28
  go_wp2_with fail
  refine (appendNumber_any _ [] (w.heap.size + 1) t 16 _ (Own.nil _ _ _) (by decide) (by simp) (by omega) (by omega) (by decide) (by decide)).mono ?_
  rintro e w1 ⟨v1, rfl, hO1, hb1⟩
  have HO1 := Lib.hid hO1
  have HB1 := Lib.hid hb1
  obtain ⟨c0, c1, c2, c3, c4⟩ := box5 hb1
  have hz1 := hb1.size
  simp only [World.size_alloc] at hz1
  clear hO1 hb1
  go_wp2_with fail
  refine (appendNumber_any _ _ (w.heap.size + 1) m 4 _ HO1.out (by simp [length_bitsOf]) (by omega) (by omega) (by omega) (by decide) (by decide)).mono ?_
  rintro e w2 ⟨v2, rfl, hO2, hb2⟩
  have HO2 := Lib.hid hO2
  have HB2 := Lib.hid (HB1.out.trans hb2)
  have hz2 := hb2.size
  clear c0 c1 c2 c3 c4
  obtain ⟨c0, c1, c2, c3, c4⟩ := box5 HB2.out
  clear hO2 hb2
  go_wp2_with fail
  refine (appendNumber_any _ _ (w.heap.size + 1) r 4 _ HO2.out (by simp [length_bitsOf]) (by omega) (by omega) (by omega) (by decide) (by decide)).mono ?_
  rintro e w3 ⟨v3, rfl, hO3, hb3⟩
  have HO3 := Lib.hid hO3
  have HB3 := Lib.hid (HB2.out.trans hb3)
  have hz3 := hb3.size
  clear c0 c1 c2 c3 c4
  obtain ⟨c0, c1, c2, c3, c4⟩ := box5 HB3.out
  clear hO3 hb3
  go_wp2_with fail
  refine (appendNumber_any _ _ (w.heap.size + 1) s 8 _ HO3.out (by simp [length_bitsOf]) (by omega) (by omega) (by omega) (by decide) (by decide)).mono ?_
  rintro e w4 ⟨v4, rfl, hO4, hb4⟩
  have HO4 := Lib.hid hO4
  have HB4 := Lib.hid (HB3.out.trans hb4)
  have hz4 := hb4.size
  clear c0 c1 c2 c3 c4
  obtain ⟨c0, c1, c2, c3, c4⟩ := box5 HB4.out
  clear hO4 hb4
  go_wp2_with fail
  refine (appendNumber_any _ _ (w.heap.size + 1) v 32 _ HO4.out (by simp [length_bitsOf]) (by omega) (by omega) (by omega) (by decide) (by decide)).mono ?_
  rintro e w5 ⟨v5, rfl, hO5, hb5⟩
  have HO5 := Lib.hid hO5
  have HB5 := Lib.hid (HB4.out.trans hb5)
  clear c0 c1 c2 c3 c4 hO5 hb5
  go_wp2_with fail
  go_ret
  exact ⟨_, rfl, HO5.out.mono (by omega), HB0.out.trans (HB5.out.mono (by omega))⟩
set_option maxHeartbeats 2000000 in
theorem l04Bits_any (t m r s v : Int) (w : World) (h : stB t m r s v = true) : Calls Tryd.prog 29 #[.agg #[.int .i64 t, .int .i64 m, .int .i64 r, .int .i64 s, .int .i64 v]] w (OwnRes 2 w (stBits t m r s v)) := by
  obtain ⟨⟨ht1, ht2⟩, ⟨hm1, hm2⟩, ⟨hr1, hr2⟩, ⟨hs1, hs2⟩, ⟨hv1, hv2⟩⟩ := stB_bounds h
  clear h
  have HB0 := Lib.hid ((Below.refl w.heap.size w).alloc (Nat.le_refl _) (.cells #[.int .i64 t, .int .i64 m, .int .i64 r, .int .i64 s, .int .i64 v] 23))
  have HX := Lib.hid ((Below.refl (w.heap.size + 1) (w.alloc (.cells #[.int .i64 t, .int .i64 m, .int .i64 r, .int .i64 s, .int .i64 v] 23))).drew)
  have tok1 : True := trivial
  have tok2 : True := trivial
  go_enter Tryd.func29, Tryd.ntmps29
  go_wp2
  go_region_held3 (fun w' => w'.cell? ⟨w.heap.size, 0, none⟩ = some (.int .i64 t) ∧ w'.cell? ⟨w.heap.size, 1, none⟩ = some (.int .i64 m)) (go_keep)
    ((first | (go_at_call 46; have _t := tok1; clear tok1 _t; refine (l01Append_any _ [] t 16 _ (Own.nil 2 _ 0).rd (by decide) (by omega) (by omega) (by decide) (by decide)).mono ?_; rintro e w1 ⟨v1, rfl, hO1, hb1⟩; have HO1 := Lib.hid hO1; have HB1 := Lib.hid (HX.out.trans (hb1.mono (by simp))); have hz1 := hb1.size; simp only [World.size_alloc, World.size_drew] at hz1; obtain ⟨c0, c1, c2, c3, c4⟩ := box5 HB1.out; clear hO1 hb1) | (go_at_call 46; have _t := tok2; clear tok2 _t; refine (l01Append_any _ _ m 4 _ HO1.out.rd (by simp [length_bitsOf]) (by omega) (by omega) (by decide) (by decide)).mono ?_; rintro e w2 ⟨v2, rfl, hO2, hb2⟩; have HO2 := Lib.hid hO2; have HB2 := Lib.hid (HB1.out.trans (hb2.mono (by omega))); have hz2 := hb2.size; clear c0 c1 c2 c3 c4; obtain ⟨c0, c1, c2, c3, c4⟩ := box5 HB2.out; clear hO2 hb2) | fail))
  have tok1 : True := trivial
  have tok2 : True := trivial
  have tok3 : True := trivial
  have HBD := Lib.hid HB2.out.drew
  go_wp2
  go_region_held3 (fun w' => w'.cell? ⟨w.heap.size, 2, none⟩ = some (.int .i64 r) ∧ w'.cell? ⟨w.heap.size, 3, none⟩ = some (.int .i64 s) ∧ w'.cell? ⟨w.heap.size, 4, none⟩ = some (.int .i64 v)) (go_keep)
    ((first | (go_at_call 46; have _t := tok1; clear tok1 _t; refine (l01Append_any _ _ r 4 _ HO2.out.drew.rd (by simp [length_bitsOf]) (by omega) (by omega) (by decide) (by decide)).mono ?_; rintro e w3 ⟨v3, rfl, hO3, hb3⟩; have HO3 := Lib.hid hO3; have HB3 := Lib.hid (HBD.out.trans (hb3.mono (by simp only [World.size_drew]; omega))); have hz3 := hb3.size; simp only [World.size_drew] at hz3; clear c0 c1 c2 c3 c4; obtain ⟨c0, c1, c2, c3, c4⟩ := box5 HB3.out; clear hO3 hb3) | (go_at_call 46; have _t := tok2; clear tok2 _t; refine (l01Append_any _ _ s 8 _ HO3.out.rd (by simp [length_bitsOf]) (by omega) (by omega) (by decide) (by decide)).mono ?_; rintro e w4 ⟨v4, rfl, hO4, hb4⟩; have HO4 := Lib.hid hO4; have HB4 := Lib.hid (HB3.out.trans (hb4.mono (by omega))); have hz4 := hb4.size; clear c0 c1 c2 c3 c4; obtain ⟨c0, c1, c2, c3, c4⟩ := box5 HB4.out; clear hO4 hb4) | (go_at_call 46; have _t := tok3; clear tok3 _t; refine (l01Append_any _ _ v 32 _ HO4.out.rd (by simp [length_bitsOf]) (by omega) (by omega) (by decide) (by decide)).mono ?_; rintro e w5 ⟨v5, rfl, hO5, hb5⟩; have HO5 := Lib.hid hO5; have HB5 := Lib.hid (HB4.out.trans (hb5.mono (by omega))); have hz5 := hb5.size; clear c0 c1 c2 c3 c4; obtain ⟨c0, c1, c2, c3, c4⟩ := box5 HB5.out; clear hO5 hb5) | fail))
  clear c0 c1 c2 c3 c4
  go_wp2
  go_ret
  exact ⟨_, rfl, HO5.out.mono (by omega), HB0.out.trans (HB5.out.mono (by omega))⟩
theorem stateToBits_any (t m r s v : Int) (w : World) : Calls Tryd.prog 11 #[.agg #[.int .i64 t, .int .i64 m, .int .i64 r, .int .i64 s, .int .i64 v]] w (OwnRes2 2 w (stToBits t m r s v).1 (stToBits t m r s v).2) := by
  have HB0 := Lib.hid ((Below.refl w.heap.size w).alloc (Nat.le_refl _) (.cells #[.int .i64 t, .int .i64 m, .int .i64 r, .int .i64 s, .int .i64 v] 23))
  cases h1 : stB t m r s v
  · have hf : stToBits t m r s v = ([], 1) := by simp [stToBits, h1]
    rw [hf]; clear hf
    go_enter Tryd.func11, Tryd.ntmps11
    go_wp2_with fail
    refine (isState_any _ _ _ _ _ _).mono ?_
    rintro e w1 ⟨rfl, hb⟩
    have HB := Lib.hid (HB0.out.trans (hb.mono (by simp)))
    clear hb
    go_wp2_with fail
    go_ret2
    exact ⟨_, rfl, Own.nil _ _ _, HB.out⟩
  have hf : stToBits t m r s v = (stBits t m r s v, 0) := by simp [stToBits, h1]
  rw [hf]; clear hf
  have H1 := Lib.hid h1
  go_enter Tryd.func11, Tryd.ntmps11
  go_wp2_with fail
  refine (isState_any _ _ _ _ _ _).mono ?_
  rintro e w1 ⟨rfl, hb⟩
  obtain ⟨c0, c1, c2, c3, c4⟩ := box5 (hb.mono (show w.heap.size + 1 ≤ _ by simp))
  have HB := Lib.hid (HB0.out.trans (hb.mono (by simp)))
  clear hb
  go_wp2_with fail
  refine (stateBits_any _ _ _ _ _ _ H1.out).mono ?_
  rintro e w2 ⟨v2, rfl, hO2, hb2⟩
  have HO2 := Lib.hid (hO2.mono HB.out.size)
  have HB2 := Lib.hid (bthen HB.out hb2)
  clear hO2 hb2 c0 c1 c2 c3 c4
  go_wp2_with fail
  go_ret2
  exact ⟨_, rfl, HO2.out, HB2.out⟩
theorem sStateToBits_any (t m r s v : Int) (w : World) : Calls Tryd.prog 12 #[.agg #[.int .i64 t, .int .i64 m, .int .i64 r, .int .i64 s, .int .i64 v]] w (OwnRes2 2 w (stToBits t m r s v).1 (stToBits t m r s v).2) := by
  have HB0 := Lib.hid ((Below.refl w.heap.size w).alloc (Nat.le_refl _) (.cells #[.int .i64 t, .int .i64 m, .int .i64 r, .int .i64 s, .int .i64 v] 23))
  cases h1 : stB t m r s v
  · have hf : stToBits t m r s v = ([], 1) := by simp [stToBits, h1]
    rw [hf]; clear hf
    go_enter Tryd.func12, Tryd.ntmps12
    go_wp2_with fail
    refine (sIsState_any _ _ _ _ _ _).mono ?_
    rintro e w1 ⟨rfl, hb⟩
    have HB := Lib.hid (HB0.out.trans (hb.mono (by simp)))
    clear hb
    go_wp2_with fail
    go_ret2
    exact ⟨_, rfl, Own.nil _ _ _, HB.out⟩
  have hf : stToBits t m r s v = (stBits t m r s v, 0) := by simp [stToBits, h1]
  rw [hf]; clear hf
  have H1 := Lib.hid h1
  go_enter Tryd.func12, Tryd.ntmps12
  go_wp2_with fail
  refine (sIsState_any _ _ _ _ _ _).mono ?_
  rintro e w1 ⟨rfl, hb⟩
  obtain ⟨c0, c1, c2, c3, c4⟩ := box5 (hb.mono (show w.heap.size + 1 ≤ _ by simp))
  have HB := Lib.hid (HB0.out.trans (hb.mono (by simp)))
  clear hb
  go_wp2_with fail
  refine (l04Bits_any _ _ _ _ _ _ H1.out).mono ?_
  rintro e w2 ⟨v2, rfl, hO2, hb2⟩
  have HO2 := Lib.hid (hO2.mono HB.out.size)
  have HB2 := Lib.hid (bthen HB.out hb2)
  clear hO2 hb2 c0 c1 c2 c3 c4
  go_wp2_with fail
  go_ret2
  exact ⟨_, rfl, HO2.out, HB2.out⟩
end Go.Proofs.YtkhmnkpdlodepaaDoor
