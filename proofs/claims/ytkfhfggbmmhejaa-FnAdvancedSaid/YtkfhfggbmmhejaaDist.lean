/- Contracts: StateDistance (program and reference). -/
import Derived.Test.YtkfhfggbmmhejaaStB
import Derived.Test.YtkfhfggbmmhejaaDiff
import Derived.Test.YtkfhfggbmmhejaaOwnS
import Derived.Deep.RegionHeld3
namespace Go.Proofs.Ytkfhfggbmmhejaa
open Go.RowKit
set_option linter.unusedVariables false
set_option linter.unusedSimpArgs false

/-- StateDistance's answer. -/
def distB (t m r s v t2 m2 r2 s2 v2 : Int) : Int × Int := if (stB t m r s v && stB t2 m2 r2 s2 v2) = true then (((diffs (stBits t m r s v) (stBits t2 m2 r2 s2 v2)).length : Int), 0) else (0, 1)
theorem len_st (t m r s v t2 m2 r2 s2 v2 : Int) : (stBits t m r s v).length = (stBits t2 m2 r2 s2 v2).length := by rw [length_stBits, length_stBits]
/-- Two boxes of five cells stay as they are. -/
theorem box55 {w w1 : World} {a b c d e a2 b2 c2 d2 e2 : Value} {T : TypeId} (hb : Below (w.heap.size + 2) ((w.alloc (.cells #[a, b, c, d, e] T)).alloc (.cells #[a2, b2, c2, d2, e2] T)) w1) :
    (w1.cell? ⟨w.heap.size, 0, none⟩ = some a ∧ w1.cell? ⟨w.heap.size, 1, none⟩ = some b ∧ w1.cell? ⟨w.heap.size, 2, none⟩ = some c ∧ w1.cell? ⟨w.heap.size, 3, none⟩ = some d ∧ w1.cell? ⟨w.heap.size, 4, none⟩ = some e) ∧
    (w1.cell? ⟨w.heap.size + 1, 0, none⟩ = some a2 ∧ w1.cell? ⟨w.heap.size + 1, 1, none⟩ = some b2 ∧ w1.cell? ⟨w.heap.size + 1, 2, none⟩ = some c2 ∧ w1.cell? ⟨w.heap.size + 1, 3, none⟩ = some d2 ∧ w1.cell? ⟨w.heap.size + 1, 4, none⟩ = some e2) := by
  refine ⟨⟨?_, ?_, ?_, ?_, ?_⟩, ⟨?_, ?_, ?_, ?_, ?_⟩⟩
  · exact (hb.cell (p := ⟨w.heap.size, 0, none⟩) (by simp)).trans (by simp)
  · exact (hb.cell (p := ⟨w.heap.size, 1, none⟩) (by simp)).trans (by simp)
  · exact (hb.cell (p := ⟨w.heap.size, 2, none⟩) (by simp)).trans (by simp)
  · exact (hb.cell (p := ⟨w.heap.size, 3, none⟩) (by simp)).trans (by simp)
  · exact (hb.cell (p := ⟨w.heap.size, 4, none⟩) (by simp)).trans (by simp)
  · exact (hb.cell (p := ⟨w.heap.size + 1, 0, none⟩) (by simp)).trans (by simp)
  · exact (hb.cell (p := ⟨w.heap.size + 1, 1, none⟩) (by simp)).trans (by simp)
  · exact (hb.cell (p := ⟨w.heap.size + 1, 2, none⟩) (by simp)).trans (by simp)
  · exact (hb.cell (p := ⟨w.heap.size + 1, 3, none⟩) (by simp)).trans (by simp)
  · exact (hb.cell (p := ⟨w.heap.size + 1, 4, none⟩) (by simp)).trans (by simp)
set_option maxHeartbeats 4000000 in
theorem stateDistance_any (t m r s v t2 m2 r2 s2 v2 : Int) (w : World) : Calls Try.prog 11 #[.agg #[.int .i64 t, .int .i64 m, .int .i64 r, .int .i64 s, .int .i64 v], .agg #[.int .i64 t2, .int .i64 m2, .int .i64 r2, .int .i64 s2, .int .i64 v2]] w
    fun e w' => e = .returned (.tuple #[.int .i64 (distB t m r s v t2 m2 r2 s2 v2).1, .int .i64 (distB t m r s v t2 m2 r2 s2 v2).2]) ∧ Below w.heap.size w w' := by
  have HB0 := Lib.hid (((Below.refl w.heap.size w).alloc (Nat.le_refl _) (.cells #[.int .i64 t, .int .i64 m, .int .i64 r, .int .i64 s, .int .i64 v] 25)).alloc (by simp) (.cells #[.int .i64 t2, .int .i64 m2, .int .i64 r2, .int .i64 s2, .int .i64 v2] 25))
  cases h1 : stB t m r s v
  · have hf : distB t m r s v t2 m2 r2 s2 v2 = (0, 1) := by simp [distB, h1]
    rw [hf]; clear hf
    go_enter Try.func11, Try.ntmps11
    go_wp2_with fail
    refine (isState_any _ _ _ _ _ _).mono ?_
    rw [h1]
    rintro e w1 ⟨rfl, hb⟩
    have HB := Lib.hid (HB0.out.trans (hb.mono (by simp only [World.size_alloc]; omega)))
    clear hb
    go_wp2_with fail
    go_ret2
    exact ⟨rfl, HB.out⟩
  cases h2 : stB t2 m2 r2 s2 v2
  · have hf : distB t m r s v t2 m2 r2 s2 v2 = (0, 1) := by simp [distB, h2]
    rw [hf]; clear hf
    have H1 := Lib.hid h1
    have H2 := Lib.hid h2
    clear h1 h2
    go_enter Try.func11, Try.ntmps11
    go_wp2_with fail
    refine (isState_any _ _ _ _ _ _).mono ?_
    rw [H1.out]
    rintro e w1 ⟨rfl, hb⟩
    have HX1 := Lib.hid (hb.mono (show w.heap.size + 2 ≤ _ by simp only [World.size_alloc]; omega))
    obtain ⟨⟨c0, c1, c2, c3, c4⟩, ⟨d0, d1, d2, d3, d4⟩⟩ := box55 HX1.out
    have hz1 := hb.size
    simp only [World.size_alloc] at hz1
    clear hb
    go_wp2_with fail
    refine (isState_any _ _ _ _ _ _).mono ?_
    rw [H2.out]
    rintro e w2 ⟨rfl, hb⟩
    have HX2 := Lib.hid (HX1.out.trans (hb.mono (by omega)))
    have hz2 := hb.size
    clear hb c0 c1 c2 c3 c4 d0 d1 d2 d3 d4
    go_wp2_with fail
    go_ret2
    exact ⟨rfl, HB0.out.trans (HX2.out.mono (by omega))⟩
  have hf : distB t m r s v t2 m2 r2 s2 v2 = (((diffs (stBits t m r s v) (stBits t2 m2 r2 s2 v2)).length : Int), 0) := by simp [distB, h1, h2]
  rw [hf]; clear hf
  have H1 := Lib.hid h1
  have H2 := Lib.hid h2
  clear h1 h2
  go_enter Try.func11, Try.ntmps11
  go_wp2_with fail
  refine (isState_any _ _ _ _ _ _).mono ?_
  rw [H1.out]
  rintro e w1 ⟨rfl, hb⟩
  have HX1 := Lib.hid (hb.mono (show w.heap.size + 2 ≤ _ by simp only [World.size_alloc]; omega))
  obtain ⟨⟨c0, c1, c2, c3, c4⟩, ⟨d0, d1, d2, d3, d4⟩⟩ := box55 HX1.out
  have hz1 := hb.size
  simp only [World.size_alloc] at hz1
  clear hb
  go_wp2_with fail
  refine (isState_any _ _ _ _ _ _).mono ?_
  rw [H2.out]
  rintro e w2 ⟨rfl, hb⟩
  have HX2 := Lib.hid (HX1.out.trans (hb.mono (by omega)))
  have hz2 := hb.size
  clear hb c0 c1 c2 c3 c4 d0 d1 d2 d3 d4
  obtain ⟨⟨c0, c1, c2, c3, c4⟩, ⟨d0, d1, d2, d3, d4⟩⟩ := box55 HX2.out
  have HXC := Lib.hid HX2.out.drew
  have hzc : w.heap.size + 2 ≤ w2.drew.heap.size := by simp only [World.size_drew]; omega
  have tok1 : True := trivial
  have tok2 : True := trivial
  go_wp2
  go_region_held3 (fun w' => w'.cell? ⟨w.heap.size, 0, none⟩ = some (.int .i64 t) ∧ w'.cell? ⟨w.heap.size, 1, none⟩ = some (.int .i64 m) ∧ w'.cell? ⟨w.heap.size, 2, none⟩ = some (.int .i64 r) ∧ w'.cell? ⟨w.heap.size, 3, none⟩ = some (.int .i64 s) ∧ w'.cell? ⟨w.heap.size, 4, none⟩ = some (.int .i64 v) ∧ w'.cell? ⟨w.heap.size + 1, 0, none⟩ = some (.int .i64 t2) ∧ w'.cell? ⟨w.heap.size + 1, 1, none⟩ = some (.int .i64 m2) ∧ w'.cell? ⟨w.heap.size + 1, 2, none⟩ = some (.int .i64 r2) ∧ w'.cell? ⟨w.heap.size + 1, 3, none⟩ = some (.int .i64 s2) ∧ w'.cell? ⟨w.heap.size + 1, 4, none⟩ = some (.int .i64 v2)) (go_keep)
    ((first | (go_at_call 24; have _t := tok1; ((with_reducible refine (stateBits_any t m r s v _ H1.out).mono ?_); rintro e wa ⟨va, rfl, hO, hb⟩; clear tok1 _t; have HOa := Lib.hid hO; replace HXC := Lib.hid (HXC.out.trans (hb.mono (by omega))); (try (replace HOb := Lib.hid (HOb.out.below hb))); have hzca := hb.size; replace hzc := Nat.le_trans hzc hb.size; clear c0 c1 c2 c3 c4 d0 d1 d2 d3 d4; obtain ⟨⟨c0, c1, c2, c3, c4⟩, ⟨d0, d1, d2, d3, d4⟩⟩ := box55 HXC.out; clear hO hb)) | (go_at_call 24; have _t := tok2; ((with_reducible refine (stateBits_any t2 m2 r2 s2 v2 _ H2.out).mono ?_); rintro e wb ⟨vb, rfl, hO, hb⟩; clear tok2 _t; have HOb := Lib.hid hO; replace HXC := Lib.hid (HXC.out.trans (hb.mono (by omega))); (try (replace HOa := Lib.hid (HOa.out.below hb))); have hzcb := hb.size; replace hzc := Nat.le_trans hzc hb.size; clear c0 c1 c2 c3 c4 d0 d1 d2 d3 d4; obtain ⟨⟨c0, c1, c2, c3, c4⟩, ⟨d0, d1, d2, d3, d4⟩⟩ := box55 HXC.out; clear hO hb)) | (go_at_call 23; refine (differing_any _ _ (stBits t m r s v) (stBits t2 m2 r2 s2 v2) _ HOa.out.rd HOb.out.rd (len_st _ _ _ _ _ _ _ _ _ _) (by simp only [length_stBits]; omega)).mono ?_; rintro e wd ⟨vd, rfl, hO, hb⟩; have HXD := Lib.hid (HXC.out.trans (hb.mono (by omega))); obtain ⟨ad, capd, rfl⟩ := hO.slice; clear c0 c1 c2 c3 c4 d0 d1 d2 d3 d4; obtain ⟨⟨c0, c1, c2, c3, c4⟩, ⟨d0, d1, d2, d3, d4⟩⟩ := box55 HXD.out; clear hO hb) | fail))
  all_goals
    go_wp2
    go_ret2
    exact ⟨rfl, HB0.out.trans (HXD.out.mono (by omega))⟩
set_option maxHeartbeats 4000000 in
theorem sStateDistance_any (t m r s v t2 m2 r2 s2 v2 : Int) (w : World) : Calls Try.prog 12 #[.agg #[.int .i64 t, .int .i64 m, .int .i64 r, .int .i64 s, .int .i64 v], .agg #[.int .i64 t2, .int .i64 m2, .int .i64 r2, .int .i64 s2, .int .i64 v2]] w
    fun e w' => e = .returned (.tuple #[.int .i64 (distB t m r s v t2 m2 r2 s2 v2).1, .int .i64 (distB t m r s v t2 m2 r2 s2 v2).2]) ∧ Below w.heap.size w w' := by
  have HB0 := Lib.hid (((Below.refl w.heap.size w).alloc (Nat.le_refl _) (.cells #[.int .i64 t, .int .i64 m, .int .i64 r, .int .i64 s, .int .i64 v] 25)).alloc (by simp) (.cells #[.int .i64 t2, .int .i64 m2, .int .i64 r2, .int .i64 s2, .int .i64 v2] 25))
  cases h1 : stB t m r s v
  · have hf : distB t m r s v t2 m2 r2 s2 v2 = (0, 1) := by simp [distB, h1]
    rw [hf]; clear hf
    go_enter Try.func12, Try.ntmps12
    go_wp2_with fail
    refine (sIsState_any _ _ _ _ _ _).mono ?_
    rw [h1]
    rintro e w1 ⟨rfl, hb⟩
    have HB := Lib.hid (HB0.out.trans (hb.mono (by simp only [World.size_alloc]; omega)))
    clear hb
    go_wp2_with fail
    go_ret2
    exact ⟨rfl, HB.out⟩
  cases h2 : stB t2 m2 r2 s2 v2
  · have hf : distB t m r s v t2 m2 r2 s2 v2 = (0, 1) := by simp [distB, h2]
    rw [hf]; clear hf
    have H1 := Lib.hid h1
    have H2 := Lib.hid h2
    clear h1 h2
    go_enter Try.func12, Try.ntmps12
    go_wp2_with fail
    refine (sIsState_any _ _ _ _ _ _).mono ?_
    rw [H1.out]
    rintro e w1 ⟨rfl, hb⟩
    have HX1 := Lib.hid (hb.mono (show w.heap.size + 2 ≤ _ by simp only [World.size_alloc]; omega))
    obtain ⟨⟨c0, c1, c2, c3, c4⟩, ⟨d0, d1, d2, d3, d4⟩⟩ := box55 HX1.out
    have hz1 := hb.size
    simp only [World.size_alloc] at hz1
    clear hb
    go_wp2_with fail
    refine (sIsState_any _ _ _ _ _ _).mono ?_
    rw [H2.out]
    rintro e w2 ⟨rfl, hb⟩
    have HX2 := Lib.hid (HX1.out.trans (hb.mono (by omega)))
    have hz2 := hb.size
    clear hb c0 c1 c2 c3 c4 d0 d1 d2 d3 d4
    go_wp2_with fail
    go_ret2
    exact ⟨rfl, HB0.out.trans (HX2.out.mono (by omega))⟩
  have hf : distB t m r s v t2 m2 r2 s2 v2 = (((diffs (stBits t m r s v) (stBits t2 m2 r2 s2 v2)).length : Int), 0) := by simp [distB, h1, h2]
  rw [hf]; clear hf
  have H1 := Lib.hid h1
  have H2 := Lib.hid h2
  clear h1 h2
  go_enter Try.func12, Try.ntmps12
  go_wp2_with fail
  refine (sIsState_any _ _ _ _ _ _).mono ?_
  rw [H1.out]
  rintro e w1 ⟨rfl, hb⟩
  have HX1 := Lib.hid (hb.mono (show w.heap.size + 2 ≤ _ by simp only [World.size_alloc]; omega))
  obtain ⟨⟨c0, c1, c2, c3, c4⟩, ⟨d0, d1, d2, d3, d4⟩⟩ := box55 HX1.out
  have hz1 := hb.size
  simp only [World.size_alloc] at hz1
  clear hb
  go_wp2_with fail
  refine (sIsState_any _ _ _ _ _ _).mono ?_
  rw [H2.out]
  rintro e w2 ⟨rfl, hb⟩
  have HX2 := Lib.hid (HX1.out.trans (hb.mono (by omega)))
  have hz2 := hb.size
  clear hb c0 c1 c2 c3 c4 d0 d1 d2 d3 d4
  obtain ⟨⟨c0, c1, c2, c3, c4⟩, ⟨d0, d1, d2, d3, d4⟩⟩ := box55 HX2.out
  have HXC := Lib.hid HX2.out.drew
  have hzc : w.heap.size + 2 ≤ w2.drew.heap.size := by simp only [World.size_drew]; omega
  have tok1 : True := trivial
  have tok2 : True := trivial
  go_wp2
  go_region_held3 (fun w' => w'.cell? ⟨w.heap.size, 0, none⟩ = some (.int .i64 t) ∧ w'.cell? ⟨w.heap.size, 1, none⟩ = some (.int .i64 m) ∧ w'.cell? ⟨w.heap.size, 2, none⟩ = some (.int .i64 r) ∧ w'.cell? ⟨w.heap.size, 3, none⟩ = some (.int .i64 s) ∧ w'.cell? ⟨w.heap.size, 4, none⟩ = some (.int .i64 v) ∧ w'.cell? ⟨w.heap.size + 1, 0, none⟩ = some (.int .i64 t2) ∧ w'.cell? ⟨w.heap.size + 1, 1, none⟩ = some (.int .i64 m2) ∧ w'.cell? ⟨w.heap.size + 1, 2, none⟩ = some (.int .i64 r2) ∧ w'.cell? ⟨w.heap.size + 1, 3, none⟩ = some (.int .i64 s2) ∧ w'.cell? ⟨w.heap.size + 1, 4, none⟩ = some (.int .i64 v2)) (go_keep)
    ((first | (go_at_call 26; have _t := tok1; ((with_reducible refine (l04Bits_any t m r s v _ H1.out).mono ?_); rintro e wa ⟨va, rfl, hO, hb⟩; clear tok1 _t; have HOa := Lib.hid hO; replace HXC := Lib.hid (HXC.out.trans (hb.mono (by omega))); (try (replace HOb := Lib.hid (HOb.out.below hb))); have hzca := hb.size; replace hzc := Nat.le_trans hzc hb.size; clear c0 c1 c2 c3 c4 d0 d1 d2 d3 d4; obtain ⟨⟨c0, c1, c2, c3, c4⟩, ⟨d0, d1, d2, d3, d4⟩⟩ := box55 HXC.out; clear hO hb)) | (go_at_call 26; have _t := tok2; ((with_reducible refine (l04Bits_any t2 m2 r2 s2 v2 _ H2.out).mono ?_); rintro e wb ⟨vb, rfl, hO, hb⟩; clear tok2 _t; have HOb := Lib.hid hO; replace HXC := Lib.hid (HXC.out.trans (hb.mono (by omega))); (try (replace HOa := Lib.hid (HOa.out.below hb))); have hzcb := hb.size; replace hzc := Nat.le_trans hzc hb.size; clear c0 c1 c2 c3 c4 d0 d1 d2 d3 d4; obtain ⟨⟨c0, c1, c2, c3, c4⟩, ⟨d0, d1, d2, d3, d4⟩⟩ := box55 HXC.out; clear hO hb)) | (go_at_call 25; refine (l01Differ_any _ _ (stBits t m r s v) (stBits t2 m2 r2 s2 v2) _ HOa.out.rd HOb.out.rd (len_st _ _ _ _ _ _ _ _ _ _) (by simp only [length_stBits]; omega)).mono ?_; rintro e wd ⟨vd, rfl, hO, hb⟩; have HXD := Lib.hid (HXC.out.trans (hb.mono (by omega))); obtain ⟨ad, capd, rfl⟩ := hO.slice; clear c0 c1 c2 c3 c4 d0 d1 d2 d3 d4; obtain ⟨⟨c0, c1, c2, c3, c4⟩, ⟨d0, d1, d2, d3, d4⟩⟩ := box55 HXD.out; clear hO hb) | fail))
  all_goals
    go_wp2
    go_ret2
    exact ⟨rfl, HB0.out.trans (HXD.out.mono (by omega))⟩
end Go.Proofs.Ytkfhfggbmmhejaa
