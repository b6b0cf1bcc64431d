/- Contracts: shortest, TimeBetween (program and reference). -/
import Derived.Test.YtkfhfggbmmhejaaState
namespace Go.Proofs.Ytkfhfggbmmhejaa
open Go.RowKit
set_option linter.unusedVariables false
set_option linter.unusedSimpArgs false

def shortI (n : Int) : Int := (n + 32768) % 65536 - 32768
theorem tmod_neg {n : Int} (h : n < 0) : n.tmod 65536 = -((-n) % 65536) := by
  have h1 : n = -(-n) := by omega
  rw [h1, Int.neg_tmod, Int.tmod_eq_emod_of_nonneg (by omega)]
  simp
theorem shortest_any (n : Int) (w : World) (h1 : -65535 ≤ n) (h2 : n ≤ 65535) : Calls Try.prog 22 #[.int .i64 n] w fun e w' => e = .returned (.int .i64 (shortI n)) ∧ w = w' := by
  unfold shortI
  have hx : ∃ y, (n + 32768).tmod 65536 = y ∧ -65536 < y ∧ y < 65536 ∧ (y + 65536) % 65536 = (n + 32768) % 65536 := by
    by_cases hn : 0 ≤ n + 32768
    · refine ⟨(n + 32768) % 65536, Int.tmod_eq_emod_of_nonneg hn, by omega, by omega, by omega⟩
    · refine ⟨_, tmod_neg (by omega), by omega, by omega, by omega⟩
  obtain ⟨y, hy, hy1, hy2, hy3⟩ := hx
  have hy4 : (n + 32768) % 65536 = y % 65536 := by omega
  rw [hy4]
  have hyw : IntKind.i64.wrap ((n + 32768).tmod 65536) = y := by rw [hy]; exact IntWalk.i64_in _ (by omega)
  clear hy3 hy4
  go_enter Try.func22, Try.ntmps22
  go_wp2
  go_ret
  exact ⟨rfl, rfl⟩
/-- TimeBetween's answer. -/
def timeB (t m r s v t2 m2 r2 s2 v2 : Int) : Int × Int := if (stB t m r s v && stB t2 m2 r2 s2 v2) = true then (shortI (t2 - t), 0) else (0, 1)
theorem stB_time {t m r s v : Int} (h : stB t m r s v = true) : 0 ≤ t ∧ t ≤ 65535 := by
  simp only [stB, Bool.and_eq_true] at h
  exact inB_yes h.1.1.1.1
set_option maxHeartbeats 1000000 in
theorem timeBetween_any (t m r s v t2 m2 r2 s2 v2 : Int) (w : World) : Calls Try.prog 9 #[.agg #[.int .i64 t, .int .i64 m, .int .i64 r, .int .i64 s, .int .i64 v], .agg #[.int .i64 t2, .int .i64 m2, .int .i64 r2, .int .i64 s2, .int .i64 v2]] w
    fun e w' => e = .returned (.tuple #[.int .i64 (timeB t m r s v t2 m2 r2 s2 v2).1, .int .i64 (timeB t m r s v t2 m2 r2 s2 v2).2]) ∧ Below w.heap.size w w' := by
  unfold timeB
  obtain ⟨w0, hw0⟩ : ∃ w0, w0 = (w.alloc (.cells #[.int .i64 t, .int .i64 m, .int .i64 r, .int .i64 s, .int .i64 v] 25)).alloc (.cells #[.int .i64 t2, .int .i64 m2, .int .i64 r2, .int .i64 s2, .int .i64 v2] 25) := ⟨_, rfl⟩
  have HB0 : Hid (Below w.heap.size w w0) := by
    show Below w.heap.size w w0
    rw [hw0]; exact ((Below.refl w.heap.size w).alloc (Nat.le_refl _) _).alloc (by simp) _
  have hz : w0.heap.size = w.heap.size + 2 := by rw [hw0]; simp
  clear hw0
  cases h1 : stB t m r s v
  · go_enter Try.func9, Try.ntmps9
    go_wp2_with fail
    refine (isState_any _ _ _ _ _ _).mono ?_
    rintro e w1 ⟨rfl, hb⟩
    go_wp2_with fail
    go_ret2
    exact ⟨rfl, (show Below w.heap.size w _ from by go_grown).trans (hb.mono (by simp only [World.size_alloc]; omega))⟩
  cases h2 : stB t2 m2 r2 s2 v2
  · go_enter Try.func9, Try.ntmps9
    go_wp2_with fail
    refine (isState_any _ _ _ _ _ _).mono ?_
    rintro e w1 ⟨rfl, hb⟩
    have hc0 := hb.cell (p := ⟨w.heap.size + 1, 0, none⟩) (by simp)
    have hc1 := hb.cell (p := ⟨w.heap.size + 1, 1, none⟩) (by simp)
    have hc2 := hb.cell (p := ⟨w.heap.size + 1, 2, none⟩) (by simp)
    have hc3 := hb.cell (p := ⟨w.heap.size + 1, 3, none⟩) (by simp)
    have hc4 := hb.cell (p := ⟨w.heap.size + 1, 4, none⟩) (by simp)
    have HB1 := Lib.hid ((show Below w.heap.size w _ from by go_grown).trans (hb.mono (by simp only [World.size_alloc]; omega)))
    clear hb
    go_wp2_with fail
    refine (isState_any _ _ _ _ _ _).mono ?_
    rintro e w2 ⟨rfl, hb2⟩
    have HB2 := Lib.hid (bthen HB1.out hb2)
    clear hb2
    go_wp2_with fail
    go_ret2
    exact ⟨rfl, HB2.out⟩
  obtain ⟨ht1, ht2⟩ := stB_time h1
  obtain ⟨ht3, ht4⟩ := stB_time h2
  go_enter Try.func9, Try.ntmps9
  go_wp2_with fail
  refine (isState_any _ _ _ _ _ _).mono ?_
  rintro e w1 ⟨rfl, hb⟩
  have hd0 := hb.cell (p := ⟨w.heap.size, 0, none⟩) (by simp; omega)
  have hc0 := hb.cell (p := ⟨w.heap.size + 1, 0, none⟩) (by simp)
  have hc1 := hb.cell (p := ⟨w.heap.size + 1, 1, none⟩) (by simp)
  have hc2 := hb.cell (p := ⟨w.heap.size + 1, 2, none⟩) (by simp)
  have hc3 := hb.cell (p := ⟨w.heap.size + 1, 3, none⟩) (by simp)
  have hc4 := hb.cell (p := ⟨w.heap.size + 1, 4, none⟩) (by simp)
  have HB1 := Lib.hid ((show Below w.heap.size w _ from by go_grown).trans (hb.mono (by simp only [World.size_alloc]; omega)))
  have hz1 := hb.size
  simp only [World.size_alloc] at hz1
  clear hb
  go_wp2_with fail
  refine (isState_any _ _ _ _ _ _).mono ?_
  rintro e w2 ⟨rfl, hb2⟩
  have he0 := hb2.cell (p := ⟨w.heap.size, 0, none⟩) (by show w.heap.size < w1.heap.size; omega)
  have he1 := hb2.cell (p := ⟨w.heap.size + 1, 0, none⟩) (by show w.heap.size + 1 < w1.heap.size; omega)
  have HB2 := Lib.hid (bthen HB1.out hb2)
  clear hb2
  go_wp2_with fail
  refine (shortest_any _ _ (by omega) (by omega)).mono ?_
  rintro e w' ⟨rfl, rfl⟩
  go_wp2_with fail
  go_ret2
  exact ⟨rfl, HB2.out⟩
set_option maxHeartbeats 1000000 in
theorem sTimeBetween_any (t m r s v t2 m2 r2 s2 v2 : Int) (w : World) : Calls Try.prog 13 #[.agg #[.int .i64 t, .int .i64 m, .int .i64 r, .int .i64 s, .int .i64 v], .agg #[.int .i64 t2, .int .i64 m2, .int .i64 r2, .int .i64 s2, .int .i64 v2]] w
    fun e w' => e = .returned (.tuple #[.int .i64 (timeB t m r s v t2 m2 r2 s2 v2).1, .int .i64 (timeB t m r s v t2 m2 r2 s2 v2).2]) ∧ Below w.heap.size w w' := by
  unfold timeB
  cases h1 : stB t m r s v
  · go_enter Try.func13, Try.ntmps13
    go_wp2_with fail
    refine (sIsState_any _ _ _ _ _ _).mono ?_
    rintro e w1 ⟨rfl, hb⟩
    go_wp2_with fail
    go_ret2
    exact ⟨rfl, (show Below w.heap.size w _ from by go_grown).trans (hb.mono (by simp only [World.size_alloc]; omega))⟩
  cases h2 : stB t2 m2 r2 s2 v2
  · go_enter Try.func13, Try.ntmps13
    go_wp2_with fail
    refine (sIsState_any _ _ _ _ _ _).mono ?_
    rintro e w1 ⟨rfl, hb⟩
    have hc0 := hb.cell (p := ⟨w.heap.size + 1, 0, none⟩) (by simp)
    have hc1 := hb.cell (p := ⟨w.heap.size + 1, 1, none⟩) (by simp)
    have hc2 := hb.cell (p := ⟨w.heap.size + 1, 2, none⟩) (by simp)
    have hc3 := hb.cell (p := ⟨w.heap.size + 1, 3, none⟩) (by simp)
    have hc4 := hb.cell (p := ⟨w.heap.size + 1, 4, none⟩) (by simp)
    have HB1 := Lib.hid ((show Below w.heap.size w _ from by go_grown).trans (hb.mono (by simp only [World.size_alloc]; omega)))
    clear hb
    go_wp2_with fail
    refine (sIsState_any _ _ _ _ _ _).mono ?_
    rintro e w2 ⟨rfl, hb2⟩
    have HB2 := Lib.hid (bthen HB1.out hb2)
    clear hb2
    go_wp2_with fail
    go_ret2
    exact ⟨rfl, HB2.out⟩
  obtain ⟨ht1, ht2⟩ := stB_time h1
  obtain ⟨ht3, ht4⟩ := stB_time h2
  have hsh : shortI (t2 - t) = if (t2 - t + 65535 + 1) % 65536 > 32767 then (t2 - t + 65535 + 1) % 65536 - 65535 - 1 else (t2 - t + 65535 + 1) % 65536 := by
    unfold shortI
    split <;> omega
  rw [hsh]
  clear hsh
  by_cases hgt : (t2 - t + 65535 + 1) % 65536 > 32767
  all_goals
    first | rw [if_pos hgt] | rw [if_neg hgt]
    go_enter Try.func13, Try.ntmps13
    go_wp2_with fail
    refine (sIsState_any _ _ _ _ _ _).mono ?_
    rintro e w1 ⟨rfl, hb⟩
    have hd0 := hb.cell (p := ⟨w.heap.size, 0, none⟩) (by simp; omega)
    have hc0 := hb.cell (p := ⟨w.heap.size + 1, 0, none⟩) (by simp)
    have hc1 := hb.cell (p := ⟨w.heap.size + 1, 1, none⟩) (by simp)
    have hc2 := hb.cell (p := ⟨w.heap.size + 1, 2, none⟩) (by simp)
    have hc3 := hb.cell (p := ⟨w.heap.size + 1, 3, none⟩) (by simp)
    have hc4 := hb.cell (p := ⟨w.heap.size + 1, 4, none⟩) (by simp)
    have HB1 := Lib.hid ((show Below w.heap.size w _ from by go_grown).trans (hb.mono (by simp only [World.size_alloc]; omega)))
    have hz1 := hb.size
    simp only [World.size_alloc] at hz1
    clear hb
    go_wp2_with fail
    refine (sIsState_any _ _ _ _ _ _).mono ?_
    rintro e w2 ⟨rfl, hb2⟩
    have he0 := hb2.cell (p := ⟨w.heap.size, 0, none⟩) (by show w.heap.size < w1.heap.size; omega)
    have he1 := hb2.cell (p := ⟨w.heap.size + 1, 0, none⟩) (by show w.heap.size + 1 < w1.heap.size; omega)
    have HB2 := Lib.hid (bthen HB1.out hb2)
    clear hb2
    go_wp2_with fail
    go_ret2
    exact ⟨rfl, HB2.out⟩
end Go.Proofs.Ytkfhfggbmmhejaa
