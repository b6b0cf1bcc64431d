/- Contracts: AdvanceState (program and reference), eqState. -/
import Derived.Test.YtkfhfggbmmhejaaTime
import Derived.Test.YtkfhfggbmmhejaaSt
import Derived.Deep.Cut
namespace Go.Proofs.Ytkfhfggbmmhejaa
open Go.RowKit
set_option linter.unusedVariables false
set_option linter.unusedSimpArgs false

/-- May it be advanced? -/
def advOk (r s d n k : Int) : Bool := inB d 0 65535 && inB n 1 256 && inB k 1 16 && decide (s < n) && decide (r < k)
def advTo (t m r s v d n k : Int) : St := if (s + 1 == n) = true then ⟨(t + d) % 65536, m, (r + 1) % k, 0, v⟩ else ⟨(t + d) % 65536, m, r, s + 1, v⟩
/-- AdvanceState's answer. -/
def advB (t m r s v d n k : Int) : St × Int := if stB t m r s v = false then (⟨0, 0, 0, 0, 0⟩, 1) else if advOk r s d n k = false then (⟨0, 0, 0, 0, 0⟩, 2) else (advTo t m r s v d n k, 0)
theorem stB_parts {t m r s v : Int} (h : stB t m r s v = true) : (0 ≤ t ∧ t ≤ 65535) ∧ (0 ≤ m ∧ m ≤ 15) ∧ (0 ≤ r ∧ r ≤ 15) ∧ (0 ≤ s ∧ s ≤ 255) ∧ (0 ≤ v ∧ v ≤ 4294967295) ∧ True := by
  simp only [stB, Bool.and_eq_true] at h
  exact ⟨inB_yes h.1.1.1.1, inB_yes h.1.1.1.2, inB_yes h.1.1.2, inB_yes h.1.2, inB_yes h.2, trivial⟩
set_option maxHeartbeats 4000000 in
theorem advanceState_any (t m r s v d n k : Int) (w : World) : Calls Try.prog 7 #[.agg #[.int .i64 t, .int .i64 m, .int .i64 r, .int .i64 s, .int .i64 v], .int .i64 d, .int .i64 n, .int .i64 k] w
    fun e w' => e = .returned (.tuple #[(advB t m r s v d n k).1.val, .int .i64 (advB t m r s v d n k).2]) ∧ Below w.heap.size w w' := by
  cases h1 : stB t m r s v
  · have hf : advB t m r s v d n k = (⟨0, 0, 0, 0, 0⟩, 1) := by simp [advB, h1]
    rw [hf]; clear hf
    go_enter Try.func7, Try.ntmps7
    go_wp2_with fail
    refine (isState_any _ _ _ _ _ _).mono ?_
    rintro e w1 ⟨rfl, hb⟩
    obtain ⟨hc1, hf1⟩ := bcell hb
    have hy0 : w1.cell? ⟨w.heap.size, 0, none⟩ = some (.int .i64 t) := (hc1 _ _ (by simp only [World.size_alloc]; omega)).trans (by simp)
    have hx0 : w1.cell? ⟨w.heap.size + 1, 0, none⟩ = some (.int .i64 0) := (hc1 _ _ (by simp only [World.size_alloc]; omega)).trans (by simp)
    have hv0 : w1.frozen? ⟨w.heap.size, 0, none⟩ = false := (hf1 _ _ (by simp only [World.size_alloc]; omega)).trans (by simp)
    have hu0 : w1.frozen? ⟨w.heap.size + 1, 0, none⟩ = false := (hf1 _ _ (by simp only [World.size_alloc]; omega)).trans (by simp)
    have hy1 : w1.cell? ⟨w.heap.size, 1, none⟩ = some (.int .i64 m) := (hc1 _ _ (by simp only [World.size_alloc]; omega)).trans (by simp)
    have hx1 : w1.cell? ⟨w.heap.size + 1, 1, none⟩ = some (.int .i64 0) := (hc1 _ _ (by simp only [World.size_alloc]; omega)).trans (by simp)
    have hv1 : w1.frozen? ⟨w.heap.size, 1, none⟩ = false := (hf1 _ _ (by simp only [World.size_alloc]; omega)).trans (by simp)
    have hu1 : w1.frozen? ⟨w.heap.size + 1, 1, none⟩ = false := (hf1 _ _ (by simp only [World.size_alloc]; omega)).trans (by simp)
    have hy2 : w1.cell? ⟨w.heap.size, 2, none⟩ = some (.int .i64 r) := (hc1 _ _ (by simp only [World.size_alloc]; omega)).trans (by simp)
    have hx2 : w1.cell? ⟨w.heap.size + 1, 2, none⟩ = some (.int .i64 0) := (hc1 _ _ (by simp only [World.size_alloc]; omega)).trans (by simp)
    have hv2 : w1.frozen? ⟨w.heap.size, 2, none⟩ = false := (hf1 _ _ (by simp only [World.size_alloc]; omega)).trans (by simp)
    have hu2 : w1.frozen? ⟨w.heap.size + 1, 2, none⟩ = false := (hf1 _ _ (by simp only [World.size_alloc]; omega)).trans (by simp)
    have hy3 : w1.cell? ⟨w.heap.size, 3, none⟩ = some (.int .i64 s) := (hc1 _ _ (by simp only [World.size_alloc]; omega)).trans (by simp)
    have hx3 : w1.cell? ⟨w.heap.size + 1, 3, none⟩ = some (.int .i64 0) := (hc1 _ _ (by simp only [World.size_alloc]; omega)).trans (by simp)
    have hv3 : w1.frozen? ⟨w.heap.size, 3, none⟩ = false := (hf1 _ _ (by simp only [World.size_alloc]; omega)).trans (by simp)
    have hu3 : w1.frozen? ⟨w.heap.size + 1, 3, none⟩ = false := (hf1 _ _ (by simp only [World.size_alloc]; omega)).trans (by simp)
    have hy4 : w1.cell? ⟨w.heap.size, 4, none⟩ = some (.int .i64 v) := (hc1 _ _ (by simp only [World.size_alloc]; omega)).trans (by simp)
    have hx4 : w1.cell? ⟨w.heap.size + 1, 4, none⟩ = some (.int .i64 0) := (hc1 _ _ (by simp only [World.size_alloc]; omega)).trans (by simp)
    have hv4 : w1.frozen? ⟨w.heap.size, 4, none⟩ = false := (hf1 _ _ (by simp only [World.size_alloc]; omega)).trans (by simp)
    have hu4 : w1.frozen? ⟨w.heap.size + 1, 4, none⟩ = false := (hf1 _ _ (by simp only [World.size_alloc]; omega)).trans (by simp)
    have hz1 := hb.size
    simp only [World.size_alloc] at hz1
    have HB1 := Lib.hid ((show Below w.heap.size w _ from by go_grown).trans (hb.mono (by simp only [World.size_alloc]; omega)))
    clear hb hc1 hf1
    go_wp2_with fail
    try simp only [Exit.inBlock, Exit.then]
    refine bodyPost_ret (by simp [results, Try.results7, go_sem, hx0, hx1, hx2, hx3, hx4]; try rfl) rfl ?_
    exact ⟨rfl, HB1.out.trans (by go_grown)⟩
  obtain ⟨hst1, hst2, hst3, hst4, hst5, hst6⟩ := stB_parts h1
  by_cases h2 : advOk r s d n k = false
  · have hf : advB t m r s v d n k = (⟨0, 0, 0, 0, 0⟩, 2) := by simp [advB, h1, h2]
    rw [hf]; clear hf
    unfold advOk at h2
    have g4' : decide (n ≤ s) = !decide (s < n) := by by_cases q : s < n <;> simp [q] <;> omega
    have g5' : decide (k ≤ r) = !decide (r < k) := by by_cases q : r < k <;> simp [q] <;> omega
    cases g1 : inB d 0 65535
    · clear h2 g4' g5'
      go_enter Try.func7, Try.ntmps7
      go_wp2_with fail
      refine (isState_any _ _ _ _ _ _).mono ?_
      rintro e w1 ⟨rfl, hb⟩
      obtain ⟨hc1, hf1⟩ := bcell hb
      have hy0 : w1.cell? ⟨w.heap.size, 0, none⟩ = some (.int .i64 t) := (hc1 _ _ (by simp only [World.size_alloc]; omega)).trans (by simp)
      have hx0 : w1.cell? ⟨w.heap.size + 1, 0, none⟩ = some (.int .i64 0) := (hc1 _ _ (by simp only [World.size_alloc]; omega)).trans (by simp)
      have hv0 : w1.frozen? ⟨w.heap.size, 0, none⟩ = false := (hf1 _ _ (by simp only [World.size_alloc]; omega)).trans (by simp)
      have hu0 : w1.frozen? ⟨w.heap.size + 1, 0, none⟩ = false := (hf1 _ _ (by simp only [World.size_alloc]; omega)).trans (by simp)
      have hy1 : w1.cell? ⟨w.heap.size, 1, none⟩ = some (.int .i64 m) := (hc1 _ _ (by simp only [World.size_alloc]; omega)).trans (by simp)
      have hx1 : w1.cell? ⟨w.heap.size + 1, 1, none⟩ = some (.int .i64 0) := (hc1 _ _ (by simp only [World.size_alloc]; omega)).trans (by simp)
      have hv1 : w1.frozen? ⟨w.heap.size, 1, none⟩ = false := (hf1 _ _ (by simp only [World.size_alloc]; omega)).trans (by simp)
      have hu1 : w1.frozen? ⟨w.heap.size + 1, 1, none⟩ = false := (hf1 _ _ (by simp only [World.size_alloc]; omega)).trans (by simp)
      have hy2 : w1.cell? ⟨w.heap.size, 2, none⟩ = some (.int .i64 r) := (hc1 _ _ (by simp only [World.size_alloc]; omega)).trans (by simp)
      have hx2 : w1.cell? ⟨w.heap.size + 1, 2, none⟩ = some (.int .i64 0) := (hc1 _ _ (by simp only [World.size_alloc]; omega)).trans (by simp)
      have hv2 : w1.frozen? ⟨w.heap.size, 2, none⟩ = false := (hf1 _ _ (by simp only [World.size_alloc]; omega)).trans (by simp)
      have hu2 : w1.frozen? ⟨w.heap.size + 1, 2, none⟩ = false := (hf1 _ _ (by simp only [World.size_alloc]; omega)).trans (by simp)
      have hy3 : w1.cell? ⟨w.heap.size, 3, none⟩ = some (.int .i64 s) := (hc1 _ _ (by simp only [World.size_alloc]; omega)).trans (by simp)
      have hx3 : w1.cell? ⟨w.heap.size + 1, 3, none⟩ = some (.int .i64 0) := (hc1 _ _ (by simp only [World.size_alloc]; omega)).trans (by simp)
      have hv3 : w1.frozen? ⟨w.heap.size, 3, none⟩ = false := (hf1 _ _ (by simp only [World.size_alloc]; omega)).trans (by simp)
      have hu3 : w1.frozen? ⟨w.heap.size + 1, 3, none⟩ = false := (hf1 _ _ (by simp only [World.size_alloc]; omega)).trans (by simp)
      have hy4 : w1.cell? ⟨w.heap.size, 4, none⟩ = some (.int .i64 v) := (hc1 _ _ (by simp only [World.size_alloc]; omega)).trans (by simp)
      have hx4 : w1.cell? ⟨w.heap.size + 1, 4, none⟩ = some (.int .i64 0) := (hc1 _ _ (by simp only [World.size_alloc]; omega)).trans (by simp)
      have hv4 : w1.frozen? ⟨w.heap.size, 4, none⟩ = false := (hf1 _ _ (by simp only [World.size_alloc]; omega)).trans (by simp)
      have hu4 : w1.frozen? ⟨w.heap.size + 1, 4, none⟩ = false := (hf1 _ _ (by simp only [World.size_alloc]; omega)).trans (by simp)
      have hz1 := hb.size
      simp only [World.size_alloc] at hz1
      have HB1 := Lib.hid ((show Below w.heap.size w _ from by go_grown).trans (hb.mono (by simp only [World.size_alloc]; omega)))
      clear hb hc1 hf1
      go_wp2_with (go_at_call 18; refine (within_any _ _ _ _).mono ?_; rintro e w' ⟨rfl, rfl⟩)
      try simp only [Exit.inBlock, Exit.then]
      refine bodyPost_ret (by simp [results, Try.results7, go_sem, hx0, hx1, hx2, hx3, hx4]; try rfl) rfl ?_
      exact ⟨rfl, HB1.out.trans (by go_grown)⟩
    cases g2 : inB n 1 256
    · clear h2 g4' g5'
      go_enter Try.func7, Try.ntmps7
      go_wp2_with fail
      refine (isState_any _ _ _ _ _ _).mono ?_
      rintro e w1 ⟨rfl, hb⟩
      obtain ⟨hc1, hf1⟩ := bcell hb
      have hy0 : w1.cell? ⟨w.heap.size, 0, none⟩ = some (.int .i64 t) := (hc1 _ _ (by simp only [World.size_alloc]; omega)).trans (by simp)
      have hx0 : w1.cell? ⟨w.heap.size + 1, 0, none⟩ = some (.int .i64 0) := (hc1 _ _ (by simp only [World.size_alloc]; omega)).trans (by simp)
      have hv0 : w1.frozen? ⟨w.heap.size, 0, none⟩ = false := (hf1 _ _ (by simp only [World.size_alloc]; omega)).trans (by simp)
      have hu0 : w1.frozen? ⟨w.heap.size + 1, 0, none⟩ = false := (hf1 _ _ (by simp only [World.size_alloc]; omega)).trans (by simp)
      have hy1 : w1.cell? ⟨w.heap.size, 1, none⟩ = some (.int .i64 m) := (hc1 _ _ (by simp only [World.size_alloc]; omega)).trans (by simp)
      have hx1 : w1.cell? ⟨w.heap.size + 1, 1, none⟩ = some (.int .i64 0) := (hc1 _ _ (by simp only [World.size_alloc]; omega)).trans (by simp)
      have hv1 : w1.frozen? ⟨w.heap.size, 1, none⟩ = false := (hf1 _ _ (by simp only [World.size_alloc]; omega)).trans (by simp)
      have hu1 : w1.frozen? ⟨w.heap.size + 1, 1, none⟩ = false := (hf1 _ _ (by simp only [World.size_alloc]; omega)).trans (by simp)
      have hy2 : w1.cell? ⟨w.heap.size, 2, none⟩ = some (.int .i64 r) := (hc1 _ _ (by simp only [World.size_alloc]; omega)).trans (by simp)
      have hx2 : w1.cell? ⟨w.heap.size + 1, 2, none⟩ = some (.int .i64 0) := (hc1 _ _ (by simp only [World.size_alloc]; omega)).trans (by simp)
      have hv2 : w1.frozen? ⟨w.heap.size, 2, none⟩ = false := (hf1 _ _ (by simp only [World.size_alloc]; omega)).trans (by simp)
      have hu2 : w1.frozen? ⟨w.heap.size + 1, 2, none⟩ = false := (hf1 _ _ (by simp only [World.size_alloc]; omega)).trans (by simp)
      have hy3 : w1.cell? ⟨w.heap.size, 3, none⟩ = some (.int .i64 s) := (hc1 _ _ (by simp only [World.size_alloc]; omega)).trans (by simp)
      have hx3 : w1.cell? ⟨w.heap.size + 1, 3, none⟩ = some (.int .i64 0) := (hc1 _ _ (by simp only [World.size_alloc]; omega)).trans (by simp)
      have hv3 : w1.frozen? ⟨w.heap.size, 3, none⟩ = false := (hf1 _ _ (by simp only [World.size_alloc]; omega)).trans (by simp)
      have hu3 : w1.frozen? ⟨w.heap.size + 1, 3, none⟩ = false := (hf1 _ _ (by simp only [World.size_alloc]; omega)).trans (by simp)
      have hy4 : w1.cell? ⟨w.heap.size, 4, none⟩ = some (.int .i64 v) := (hc1 _ _ (by simp only [World.size_alloc]; omega)).trans (by simp)
      have hx4 : w1.cell? ⟨w.heap.size + 1, 4, none⟩ = some (.int .i64 0) := (hc1 _ _ (by simp only [World.size_alloc]; omega)).trans (by simp)
      have hv4 : w1.frozen? ⟨w.heap.size, 4, none⟩ = false := (hf1 _ _ (by simp only [World.size_alloc]; omega)).trans (by simp)
      have hu4 : w1.frozen? ⟨w.heap.size + 1, 4, none⟩ = false := (hf1 _ _ (by simp only [World.size_alloc]; omega)).trans (by simp)
      have hz1 := hb.size
      simp only [World.size_alloc] at hz1
      have HB1 := Lib.hid ((show Below w.heap.size w _ from by go_grown).trans (hb.mono (by simp only [World.size_alloc]; omega)))
      clear hb hc1 hf1
      go_wp2_with (go_at_call 18; refine (within_any _ _ _ _).mono ?_; rintro e w' ⟨rfl, rfl⟩)
      try simp only [Exit.inBlock, Exit.then]
      refine bodyPost_ret (by simp [results, Try.results7, go_sem, hx0, hx1, hx2, hx3, hx4]; try rfl) rfl ?_
      exact ⟨rfl, HB1.out.trans (by go_grown)⟩
    cases g3 : inB k 1 16
    · clear h2 g4' g5'
      go_enter Try.func7, Try.ntmps7
      go_wp2_with fail
      refine (isState_any _ _ _ _ _ _).mono ?_
      rintro e w1 ⟨rfl, hb⟩
      obtain ⟨hc1, hf1⟩ := bcell hb
      have hy0 : w1.cell? ⟨w.heap.size, 0, none⟩ = some (.int .i64 t) := (hc1 _ _ (by simp only [World.size_alloc]; omega)).trans (by simp)
      have hx0 : w1.cell? ⟨w.heap.size + 1, 0, none⟩ = some (.int .i64 0) := (hc1 _ _ (by simp only [World.size_alloc]; omega)).trans (by simp)
      have hv0 : w1.frozen? ⟨w.heap.size, 0, none⟩ = false := (hf1 _ _ (by simp only [World.size_alloc]; omega)).trans (by simp)
      have hu0 : w1.frozen? ⟨w.heap.size + 1, 0, none⟩ = false := (hf1 _ _ (by simp only [World.size_alloc]; omega)).trans (by simp)
      have hy1 : w1.cell? ⟨w.heap.size, 1, none⟩ = some (.int .i64 m) := (hc1 _ _ (by simp only [World.size_alloc]; omega)).trans (by simp)
      have hx1 : w1.cell? ⟨w.heap.size + 1, 1, none⟩ = some (.int .i64 0) := (hc1 _ _ (by simp only [World.size_alloc]; omega)).trans (by simp)
      have hv1 : w1.frozen? ⟨w.heap.size, 1, none⟩ = false := (hf1 _ _ (by simp only [World.size_alloc]; omega)).trans (by simp)
      have hu1 : w1.frozen? ⟨w.heap.size + 1, 1, none⟩ = false := (hf1 _ _ (by simp only [World.size_alloc]; omega)).trans (by simp)
      have hy2 : w1.cell? ⟨w.heap.size, 2, none⟩ = some (.int .i64 r) := (hc1 _ _ (by simp only [World.size_alloc]; omega)).trans (by simp)
      have hx2 : w1.cell? ⟨w.heap.size + 1, 2, none⟩ = some (.int .i64 0) := (hc1 _ _ (by simp only [World.size_alloc]; omega)).trans (by simp)
      have hv2 : w1.frozen? ⟨w.heap.size, 2, none⟩ = false := (hf1 _ _ (by simp only [World.size_alloc]; omega)).trans (by simp)
      have hu2 : w1.frozen? ⟨w.heap.size + 1, 2, none⟩ = false := (hf1 _ _ (by simp only [World.size_alloc]; omega)).trans (by simp)
      have hy3 : w1.cell? ⟨w.heap.size, 3, none⟩ = some (.int .i64 s) := (hc1 _ _ (by simp only [World.size_alloc]; omega)).trans (by simp)
      have hx3 : w1.cell? ⟨w.heap.size + 1, 3, none⟩ = some (.int .i64 0) := (hc1 _ _ (by simp only [World.size_alloc]; omega)).trans (by simp)
      have hv3 : w1.frozen? ⟨w.heap.size, 3, none⟩ = false := (hf1 _ _ (by simp only [World.size_alloc]; omega)).trans (by simp)
      have hu3 : w1.frozen? ⟨w.heap.size + 1, 3, none⟩ = false := (hf1 _ _ (by simp only [World.size_alloc]; omega)).trans (by simp)
      have hy4 : w1.cell? ⟨w.heap.size, 4, none⟩ = some (.int .i64 v) := (hc1 _ _ (by simp only [World.size_alloc]; omega)).trans (by simp)
      have hx4 : w1.cell? ⟨w.heap.size + 1, 4, none⟩ = some (.int .i64 0) := (hc1 _ _ (by simp only [World.size_alloc]; omega)).trans (by simp)
      have hv4 : w1.frozen? ⟨w.heap.size, 4, none⟩ = false := (hf1 _ _ (by simp only [World.size_alloc]; omega)).trans (by simp)
      have hu4 : w1.frozen? ⟨w.heap.size + 1, 4, none⟩ = false := (hf1 _ _ (by simp only [World.size_alloc]; omega)).trans (by simp)
      have hz1 := hb.size
      simp only [World.size_alloc] at hz1
      have HB1 := Lib.hid ((show Below w.heap.size w _ from by go_grown).trans (hb.mono (by simp only [World.size_alloc]; omega)))
      clear hb hc1 hf1
      go_wp2_with (go_at_call 18; refine (within_any _ _ _ _).mono ?_; rintro e w' ⟨rfl, rfl⟩)
      try simp only [Exit.inBlock, Exit.then]
      refine bodyPost_ret (by simp [results, Try.results7, go_sem, hx0, hx1, hx2, hx3, hx4]; try rfl) rfl ?_
      exact ⟨rfl, HB1.out.trans (by go_grown)⟩
    cases g4 : decide (s < n)
    · rw [g4] at g4'
      simp only [Bool.not_false] at g4'
      clear h2 g5'
      go_enter Try.func7, Try.ntmps7
      go_wp2_with fail
      refine (isState_any _ _ _ _ _ _).mono ?_
      rintro e w1 ⟨rfl, hb⟩
      obtain ⟨hc1, hf1⟩ := bcell hb
      have hy0 : w1.cell? ⟨w.heap.size, 0, none⟩ = some (.int .i64 t) := (hc1 _ _ (by simp only [World.size_alloc]; omega)).trans (by simp)
      have hx0 : w1.cell? ⟨w.heap.size + 1, 0, none⟩ = some (.int .i64 0) := (hc1 _ _ (by simp only [World.size_alloc]; omega)).trans (by simp)
      have hv0 : w1.frozen? ⟨w.heap.size, 0, none⟩ = false := (hf1 _ _ (by simp only [World.size_alloc]; omega)).trans (by simp)
      have hu0 : w1.frozen? ⟨w.heap.size + 1, 0, none⟩ = false := (hf1 _ _ (by simp only [World.size_alloc]; omega)).trans (by simp)
      have hy1 : w1.cell? ⟨w.heap.size, 1, none⟩ = some (.int .i64 m) := (hc1 _ _ (by simp only [World.size_alloc]; omega)).trans (by simp)
      have hx1 : w1.cell? ⟨w.heap.size + 1, 1, none⟩ = some (.int .i64 0) := (hc1 _ _ (by simp only [World.size_alloc]; omega)).trans (by simp)
      have hv1 : w1.frozen? ⟨w.heap.size, 1, none⟩ = false := (hf1 _ _ (by simp only [World.size_alloc]; omega)).trans (by simp)
      have hu1 : w1.frozen? ⟨w.heap.size + 1, 1, none⟩ = false := (hf1 _ _ (by simp only [World.size_alloc]; omega)).trans (by simp)
      have hy2 : w1.cell? ⟨w.heap.size, 2, none⟩ = some (.int .i64 r) := (hc1 _ _ (by simp only [World.size_alloc]; omega)).trans (by simp)
      have hx2 : w1.cell? ⟨w.heap.size + 1, 2, none⟩ = some (.int .i64 0) := (hc1 _ _ (by simp only [World.size_alloc]; omega)).trans (by simp)
      have hv2 : w1.frozen? ⟨w.heap.size, 2, none⟩ = false := (hf1 _ _ (by simp only [World.size_alloc]; omega)).trans (by simp)
      have hu2 : w1.frozen? ⟨w.heap.size + 1, 2, none⟩ = false := (hf1 _ _ (by simp only [World.size_alloc]; omega)).trans (by simp)
      have hy3 : w1.cell? ⟨w.heap.size, 3, none⟩ = some (.int .i64 s) := (hc1 _ _ (by simp only [World.size_alloc]; omega)).trans (by simp)
      have hx3 : w1.cell? ⟨w.heap.size + 1, 3, none⟩ = some (.int .i64 0) := (hc1 _ _ (by simp only [World.size_alloc]; omega)).trans (by simp)
      have hv3 : w1.frozen? ⟨w.heap.size, 3, none⟩ = false := (hf1 _ _ (by simp only [World.size_alloc]; omega)).trans (by simp)
      have hu3 : w1.frozen? ⟨w.heap.size + 1, 3, none⟩ = false := (hf1 _ _ (by simp only [World.size_alloc]; omega)).trans (by simp)
      have hy4 : w1.cell? ⟨w.heap.size, 4, none⟩ = some (.int .i64 v) := (hc1 _ _ (by simp only [World.size_alloc]; omega)).trans (by simp)
      have hx4 : w1.cell? ⟨w.heap.size + 1, 4, none⟩ = some (.int .i64 0) := (hc1 _ _ (by simp only [World.size_alloc]; omega)).trans (by simp)
      have hv4 : w1.frozen? ⟨w.heap.size, 4, none⟩ = false := (hf1 _ _ (by simp only [World.size_alloc]; omega)).trans (by simp)
      have hu4 : w1.frozen? ⟨w.heap.size + 1, 4, none⟩ = false := (hf1 _ _ (by simp only [World.size_alloc]; omega)).trans (by simp)
      have hz1 := hb.size
      simp only [World.size_alloc] at hz1
      have HB1 := Lib.hid ((show Below w.heap.size w _ from by go_grown).trans (hb.mono (by simp only [World.size_alloc]; omega)))
      clear hb hc1 hf1
      go_wp2_with (go_at_call 18; refine (within_any _ _ _ _).mono ?_; rintro e w' ⟨rfl, rfl⟩)
      try simp only [Exit.inBlock, Exit.then]
      refine bodyPost_ret (by simp [results, Try.results7, go_sem, hx0, hx1, hx2, hx3, hx4]; try rfl) rfl ?_
      exact ⟨rfl, HB1.out.trans (by go_grown)⟩
    cases g5 : decide (r < k)
    · rw [g4] at g4'
      rw [g5] at g5'
      simp only [Bool.not_true, Bool.not_false] at g4' g5'
      clear h2
      go_enter Try.func7, Try.ntmps7
      go_wp2_with fail
      refine (isState_any _ _ _ _ _ _).mono ?_
      rintro e w1 ⟨rfl, hb⟩
      obtain ⟨hc1, hf1⟩ := bcell hb
      have hy0 : w1.cell? ⟨w.heap.size, 0, none⟩ = some (.int .i64 t) := (hc1 _ _ (by simp only [World.size_alloc]; omega)).trans (by simp)
      have hx0 : w1.cell? ⟨w.heap.size + 1, 0, none⟩ = some (.int .i64 0) := (hc1 _ _ (by simp only [World.size_alloc]; omega)).trans (by simp)
      have hv0 : w1.frozen? ⟨w.heap.size, 0, none⟩ = false := (hf1 _ _ (by simp only [World.size_alloc]; omega)).trans (by simp)
      have hu0 : w1.frozen? ⟨w.heap.size + 1, 0, none⟩ = false := (hf1 _ _ (by simp only [World.size_alloc]; omega)).trans (by simp)
      have hy1 : w1.cell? ⟨w.heap.size, 1, none⟩ = some (.int .i64 m) := (hc1 _ _ (by simp only [World.size_alloc]; omega)).trans (by simp)
      have hx1 : w1.cell? ⟨w.heap.size + 1, 1, none⟩ = some (.int .i64 0) := (hc1 _ _ (by simp only [World.size_alloc]; omega)).trans (by simp)
      have hv1 : w1.frozen? ⟨w.heap.size, 1, none⟩ = false := (hf1 _ _ (by simp only [World.size_alloc]; omega)).trans (by simp)
      have hu1 : w1.frozen? ⟨w.heap.size + 1, 1, none⟩ = false := (hf1 _ _ (by simp only [World.size_alloc]; omega)).trans (by simp)
      have hy2 : w1.cell? ⟨w.heap.size, 2, none⟩ = some (.int .i64 r) := (hc1 _ _ (by simp only [World.size_alloc]; omega)).trans (by simp)
      have hx2 : w1.cell? ⟨w.heap.size + 1, 2, none⟩ = some (.int .i64 0) := (hc1 _ _ (by simp only [World.size_alloc]; omega)).trans (by simp)
      have hv2 : w1.frozen? ⟨w.heap.size, 2, none⟩ = false := (hf1 _ _ (by simp only [World.size_alloc]; omega)).trans (by simp)
      have hu2 : w1.frozen? ⟨w.heap.size + 1, 2, none⟩ = false := (hf1 _ _ (by simp only [World.size_alloc]; omega)).trans (by simp)
      have hy3 : w1.cell? ⟨w.heap.size, 3, none⟩ = some (.int .i64 s) := (hc1 _ _ (by simp only [World.size_alloc]; omega)).trans (by simp)
      have hx3 : w1.cell? ⟨w.heap.size + 1, 3, none⟩ = some (.int .i64 0) := (hc1 _ _ (by simp only [World.size_alloc]; omega)).trans (by simp)
      have hv3 : w1.frozen? ⟨w.heap.size, 3, none⟩ = false := (hf1 _ _ (by simp only [World.size_alloc]; omega)).trans (by simp)
      have hu3 : w1.frozen? ⟨w.heap.size + 1, 3, none⟩ = false := (hf1 _ _ (by simp only [World.size_alloc]; omega)).trans (by simp)
      have hy4 : w1.cell? ⟨w.heap.size, 4, none⟩ = some (.int .i64 v) := (hc1 _ _ (by simp only [World.size_alloc]; omega)).trans (by simp)
      have hx4 : w1.cell? ⟨w.heap.size + 1, 4, none⟩ = some (.int .i64 0) := (hc1 _ _ (by simp only [World.size_alloc]; omega)).trans (by simp)
      have hv4 : w1.frozen? ⟨w.heap.size, 4, none⟩ = false := (hf1 _ _ (by simp only [World.size_alloc]; omega)).trans (by simp)
      have hu4 : w1.frozen? ⟨w.heap.size + 1, 4, none⟩ = false := (hf1 _ _ (by simp only [World.size_alloc]; omega)).trans (by simp)
      have hz1 := hb.size
      simp only [World.size_alloc] at hz1
      have HB1 := Lib.hid ((show Below w.heap.size w _ from by go_grown).trans (hb.mono (by simp only [World.size_alloc]; omega)))
      clear hb hc1 hf1
      go_wp2_with (go_at_call 18; refine (within_any _ _ _ _).mono ?_; rintro e w' ⟨rfl, rfl⟩)
      try simp only [Exit.inBlock, Exit.then]
      refine bodyPost_ret (by simp [results, Try.results7, go_sem, hx0, hx1, hx2, hx3, hx4]; try rfl) rfl ?_
      exact ⟨rfl, HB1.out.trans (by go_grown)⟩
    exfalso
    rw [g1, g2, g3, g4, g5] at h2
    simp at h2
  · have hf : advB t m r s v d n k = (advTo t m r s v d n k, 0) := by simp [advB, h1, h2]
    rw [hf]; clear hf
    simp only [Bool.not_eq_false] at h2
    unfold advOk at h2
    simp only [Bool.and_eq_true, decide_eq_true_eq] at h2
    obtain ⟨⟨⟨⟨g1, g2⟩, g3⟩, g4⟩, g5⟩ := h2
    obtain ⟨d1, d2⟩ := inB_yes g1
    obtain ⟨n1, n2⟩ := inB_yes g2
    obtain ⟨k1, k2⟩ := inB_yes g3
    have g4' : decide (n ≤ s) = false := by simp; omega
    have g5' : decide (k ≤ r) = false := by simp; omega
    unfold advTo
    obtain ⟨y, hy⟩ : ∃ y, y = s + 1 := ⟨_, rfl⟩
    rw [← hy]
    have HY := Lib.hid hy
    have hyb : 1 ≤ y ∧ y ≤ 256 := by omega
    clear hy
    cases hsn : (y == n)
    · have HSN := Lib.hid hsn
      clear hsn
      rw [if_neg (by decide)]
      go_enter Try.func7, Try.ntmps7
      go_wp2_with fail
      refine (isState_any _ _ _ _ _ _).mono ?_
      rintro e w1 ⟨rfl, hb⟩
      obtain ⟨hc1, hf1⟩ := bcell hb
      have hy0 : w1.cell? ⟨w.heap.size, 0, none⟩ = some (.int .i64 t) := (hc1 _ _ (by simp only [World.size_alloc]; omega)).trans (by simp)
      have hx0 : w1.cell? ⟨w.heap.size + 1, 0, none⟩ = some (.int .i64 0) := (hc1 _ _ (by simp only [World.size_alloc]; omega)).trans (by simp)
      have hv0 : w1.frozen? ⟨w.heap.size, 0, none⟩ = false := (hf1 _ _ (by simp only [World.size_alloc]; omega)).trans (by simp)
      have hu0 : w1.frozen? ⟨w.heap.size + 1, 0, none⟩ = false := (hf1 _ _ (by simp only [World.size_alloc]; omega)).trans (by simp)
      have hy1 : w1.cell? ⟨w.heap.size, 1, none⟩ = some (.int .i64 m) := (hc1 _ _ (by simp only [World.size_alloc]; omega)).trans (by simp)
      have hx1 : w1.cell? ⟨w.heap.size + 1, 1, none⟩ = some (.int .i64 0) := (hc1 _ _ (by simp only [World.size_alloc]; omega)).trans (by simp)
      have hv1 : w1.frozen? ⟨w.heap.size, 1, none⟩ = false := (hf1 _ _ (by simp only [World.size_alloc]; omega)).trans (by simp)
      have hu1 : w1.frozen? ⟨w.heap.size + 1, 1, none⟩ = false := (hf1 _ _ (by simp only [World.size_alloc]; omega)).trans (by simp)
      have hy2 : w1.cell? ⟨w.heap.size, 2, none⟩ = some (.int .i64 r) := (hc1 _ _ (by simp only [World.size_alloc]; omega)).trans (by simp)
      have hx2 : w1.cell? ⟨w.heap.size + 1, 2, none⟩ = some (.int .i64 0) := (hc1 _ _ (by simp only [World.size_alloc]; omega)).trans (by simp)
      have hv2 : w1.frozen? ⟨w.heap.size, 2, none⟩ = false := (hf1 _ _ (by simp only [World.size_alloc]; omega)).trans (by simp)
      have hu2 : w1.frozen? ⟨w.heap.size + 1, 2, none⟩ = false := (hf1 _ _ (by simp only [World.size_alloc]; omega)).trans (by simp)
      have hy3 : w1.cell? ⟨w.heap.size, 3, none⟩ = some (.int .i64 s) := (hc1 _ _ (by simp only [World.size_alloc]; omega)).trans (by simp)
      have hx3 : w1.cell? ⟨w.heap.size + 1, 3, none⟩ = some (.int .i64 0) := (hc1 _ _ (by simp only [World.size_alloc]; omega)).trans (by simp)
      have hv3 : w1.frozen? ⟨w.heap.size, 3, none⟩ = false := (hf1 _ _ (by simp only [World.size_alloc]; omega)).trans (by simp)
      have hu3 : w1.frozen? ⟨w.heap.size + 1, 3, none⟩ = false := (hf1 _ _ (by simp only [World.size_alloc]; omega)).trans (by simp)
      have hy4 : w1.cell? ⟨w.heap.size, 4, none⟩ = some (.int .i64 v) := (hc1 _ _ (by simp only [World.size_alloc]; omega)).trans (by simp)
      have hx4 : w1.cell? ⟨w.heap.size + 1, 4, none⟩ = some (.int .i64 0) := (hc1 _ _ (by simp only [World.size_alloc]; omega)).trans (by simp)
      have hv4 : w1.frozen? ⟨w.heap.size, 4, none⟩ = false := (hf1 _ _ (by simp only [World.size_alloc]; omega)).trans (by simp)
      have hu4 : w1.frozen? ⟨w.heap.size + 1, 4, none⟩ = false := (hf1 _ _ (by simp only [World.size_alloc]; omega)).trans (by simp)
      have hz1 := hb.size
      simp only [World.size_alloc] at hz1
      have HB1 := Lib.hid ((show Below w.heap.size w _ from by go_grown).trans (hb.mono (by simp only [World.size_alloc]; omega)))
      clear hb hc1 hf1
      go_upto_region 7 with (go_at_call 18; refine (within_any _ _ _ _).mono ?_; rintro e w' ⟨rfl, rfl⟩)
      obtain ⟨w2, hw2⟩ : ∃ w2, w2 = (w1.setCell ⟨w.heap.size, 0, none⟩ (.int .i64 ((t + d) % 65536))).setCell ⟨w.heap.size, 3, none⟩ (.int .i64 (s + 1)) := ⟨_, rfl⟩
      have hp0 : w2.cell? ⟨w.heap.size, 0, none⟩ = some (.int .i64 ((t + d) % 65536)) := by rw [hw2]; simp [go_sem, hy0, hy1, hy2, hy3, hy4]
      have hq0 : w2.cell? ⟨w.heap.size + 1, 0, none⟩ = some (.int .i64 0) := by rw [hw2]; simp [go_sem, hx0, hx1, hx2, hx3, hx4]
      have hr0 : w2.frozen? ⟨w.heap.size, 0, none⟩ = false := by rw [hw2]; simp [hv0, hv1, hv2, hv3, hv4]
      have hs0 : w2.frozen? ⟨w.heap.size + 1, 0, none⟩ = false := by rw [hw2]; simp [hu0, hu1, hu2, hu3, hu4]
      have hp1 : w2.cell? ⟨w.heap.size, 1, none⟩ = some (.int .i64 (m)) := by rw [hw2]; simp [go_sem, hy0, hy1, hy2, hy3, hy4]
      have hq1 : w2.cell? ⟨w.heap.size + 1, 1, none⟩ = some (.int .i64 0) := by rw [hw2]; simp [go_sem, hx0, hx1, hx2, hx3, hx4]
      have hr1 : w2.frozen? ⟨w.heap.size, 1, none⟩ = false := by rw [hw2]; simp [hv0, hv1, hv2, hv3, hv4]
      have hs1 : w2.frozen? ⟨w.heap.size + 1, 1, none⟩ = false := by rw [hw2]; simp [hu0, hu1, hu2, hu3, hu4]
      have hp2 : w2.cell? ⟨w.heap.size, 2, none⟩ = some (.int .i64 (r)) := by rw [hw2]; simp [go_sem, hy0, hy1, hy2, hy3, hy4]
      have hq2 : w2.cell? ⟨w.heap.size + 1, 2, none⟩ = some (.int .i64 0) := by rw [hw2]; simp [go_sem, hx0, hx1, hx2, hx3, hx4]
      have hr2 : w2.frozen? ⟨w.heap.size, 2, none⟩ = false := by rw [hw2]; simp [hv0, hv1, hv2, hv3, hv4]
      have hs2 : w2.frozen? ⟨w.heap.size + 1, 2, none⟩ = false := by rw [hw2]; simp [hu0, hu1, hu2, hu3, hu4]
      have hp3 : w2.cell? ⟨w.heap.size, 3, none⟩ = some (.int .i64 (y)) := by rw [hw2, HY.out]; simp [go_sem, hy0, hy1, hy2, hy3, hy4]
      have hq3 : w2.cell? ⟨w.heap.size + 1, 3, none⟩ = some (.int .i64 0) := by rw [hw2]; simp [go_sem, hx0, hx1, hx2, hx3, hx4]
      have hr3 : w2.frozen? ⟨w.heap.size, 3, none⟩ = false := by rw [hw2]; simp [hv0, hv1, hv2, hv3, hv4]
      have hs3 : w2.frozen? ⟨w.heap.size + 1, 3, none⟩ = false := by rw [hw2]; simp [hu0, hu1, hu2, hu3, hu4]
      have hp4 : w2.cell? ⟨w.heap.size, 4, none⟩ = some (.int .i64 (v)) := by rw [hw2]; simp [go_sem, hy0, hy1, hy2, hy3, hy4]
      have hq4 : w2.cell? ⟨w.heap.size + 1, 4, none⟩ = some (.int .i64 0) := by rw [hw2]; simp [go_sem, hx0, hx1, hx2, hx3, hx4]
      have hr4 : w2.frozen? ⟨w.heap.size, 4, none⟩ = false := by rw [hw2]; simp [hv0, hv1, hv2, hv3, hv4]
      have hs4 : w2.frozen? ⟨w.heap.size + 1, 4, none⟩ = false := by rw [hw2]; simp [hu0, hu1, hu2, hu3, hu4]
      have HB2 : Hid (Below w.heap.size w w2) := by
        show Below w.heap.size w w2
        rw [hw2]; exact (HB1.out.setCell (Nat.le_refl _) _).setCell (Nat.le_refl _) _
      rw [← hw2]
      clear hw2 hx0 hy0 hu0 hv0 hx1 hy1 hu1 hv1 hx2 hy2 hu2 hv2 hx3 hy3 hu3 hv3 hx4 hy4 hu4 hv4
      have hsn2 := HSN.out
      go_wp2
      try simp only [Exit.inBlock, Exit.then]
      refine bodyPost_ret (by simp [results, Try.results7, go_sem, hq0, hq1, hq2, hq3, hq4, hp0, hp1, hp2, hp3, hp4]; try rfl) rfl ?_
      exact ⟨rfl, HB2.out.trans (by go_grown)⟩
    · have HSN := Lib.hid hsn
      clear hsn
      rw [if_pos rfl]
      go_enter Try.func7, Try.ntmps7
      go_wp2_with fail
      refine (isState_any _ _ _ _ _ _).mono ?_
      rintro e w1 ⟨rfl, hb⟩
      obtain ⟨hc1, hf1⟩ := bcell hb
      have hy0 : w1.cell? ⟨w.heap.size, 0, none⟩ = some (.int .i64 t) := (hc1 _ _ (by simp only [World.size_alloc]; omega)).trans (by simp)
      have hx0 : w1.cell? ⟨w.heap.size + 1, 0, none⟩ = some (.int .i64 0) := (hc1 _ _ (by simp only [World.size_alloc]; omega)).trans (by simp)
      have hv0 : w1.frozen? ⟨w.heap.size, 0, none⟩ = false := (hf1 _ _ (by simp only [World.size_alloc]; omega)).trans (by simp)
      have hu0 : w1.frozen? ⟨w.heap.size + 1, 0, none⟩ = false := (hf1 _ _ (by simp only [World.size_alloc]; omega)).trans (by simp)
      have hy1 : w1.cell? ⟨w.heap.size, 1, none⟩ = some (.int .i64 m) := (hc1 _ _ (by simp only [World.size_alloc]; omega)).trans (by simp)
      have hx1 : w1.cell? ⟨w.heap.size + 1, 1, none⟩ = some (.int .i64 0) := (hc1 _ _ (by simp only [World.size_alloc]; omega)).trans (by simp)
      have hv1 : w1.frozen? ⟨w.heap.size, 1, none⟩ = false := (hf1 _ _ (by simp only [World.size_alloc]; omega)).trans (by simp)
      have hu1 : w1.frozen? ⟨w.heap.size + 1, 1, none⟩ = false := (hf1 _ _ (by simp only [World.size_alloc]; omega)).trans (by simp)
      have hy2 : w1.cell? ⟨w.heap.size, 2, none⟩ = some (.int .i64 r) := (hc1 _ _ (by simp only [World.size_alloc]; omega)).trans (by simp)
      have hx2 : w1.cell? ⟨w.heap.size + 1, 2, none⟩ = some (.int .i64 0) := (hc1 _ _ (by simp only [World.size_alloc]; omega)).trans (by simp)
      have hv2 : w1.frozen? ⟨w.heap.size, 2, none⟩ = false := (hf1 _ _ (by simp only [World.size_alloc]; omega)).trans (by simp)
      have hu2 : w1.frozen? ⟨w.heap.size + 1, 2, none⟩ = false := (hf1 _ _ (by simp only [World.size_alloc]; omega)).trans (by simp)
      have hy3 : w1.cell? ⟨w.heap.size, 3, none⟩ = some (.int .i64 s) := (hc1 _ _ (by simp only [World.size_alloc]; omega)).trans (by simp)
      have hx3 : w1.cell? ⟨w.heap.size + 1, 3, none⟩ = some (.int .i64 0) := (hc1 _ _ (by simp only [World.size_alloc]; omega)).trans (by simp)
      have hv3 : w1.frozen? ⟨w.heap.size, 3, none⟩ = false := (hf1 _ _ (by simp only [World.size_alloc]; omega)).trans (by simp)
      have hu3 : w1.frozen? ⟨w.heap.size + 1, 3, none⟩ = false := (hf1 _ _ (by simp only [World.size_alloc]; omega)).trans (by simp)
      have hy4 : w1.cell? ⟨w.heap.size, 4, none⟩ = some (.int .i64 v) := (hc1 _ _ (by simp only [World.size_alloc]; omega)).trans (by simp)
      have hx4 : w1.cell? ⟨w.heap.size + 1, 4, none⟩ = some (.int .i64 0) := (hc1 _ _ (by simp only [World.size_alloc]; omega)).trans (by simp)
      have hv4 : w1.frozen? ⟨w.heap.size, 4, none⟩ = false := (hf1 _ _ (by simp only [World.size_alloc]; omega)).trans (by simp)
      have hu4 : w1.frozen? ⟨w.heap.size + 1, 4, none⟩ = false := (hf1 _ _ (by simp only [World.size_alloc]; omega)).trans (by simp)
      have hz1 := hb.size
      simp only [World.size_alloc] at hz1
      have HB1 := Lib.hid ((show Below w.heap.size w _ from by go_grown).trans (hb.mono (by simp only [World.size_alloc]; omega)))
      clear hb hc1 hf1
      go_upto_region 7 with (go_at_call 18; refine (within_any _ _ _ _).mono ?_; rintro e w' ⟨rfl, rfl⟩)
      obtain ⟨w2, hw2⟩ : ∃ w2, w2 = (w1.setCell ⟨w.heap.size, 0, none⟩ (.int .i64 ((t + d) % 65536))).setCell ⟨w.heap.size, 3, none⟩ (.int .i64 (s + 1)) := ⟨_, rfl⟩
      have hp0 : w2.cell? ⟨w.heap.size, 0, none⟩ = some (.int .i64 ((t + d) % 65536)) := by rw [hw2]; simp [go_sem, hy0, hy1, hy2, hy3, hy4]
      have hq0 : w2.cell? ⟨w.heap.size + 1, 0, none⟩ = some (.int .i64 0) := by rw [hw2]; simp [go_sem, hx0, hx1, hx2, hx3, hx4]
      have hr0 : w2.frozen? ⟨w.heap.size, 0, none⟩ = false := by rw [hw2]; simp [hv0, hv1, hv2, hv3, hv4]
      have hs0 : w2.frozen? ⟨w.heap.size + 1, 0, none⟩ = false := by rw [hw2]; simp [hu0, hu1, hu2, hu3, hu4]
      have hp1 : w2.cell? ⟨w.heap.size, 1, none⟩ = some (.int .i64 (m)) := by rw [hw2]; simp [go_sem, hy0, hy1, hy2, hy3, hy4]
      have hq1 : w2.cell? ⟨w.heap.size + 1, 1, none⟩ = some (.int .i64 0) := by rw [hw2]; simp [go_sem, hx0, hx1, hx2, hx3, hx4]
      have hr1 : w2.frozen? ⟨w.heap.size, 1, none⟩ = false := by rw [hw2]; simp [hv0, hv1, hv2, hv3, hv4]
      have hs1 : w2.frozen? ⟨w.heap.size + 1, 1, none⟩ = false := by rw [hw2]; simp [hu0, hu1, hu2, hu3, hu4]
      have hp2 : w2.cell? ⟨w.heap.size, 2, none⟩ = some (.int .i64 (r)) := by rw [hw2]; simp [go_sem, hy0, hy1, hy2, hy3, hy4]
      have hq2 : w2.cell? ⟨w.heap.size + 1, 2, none⟩ = some (.int .i64 0) := by rw [hw2]; simp [go_sem, hx0, hx1, hx2, hx3, hx4]
      have hr2 : w2.frozen? ⟨w.heap.size, 2, none⟩ = false := by rw [hw2]; simp [hv0, hv1, hv2, hv3, hv4]
      have hs2 : w2.frozen? ⟨w.heap.size + 1, 2, none⟩ = false := by rw [hw2]; simp [hu0, hu1, hu2, hu3, hu4]
      have hp3 : w2.cell? ⟨w.heap.size, 3, none⟩ = some (.int .i64 (y)) := by rw [hw2, HY.out]; simp [go_sem, hy0, hy1, hy2, hy3, hy4]
      have hq3 : w2.cell? ⟨w.heap.size + 1, 3, none⟩ = some (.int .i64 0) := by rw [hw2]; simp [go_sem, hx0, hx1, hx2, hx3, hx4]
      have hr3 : w2.frozen? ⟨w.heap.size, 3, none⟩ = false := by rw [hw2]; simp [hv0, hv1, hv2, hv3, hv4]
      have hs3 : w2.frozen? ⟨w.heap.size + 1, 3, none⟩ = false := by rw [hw2]; simp [hu0, hu1, hu2, hu3, hu4]
      have hp4 : w2.cell? ⟨w.heap.size, 4, none⟩ = some (.int .i64 (v)) := by rw [hw2]; simp [go_sem, hy0, hy1, hy2, hy3, hy4]
      have hq4 : w2.cell? ⟨w.heap.size + 1, 4, none⟩ = some (.int .i64 0) := by rw [hw2]; simp [go_sem, hx0, hx1, hx2, hx3, hx4]
      have hr4 : w2.frozen? ⟨w.heap.size, 4, none⟩ = false := by rw [hw2]; simp [hv0, hv1, hv2, hv3, hv4]
      have hs4 : w2.frozen? ⟨w.heap.size + 1, 4, none⟩ = false := by rw [hw2]; simp [hu0, hu1, hu2, hu3, hu4]
      have HB2 : Hid (Below w.heap.size w w2) := by
        show Below w.heap.size w w2
        rw [hw2]; exact (HB1.out.setCell (Nat.le_refl _) _).setCell (Nat.le_refl _) _
      rw [← hw2]
      clear hw2 hx0 hy0 hu0 hv0 hx1 hy1 hu1 hv1 hx2 hy2 hu2 hv2 hx3 hy3 hu3 hv3 hx4 hy4 hu4 hv4
      have hsn2 := HSN.out
      go_wp2
      try simp only [Exit.inBlock, Exit.then]
      refine bodyPost_ret (by simp [results, Try.results7, go_sem, hq0, hq1, hq2, hq3, hq4, hp0, hp1, hp2, hp3, hp4]; try rfl) rfl ?_
      exact ⟨rfl, HB2.out.trans (by go_grown)⟩
set_option maxHeartbeats 2000000 in
theorem l04Advance_any (t m r s v d n k : Int) (w : World) (ht : 0 ≤ t) (ht2 : t ≤ 65535) (hd : 0 ≤ d) (hd2 : d ≤ 65535) (hr : 0 ≤ r) (hr2 : r < k) (hs : 0 ≤ s) (hs2 : s ≤ 255) (hk2 : k ≤ 16) :
    Calls Try.prog 21 #[.agg #[.int .i64 t, .int .i64 m, .int .i64 r, .int .i64 s, .int .i64 v], .int .i64 d, .int .i64 n, .int .i64 k] w
    fun e w' => e = .returned (.agg #[.int .i64 (advTo t m r s v d n k).t, .int .i64 (advTo t m r s v d n k).m, .int .i64 (advTo t m r s v d n k).r, .int .i64 (advTo t m r s v d n k).s, .int .i64 (advTo t m r s v d n k).v]) ∧ Below w.heap.size w w' := by
  unfold advTo
  obtain ⟨y, hy⟩ : ∃ y, y = s + 1 := ⟨_, rfl⟩
  cases hsn : (s + 1 == n)
  · rw [if_neg (by decide)]
    have hne : ¬ (s + 1 = n) := by simpa using hsn
    go_enter Try.func21, Try.ntmps21
    go_wp2
    go_returns
    exact ⟨rfl, by go_grown⟩
  · rw [if_pos rfl]
    have hne : s + 1 = n := by simpa using hsn
    subst hne
    go_enter Try.func21, Try.ntmps21
    go_wp2
    go_returns
    exact ⟨rfl, by go_grown⟩
set_option maxHeartbeats 4000000 in
theorem sAdvanceState_any (t m r s v d n k : Int) (w : World) : Calls Try.prog 8 #[.agg #[.int .i64 t, .int .i64 m, .int .i64 r, .int .i64 s, .int .i64 v], .int .i64 d, .int .i64 n, .int .i64 k] w
    fun e w' => e = .returned (.tuple #[(advB t m r s v d n k).1.val, .int .i64 (advB t m r s v d n k).2]) ∧ Below w.heap.size w w' := by
  cases h1 : stB t m r s v
  · have hf : advB t m r s v d n k = (⟨0, 0, 0, 0, 0⟩, 1) := by simp [advB, h1]
    rw [hf]; clear hf
    go_enter Try.func8, Try.ntmps8
    go_wp2_with fail
    refine (sIsState_any _ _ _ _ _ _).mono ?_
    rintro e w1 ⟨rfl, hb⟩
    obtain ⟨hc1, hf1⟩ := bcell hb
    have hy0 : w1.cell? ⟨w.heap.size, 0, none⟩ = some (.int .i64 t) := (hc1 _ _ (by simp only [World.size_alloc]; omega)).trans (by simp)
    have hx0 : w1.cell? ⟨w.heap.size + 1, 0, none⟩ = some (.int .i64 0) := (hc1 _ _ (by simp only [World.size_alloc]; omega)).trans (by simp)
    have hv0 : w1.frozen? ⟨w.heap.size, 0, none⟩ = false := (hf1 _ _ (by simp only [World.size_alloc]; omega)).trans (by simp)
    have hu0 : w1.frozen? ⟨w.heap.size + 1, 0, none⟩ = false := (hf1 _ _ (by simp only [World.size_alloc]; omega)).trans (by simp)
    have hy1 : w1.cell? ⟨w.heap.size, 1, none⟩ = some (.int .i64 m) := (hc1 _ _ (by simp only [World.size_alloc]; omega)).trans (by simp)
    have hx1 : w1.cell? ⟨w.heap.size + 1, 1, none⟩ = some (.int .i64 0) := (hc1 _ _ (by simp only [World.size_alloc]; omega)).trans (by simp)
    have hv1 : w1.frozen? ⟨w.heap.size, 1, none⟩ = false := (hf1 _ _ (by simp only [World.size_alloc]; omega)).trans (by simp)
    have hu1 : w1.frozen? ⟨w.heap.size + 1, 1, none⟩ = false := (hf1 _ _ (by simp only [World.size_alloc]; omega)).trans (by simp)
    have hy2 : w1.cell? ⟨w.heap.size, 2, none⟩ = some (.int .i64 r) := (hc1 _ _ (by simp only [World.size_alloc]; omega)).trans (by simp)
    have hx2 : w1.cell? ⟨w.heap.size + 1, 2, none⟩ = some (.int .i64 0) := (hc1 _ _ (by simp only [World.size_alloc]; omega)).trans (by simp)
    have hv2 : w1.frozen? ⟨w.heap.size, 2, none⟩ = false := (hf1 _ _ (by simp only [World.size_alloc]; omega)).trans (by simp)
    have hu2 : w1.frozen? ⟨w.heap.size + 1, 2, none⟩ = false := (hf1 _ _ (by simp only [World.size_alloc]; omega)).trans (by simp)
    have hy3 : w1.cell? ⟨w.heap.size, 3, none⟩ = some (.int .i64 s) := (hc1 _ _ (by simp only [World.size_alloc]; omega)).trans (by simp)
    have hx3 : w1.cell? ⟨w.heap.size + 1, 3, none⟩ = some (.int .i64 0) := (hc1 _ _ (by simp only [World.size_alloc]; omega)).trans (by simp)
    have hv3 : w1.frozen? ⟨w.heap.size, 3, none⟩ = false := (hf1 _ _ (by simp only [World.size_alloc]; omega)).trans (by simp)
    have hu3 : w1.frozen? ⟨w.heap.size + 1, 3, none⟩ = false := (hf1 _ _ (by simp only [World.size_alloc]; omega)).trans (by simp)
    have hy4 : w1.cell? ⟨w.heap.size, 4, none⟩ = some (.int .i64 v) := (hc1 _ _ (by simp only [World.size_alloc]; omega)).trans (by simp)
    have hx4 : w1.cell? ⟨w.heap.size + 1, 4, none⟩ = some (.int .i64 0) := (hc1 _ _ (by simp only [World.size_alloc]; omega)).trans (by simp)
    have hv4 : w1.frozen? ⟨w.heap.size, 4, none⟩ = false := (hf1 _ _ (by simp only [World.size_alloc]; omega)).trans (by simp)
    have hu4 : w1.frozen? ⟨w.heap.size + 1, 4, none⟩ = false := (hf1 _ _ (by simp only [World.size_alloc]; omega)).trans (by simp)
    have hz1 := hb.size
    simp only [World.size_alloc] at hz1
    have HB1 := Lib.hid ((show Below w.heap.size w _ from by go_grown).trans (hb.mono (by simp only [World.size_alloc]; omega)))
    clear hb hc1 hf1
    go_wp2_with fail
    try simp only [Exit.inBlock, Exit.then]
    refine bodyPost_ret (by simp [results, Try.results8, go_sem, hx0, hx1, hx2, hx3, hx4]; try rfl) rfl ?_
    exact ⟨rfl, HB1.out.trans (by go_grown)⟩
  obtain ⟨hst1, hst2, hst3, hst4, hst5, hst6⟩ := stB_parts h1
  by_cases h2 : advOk r s d n k = false
  · have hf : advB t m r s v d n k = (⟨0, 0, 0, 0, 0⟩, 2) := by simp [advB, h1, h2]
    rw [hf]; clear hf
    unfold advOk at h2
    have g4' : decide (n ≤ s) = !decide (s < n) := by by_cases q : s < n <;> simp [q] <;> omega
    have g5' : decide (k ≤ r) = !decide (r < k) := by by_cases q : r < k <;> simp [q] <;> omega
    cases g1 : inB d 0 65535
    · clear h2 g4' g5'
      go_enter Try.func8, Try.ntmps8
      go_wp2_with fail
      refine (sIsState_any _ _ _ _ _ _).mono ?_
      rintro e w1 ⟨rfl, hb⟩
      obtain ⟨hc1, hf1⟩ := bcell hb
      have hy0 : w1.cell? ⟨w.heap.size, 0, none⟩ = some (.int .i64 t) := (hc1 _ _ (by simp only [World.size_alloc]; omega)).trans (by simp)
      have hx0 : w1.cell? ⟨w.heap.size + 1, 0, none⟩ = some (.int .i64 0) := (hc1 _ _ (by simp only [World.size_alloc]; omega)).trans (by simp)
      have hv0 : w1.frozen? ⟨w.heap.size, 0, none⟩ = false := (hf1 _ _ (by simp only [World.size_alloc]; omega)).trans (by simp)
      have hu0 : w1.frozen? ⟨w.heap.size + 1, 0, none⟩ = false := (hf1 _ _ (by simp only [World.size_alloc]; omega)).trans (by simp)
      have hy1 : w1.cell? ⟨w.heap.size, 1, none⟩ = some (.int .i64 m) := (hc1 _ _ (by simp only [World.size_alloc]; omega)).trans (by simp)
      have hx1 : w1.cell? ⟨w.heap.size + 1, 1, none⟩ = some (.int .i64 0) := (hc1 _ _ (by simp only [World.size_alloc]; omega)).trans (by simp)
      have hv1 : w1.frozen? ⟨w.heap.size, 1, none⟩ = false := (hf1 _ _ (by simp only [World.size_alloc]; omega)).trans (by simp)
      have hu1 : w1.frozen? ⟨w.heap.size + 1, 1, none⟩ = false := (hf1 _ _ (by simp only [World.size_alloc]; omega)).trans (by simp)
      have hy2 : w1.cell? ⟨w.heap.size, 2, none⟩ = some (.int .i64 r) := (hc1 _ _ (by simp only [World.size_alloc]; omega)).trans (by simp)
      have hx2 : w1.cell? ⟨w.heap.size + 1, 2, none⟩ = some (.int .i64 0) := (hc1 _ _ (by simp only [World.size_alloc]; omega)).trans (by simp)
      have hv2 : w1.frozen? ⟨w.heap.size, 2, none⟩ = false := (hf1 _ _ (by simp only [World.size_alloc]; omega)).trans (by simp)
      have hu2 : w1.frozen? ⟨w.heap.size + 1, 2, none⟩ = false := (hf1 _ _ (by simp only [World.size_alloc]; omega)).trans (by simp)
      have hy3 : w1.cell? ⟨w.heap.size, 3, none⟩ = some (.int .i64 s) := (hc1 _ _ (by simp only [World.size_alloc]; omega)).trans (by simp)
      have hx3 : w1.cell? ⟨w.heap.size + 1, 3, none⟩ = some (.int .i64 0) := (hc1 _ _ (by simp only [World.size_alloc]; omega)).trans (by simp)
      have hv3 : w1.frozen? ⟨w.heap.size, 3, none⟩ = false := (hf1 _ _ (by simp only [World.size_alloc]; omega)).trans (by simp)
      have hu3 : w1.frozen? ⟨w.heap.size + 1, 3, none⟩ = false := (hf1 _ _ (by simp only [World.size_alloc]; omega)).trans (by simp)
      have hy4 : w1.cell? ⟨w.heap.size, 4, none⟩ = some (.int .i64 v) := (hc1 _ _ (by simp only [World.size_alloc]; omega)).trans (by simp)
      have hx4 : w1.cell? ⟨w.heap.size + 1, 4, none⟩ = some (.int .i64 0) := (hc1 _ _ (by simp only [World.size_alloc]; omega)).trans (by simp)
      have hv4 : w1.frozen? ⟨w.heap.size, 4, none⟩ = false := (hf1 _ _ (by simp only [World.size_alloc]; omega)).trans (by simp)
      have hu4 : w1.frozen? ⟨w.heap.size + 1, 4, none⟩ = false := (hf1 _ _ (by simp only [World.size_alloc]; omega)).trans (by simp)
      have hz1 := hb.size
      simp only [World.size_alloc] at hz1
      have HB1 := Lib.hid ((show Below w.heap.size w _ from by go_grown).trans (hb.mono (by simp only [World.size_alloc]; omega)))
      clear hb hc1 hf1
      go_wp2_with (go_at_call 20; refine (l01In_any _ _ _ _).mono ?_; rintro e w' ⟨rfl, rfl⟩)
      try simp only [Exit.inBlock, Exit.then]
      refine bodyPost_ret (by simp [results, Try.results8, go_sem, hx0, hx1, hx2, hx3, hx4]; try rfl) rfl ?_
      exact ⟨rfl, HB1.out.trans (by go_grown)⟩
    cases g2 : inB n 1 256
    · clear h2 g4' g5'
      go_enter Try.func8, Try.ntmps8
      go_wp2_with fail
      refine (sIsState_any _ _ _ _ _ _).mono ?_
      rintro e w1 ⟨rfl, hb⟩
      obtain ⟨hc1, hf1⟩ := bcell hb
      have hy0 : w1.cell? ⟨w.heap.size, 0, none⟩ = some (.int .i64 t) := (hc1 _ _ (by simp only [World.size_alloc]; omega)).trans (by simp)
      have hx0 : w1.cell? ⟨w.heap.size + 1, 0, none⟩ = some (.int .i64 0) := (hc1 _ _ (by simp only [World.size_alloc]; omega)).trans (by simp)
      have hv0 : w1.frozen? ⟨w.heap.size, 0, none⟩ = false := (hf1 _ _ (by simp only [World.size_alloc]; omega)).trans (by simp)
      have hu0 : w1.frozen? ⟨w.heap.size + 1, 0, none⟩ = false := (hf1 _ _ (by simp only [World.size_alloc]; omega)).trans (by simp)
      have hy1 : w1.cell? ⟨w.heap.size, 1, none⟩ = some (.int .i64 m) := (hc1 _ _ (by simp only [World.size_alloc]; omega)).trans (by simp)
      have hx1 : w1.cell? ⟨w.heap.size + 1, 1, none⟩ = some (.int .i64 0) := (hc1 _ _ (by simp only [World.size_alloc]; omega)).trans (by simp)
      have hv1 : w1.frozen? ⟨w.heap.size, 1, none⟩ = false := (hf1 _ _ (by simp only [World.size_alloc]; omega)).trans (by simp)
      have hu1 : w1.frozen? ⟨w.heap.size + 1, 1, none⟩ = false := (hf1 _ _ (by simp only [World.size_alloc]; omega)).trans (by simp)
      have hy2 : w1.cell? ⟨w.heap.size, 2, none⟩ = some (.int .i64 r) := (hc1 _ _ (by simp only [World.size_alloc]; omega)).trans (by simp)
      have hx2 : w1.cell? ⟨w.heap.size + 1, 2, none⟩ = some (.int .i64 0) := (hc1 _ _ (by simp only [World.size_alloc]; omega)).trans (by simp)
      have hv2 : w1.frozen? ⟨w.heap.size, 2, none⟩ = false := (hf1 _ _ (by simp only [World.size_alloc]; omega)).trans (by simp)
      have hu2 : w1.frozen? ⟨w.heap.size + 1, 2, none⟩ = false := (hf1 _ _ (by simp only [World.size_alloc]; omega)).trans (by simp)
      have hy3 : w1.cell? ⟨w.heap.size, 3, none⟩ = some (.int .i64 s) := (hc1 _ _ (by simp only [World.size_alloc]; omega)).trans (by simp)
      have hx3 : w1.cell? ⟨w.heap.size + 1, 3, none⟩ = some (.int .i64 0) := (hc1 _ _ (by simp only [World.size_alloc]; omega)).trans (by simp)
      have hv3 : w1.frozen? ⟨w.heap.size, 3, none⟩ = false := (hf1 _ _ (by simp only [World.size_alloc]; omega)).trans (by simp)
      have hu3 : w1.frozen? ⟨w.heap.size + 1, 3, none⟩ = false := (hf1 _ _ (by simp only [World.size_alloc]; omega)).trans (by simp)
      have hy4 : w1.cell? ⟨w.heap.size, 4, none⟩ = some (.int .i64 v) := (hc1 _ _ (by simp only [World.size_alloc]; omega)).trans (by simp)
      have hx4 : w1.cell? ⟨w.heap.size + 1, 4, none⟩ = some (.int .i64 0) := (hc1 _ _ (by simp only [World.size_alloc]; omega)).trans (by simp)
      have hv4 : w1.frozen? ⟨w.heap.size, 4, none⟩ = false := (hf1 _ _ (by simp only [World.size_alloc]; omega)).trans (by simp)
      have hu4 : w1.frozen? ⟨w.heap.size + 1, 4, none⟩ = false := (hf1 _ _ (by simp only [World.size_alloc]; omega)).trans (by simp)
      have hz1 := hb.size
      simp only [World.size_alloc] at hz1
      have HB1 := Lib.hid ((show Below w.heap.size w _ from by go_grown).trans (hb.mono (by simp only [World.size_alloc]; omega)))
      clear hb hc1 hf1
      go_wp2_with (go_at_call 20; refine (l01In_any _ _ _ _).mono ?_; rintro e w' ⟨rfl, rfl⟩)
      try simp only [Exit.inBlock, Exit.then]
      refine bodyPost_ret (by simp [results, Try.results8, go_sem, hx0, hx1, hx2, hx3, hx4]; try rfl) rfl ?_
      exact ⟨rfl, HB1.out.trans (by go_grown)⟩
    cases g3 : inB k 1 16
    · clear h2 g4' g5'
      go_enter Try.func8, Try.ntmps8
      go_wp2_with fail
      refine (sIsState_any _ _ _ _ _ _).mono ?_
      rintro e w1 ⟨rfl, hb⟩
      obtain ⟨hc1, hf1⟩ := bcell hb
      have hy0 : w1.cell? ⟨w.heap.size, 0, none⟩ = some (.int .i64 t) := (hc1 _ _ (by simp only [World.size_alloc]; omega)).trans (by simp)
      have hx0 : w1.cell? ⟨w.heap.size + 1, 0, none⟩ = some (.int .i64 0) := (hc1 _ _ (by simp only [World.size_alloc]; omega)).trans (by simp)
      have hv0 : w1.frozen? ⟨w.heap.size, 0, none⟩ = false := (hf1 _ _ (by simp only [World.size_alloc]; omega)).trans (by simp)
      have hu0 : w1.frozen? ⟨w.heap.size + 1, 0, none⟩ = false := (hf1 _ _ (by simp only [World.size_alloc]; omega)).trans (by simp)
      have hy1 : w1.cell? ⟨w.heap.size, 1, none⟩ = some (.int .i64 m) := (hc1 _ _ (by simp only [World.size_alloc]; omega)).trans (by simp)
      have hx1 : w1.cell? ⟨w.heap.size + 1, 1, none⟩ = some (.int .i64 0) := (hc1 _ _ (by simp only [World.size_alloc]; omega)).trans (by simp)
      have hv1 : w1.frozen? ⟨w.heap.size, 1, none⟩ = false := (hf1 _ _ (by simp only [World.size_alloc]; omega)).trans (by simp)
      have hu1 : w1.frozen? ⟨w.heap.size + 1, 1, none⟩ = false := (hf1 _ _ (by simp only [World.size_alloc]; omega)).trans (by simp)
      have hy2 : w1.cell? ⟨w.heap.size, 2, none⟩ = some (.int .i64 r) := (hc1 _ _ (by simp only [World.size_alloc]; omega)).trans (by simp)
      have hx2 : w1.cell? ⟨w.heap.size + 1, 2, none⟩ = some (.int .i64 0) := (hc1 _ _ (by simp only [World.size_alloc]; omega)).trans (by simp)
      have hv2 : w1.frozen? ⟨w.heap.size, 2, none⟩ = false := (hf1 _ _ (by simp only [World.size_alloc]; omega)).trans (by simp)
      have hu2 : w1.frozen? ⟨w.heap.size + 1, 2, none⟩ = false := (hf1 _ _ (by simp only [World.size_alloc]; omega)).trans (by simp)
      have hy3 : w1.cell? ⟨w.heap.size, 3, none⟩ = some (.int .i64 s) := (hc1 _ _ (by simp only [World.size_alloc]; omega)).trans (by simp)
      have hx3 : w1.cell? ⟨w.heap.size + 1, 3, none⟩ = some (.int .i64 0) := (hc1 _ _ (by simp only [World.size_alloc]; omega)).trans (by simp)
      have hv3 : w1.frozen? ⟨w.heap.size, 3, none⟩ = false := (hf1 _ _ (by simp only [World.size_alloc]; omega)).trans (by simp)
      have hu3 : w1.frozen? ⟨w.heap.size + 1, 3, none⟩ = false := (hf1 _ _ (by simp only [World.size_alloc]; omega)).trans (by simp)
      have hy4 : w1.cell? ⟨w.heap.size, 4, none⟩ = some (.int .i64 v) := (hc1 _ _ (by simp only [World.size_alloc]; omega)).trans (by simp)
      have hx4 : w1.cell? ⟨w.heap.size + 1, 4, none⟩ = some (.int .i64 0) := (hc1 _ _ (by simp only [World.size_alloc]; omega)).trans (by simp)
      have hv4 : w1.frozen? ⟨w.heap.size, 4, none⟩ = false := (hf1 _ _ (by simp only [World.size_alloc]; omega)).trans (by simp)
      have hu4 : w1.frozen? ⟨w.heap.size + 1, 4, none⟩ = false := (hf1 _ _ (by simp only [World.size_alloc]; omega)).trans (by simp)
      have hz1 := hb.size
      simp only [World.size_alloc] at hz1
      have HB1 := Lib.hid ((show Below w.heap.size w _ from by go_grown).trans (hb.mono (by simp only [World.size_alloc]; omega)))
      clear hb hc1 hf1
      go_wp2_with (go_at_call 20; refine (l01In_any _ _ _ _).mono ?_; rintro e w' ⟨rfl, rfl⟩)
      try simp only [Exit.inBlock, Exit.then]
      refine bodyPost_ret (by simp [results, Try.results8, go_sem, hx0, hx1, hx2, hx3, hx4]; try rfl) rfl ?_
      exact ⟨rfl, HB1.out.trans (by go_grown)⟩
    cases g4 : decide (s < n)
    · rw [g4] at g4'
      simp only [Bool.not_false] at g4'
      clear h2 g5'
      go_enter Try.func8, Try.ntmps8
      go_wp2_with fail
      refine (sIsState_any _ _ _ _ _ _).mono ?_
      rintro e w1 ⟨rfl, hb⟩
      obtain ⟨hc1, hf1⟩ := bcell hb
      have hy0 : w1.cell? ⟨w.heap.size, 0, none⟩ = some (.int .i64 t) := (hc1 _ _ (by simp only [World.size_alloc]; omega)).trans (by simp)
      have hx0 : w1.cell? ⟨w.heap.size + 1, 0, none⟩ = some (.int .i64 0) := (hc1 _ _ (by simp only [World.size_alloc]; omega)).trans (by simp)
      have hv0 : w1.frozen? ⟨w.heap.size, 0, none⟩ = false := (hf1 _ _ (by simp only [World.size_alloc]; omega)).trans (by simp)
      have hu0 : w1.frozen? ⟨w.heap.size + 1, 0, none⟩ = false := (hf1 _ _ (by simp only [World.size_alloc]; omega)).trans (by simp)
      have hy1 : w1.cell? ⟨w.heap.size, 1, none⟩ = some (.int .i64 m) := (hc1 _ _ (by simp only [World.size_alloc]; omega)).trans (by simp)
      have hx1 : w1.cell? ⟨w.heap.size + 1, 1, none⟩ = some (.int .i64 0) := (hc1 _ _ (by simp only [World.size_alloc]; omega)).trans (by simp)
      have hv1 : w1.frozen? ⟨w.heap.size, 1, none⟩ = false := (hf1 _ _ (by simp only [World.size_alloc]; omega)).trans (by simp)
      have hu1 : w1.frozen? ⟨w.heap.size + 1, 1, none⟩ = false := (hf1 _ _ (by simp only [World.size_alloc]; omega)).trans (by simp)
      have hy2 : w1.cell? ⟨w.heap.size, 2, none⟩ = some (.int .i64 r) := (hc1 _ _ (by simp only [World.size_alloc]; omega)).trans (by simp)
      have hx2 : w1.cell? ⟨w.heap.size + 1, 2, none⟩ = some (.int .i64 0) := (hc1 _ _ (by simp only [World.size_alloc]; omega)).trans (by simp)
      have hv2 : w1.frozen? ⟨w.heap.size, 2, none⟩ = false := (hf1 _ _ (by simp only [World.size_alloc]; omega)).trans (by simp)
      have hu2 : w1.frozen? ⟨w.heap.size + 1, 2, none⟩ = false := (hf1 _ _ (by simp only [World.size_alloc]; omega)).trans (by simp)
      have hy3 : w1.cell? ⟨w.heap.size, 3, none⟩ = some (.int .i64 s) := (hc1 _ _ (by simp only [World.size_alloc]; omega)).trans (by simp)
      have hx3 : w1.cell? ⟨w.heap.size + 1, 3, none⟩ = some (.int .i64 0) := (hc1 _ _ (by simp only [World.size_alloc]; omega)).trans (by simp)
      have hv3 : w1.frozen? ⟨w.heap.size, 3, none⟩ = false := (hf1 _ _ (by simp only [World.size_alloc]; omega)).trans (by simp)
      have hu3 : w1.frozen? ⟨w.heap.size + 1, 3, none⟩ = false := (hf1 _ _ (by simp only [World.size_alloc]; omega)).trans (by simp)
      have hy4 : w1.cell? ⟨w.heap.size, 4, none⟩ = some (.int .i64 v) := (hc1 _ _ (by simp only [World.size_alloc]; omega)).trans (by simp)
      have hx4 : w1.cell? ⟨w.heap.size + 1, 4, none⟩ = some (.int .i64 0) := (hc1 _ _ (by simp only [World.size_alloc]; omega)).trans (by simp)
      have hv4 : w1.frozen? ⟨w.heap.size, 4, none⟩ = false := (hf1 _ _ (by simp only [World.size_alloc]; omega)).trans (by simp)
      have hu4 : w1.frozen? ⟨w.heap.size + 1, 4, none⟩ = false := (hf1 _ _ (by simp only [World.size_alloc]; omega)).trans (by simp)
      have hz1 := hb.size
      simp only [World.size_alloc] at hz1
      have HB1 := Lib.hid ((show Below w.heap.size w _ from by go_grown).trans (hb.mono (by simp only [World.size_alloc]; omega)))
      clear hb hc1 hf1
      go_wp2_with (go_at_call 20; refine (l01In_any _ _ _ _).mono ?_; rintro e w' ⟨rfl, rfl⟩)
      try simp only [Exit.inBlock, Exit.then]
      refine bodyPost_ret (by simp [results, Try.results8, go_sem, hx0, hx1, hx2, hx3, hx4]; try rfl) rfl ?_
      exact ⟨rfl, HB1.out.trans (by go_grown)⟩
    cases g5 : decide (r < k)
    · rw [g4] at g4'
      rw [g5] at g5'
      simp only [Bool.not_true, Bool.not_false] at g4' g5'
      clear h2
      go_enter Try.func8, Try.ntmps8
      go_wp2_with fail
      refine (sIsState_any _ _ _ _ _ _).mono ?_
      rintro e w1 ⟨rfl, hb⟩
      obtain ⟨hc1, hf1⟩ := bcell hb
      have hy0 : w1.cell? ⟨w.heap.size, 0, none⟩ = some (.int .i64 t) := (hc1 _ _ (by simp only [World.size_alloc]; omega)).trans (by simp)
      have hx0 : w1.cell? ⟨w.heap.size + 1, 0, none⟩ = some (.int .i64 0) := (hc1 _ _ (by simp only [World.size_alloc]; omega)).trans (by simp)
      have hv0 : w1.frozen? ⟨w.heap.size, 0, none⟩ = false := (hf1 _ _ (by simp only [World.size_alloc]; omega)).trans (by simp)
      have hu0 : w1.frozen? ⟨w.heap.size + 1, 0, none⟩ = false := (hf1 _ _ (by simp only [World.size_alloc]; omega)).trans (by simp)
      have hy1 : w1.cell? ⟨w.heap.size, 1, none⟩ = some (.int .i64 m) := (hc1 _ _ (by simp only [World.size_alloc]; omega)).trans (by simp)
      have hx1 : w1.cell? ⟨w.heap.size + 1, 1, none⟩ = some (.int .i64 0) := (hc1 _ _ (by simp only [World.size_alloc]; omega)).trans (by simp)
      have hv1 : w1.frozen? ⟨w.heap.size, 1, none⟩ = false := (hf1 _ _ (by simp only [World.size_alloc]; omega)).trans (by simp)
      have hu1 : w1.frozen? ⟨w.heap.size + 1, 1, none⟩ = false := (hf1 _ _ (by simp only [World.size_alloc]; omega)).trans (by simp)
      have hy2 : w1.cell? ⟨w.heap.size, 2, none⟩ = some (.int .i64 r) := (hc1 _ _ (by simp only [World.size_alloc]; omega)).trans (by simp)
      have hx2 : w1.cell? ⟨w.heap.size + 1, 2, none⟩ = some (.int .i64 0) := (hc1 _ _ (by simp only [World.size_alloc]; omega)).trans (by simp)
      have hv2 : w1.frozen? ⟨w.heap.size, 2, none⟩ = false := (hf1 _ _ (by simp only [World.size_alloc]; omega)).trans (by simp)
      have hu2 : w1.frozen? ⟨w.heap.size + 1, 2, none⟩ = false := (hf1 _ _ (by simp only [World.size_alloc]; omega)).trans (by simp)
      have hy3 : w1.cell? ⟨w.heap.size, 3, none⟩ = some (.int .i64 s) := (hc1 _ _ (by simp only [World.size_alloc]; omega)).trans (by simp)
      have hx3 : w1.cell? ⟨w.heap.size + 1, 3, none⟩ = some (.int .i64 0) := (hc1 _ _ (by simp only [World.size_alloc]; omega)).trans (by simp)
      have hv3 : w1.frozen? ⟨w.heap.size, 3, none⟩ = false := (hf1 _ _ (by simp only [World.size_alloc]; omega)).trans (by simp)
      have hu3 : w1.frozen? ⟨w.heap.size + 1, 3, none⟩ = false := (hf1 _ _ (by simp only [World.size_alloc]; omega)).trans (by simp)
      have hy4 : w1.cell? ⟨w.heap.size, 4, none⟩ = some (.int .i64 v) := (hc1 _ _ (by simp only [World.size_alloc]; omega)).trans (by simp)
      have hx4 : w1.cell? ⟨w.heap.size + 1, 4, none⟩ = some (.int .i64 0) := (hc1 _ _ (by simp only [World.size_alloc]; omega)).trans (by simp)
      have hv4 : w1.frozen? ⟨w.heap.size, 4, none⟩ = false := (hf1 _ _ (by simp only [World.size_alloc]; omega)).trans (by simp)
      have hu4 : w1.frozen? ⟨w.heap.size + 1, 4, none⟩ = false := (hf1 _ _ (by simp only [World.size_alloc]; omega)).trans (by simp)
      have hz1 := hb.size
      simp only [World.size_alloc] at hz1
      have HB1 := Lib.hid ((show Below w.heap.size w _ from by go_grown).trans (hb.mono (by simp only [World.size_alloc]; omega)))
      clear hb hc1 hf1
      go_wp2_with (go_at_call 20; refine (l01In_any _ _ _ _).mono ?_; rintro e w' ⟨rfl, rfl⟩)
      try simp only [Exit.inBlock, Exit.then]
      refine bodyPost_ret (by simp [results, Try.results8, go_sem, hx0, hx1, hx2, hx3, hx4]; try rfl) rfl ?_
      exact ⟨rfl, HB1.out.trans (by go_grown)⟩
    exfalso
    rw [g1, g2, g3, g4, g5] at h2
    simp at h2
  · have hf : advB t m r s v d n k = (advTo t m r s v d n k, 0) := by simp [advB, h1, h2]
    rw [hf]; clear hf
    simp only [Bool.not_eq_false] at h2
    unfold advOk at h2
    simp only [Bool.and_eq_true, decide_eq_true_eq] at h2
    obtain ⟨⟨⟨⟨g1, g2⟩, g3⟩, g4⟩, g5⟩ := h2
    obtain ⟨d1, d2⟩ := inB_yes g1
    obtain ⟨n1, n2⟩ := inB_yes g2
    obtain ⟨k1, k2⟩ := inB_yes g3
    have g4' : decide (n ≤ s) = false := by simp; omega
    have g5' : decide (k ≤ r) = false := by simp; omega
    clear g4' g5'
    have g4' : decide (n ≤ s) = false := by simp; omega
    have g5' : decide (k ≤ r) = false := by simp; omega
    obtain ⟨A, hA⟩ : ∃ A, A = advTo t m r s v d n k := ⟨_, rfl⟩
    rw [← hA]
    have HAT := Lib.hid hA
    clear hA
    go_enter Try.func8, Try.ntmps8
    go_wp2_with fail
    refine (sIsState_any _ _ _ _ _ _).mono ?_
    rintro e w1 ⟨rfl, hb⟩
    obtain ⟨hc1, hf1⟩ := bcell hb
    have hy0 : w1.cell? ⟨w.heap.size, 0, none⟩ = some (.int .i64 t) := (hc1 _ _ (by simp only [World.size_alloc]; omega)).trans (by simp)
    have hx0 : w1.cell? ⟨w.heap.size + 1, 0, none⟩ = some (.int .i64 0) := (hc1 _ _ (by simp only [World.size_alloc]; omega)).trans (by simp)
    have hv0 : w1.frozen? ⟨w.heap.size, 0, none⟩ = false := (hf1 _ _ (by simp only [World.size_alloc]; omega)).trans (by simp)
    have hu0 : w1.frozen? ⟨w.heap.size + 1, 0, none⟩ = false := (hf1 _ _ (by simp only [World.size_alloc]; omega)).trans (by simp)
    have hy1 : w1.cell? ⟨w.heap.size, 1, none⟩ = some (.int .i64 m) := (hc1 _ _ (by simp only [World.size_alloc]; omega)).trans (by simp)
    have hx1 : w1.cell? ⟨w.heap.size + 1, 1, none⟩ = some (.int .i64 0) := (hc1 _ _ (by simp only [World.size_alloc]; omega)).trans (by simp)
    have hv1 : w1.frozen? ⟨w.heap.size, 1, none⟩ = false := (hf1 _ _ (by simp only [World.size_alloc]; omega)).trans (by simp)
    have hu1 : w1.frozen? ⟨w.heap.size + 1, 1, none⟩ = false := (hf1 _ _ (by simp only [World.size_alloc]; omega)).trans (by simp)
    have hy2 : w1.cell? ⟨w.heap.size, 2, none⟩ = some (.int .i64 r) := (hc1 _ _ (by simp only [World.size_alloc]; omega)).trans (by simp)
    have hx2 : w1.cell? ⟨w.heap.size + 1, 2, none⟩ = some (.int .i64 0) := (hc1 _ _ (by simp only [World.size_alloc]; omega)).trans (by simp)
    have hv2 : w1.frozen? ⟨w.heap.size, 2, none⟩ = false := (hf1 _ _ (by simp only [World.size_alloc]; omega)).trans (by simp)
    have hu2 : w1.frozen? ⟨w.heap.size + 1, 2, none⟩ = false := (hf1 _ _ (by simp only [World.size_alloc]; omega)).trans (by simp)
    have hy3 : w1.cell? ⟨w.heap.size, 3, none⟩ = some (.int .i64 s) := (hc1 _ _ (by simp only [World.size_alloc]; omega)).trans (by simp)
    have hx3 : w1.cell? ⟨w.heap.size + 1, 3, none⟩ = some (.int .i64 0) := (hc1 _ _ (by simp only [World.size_alloc]; omega)).trans (by simp)
    have hv3 : w1.frozen? ⟨w.heap.size, 3, none⟩ = false := (hf1 _ _ (by simp only [World.size_alloc]; omega)).trans (by simp)
    have hu3 : w1.frozen? ⟨w.heap.size + 1, 3, none⟩ = false := (hf1 _ _ (by simp only [World.size_alloc]; omega)).trans (by simp)
    have hy4 : w1.cell? ⟨w.heap.size, 4, none⟩ = some (.int .i64 v) := (hc1 _ _ (by simp only [World.size_alloc]; omega)).trans (by simp)
    have hx4 : w1.cell? ⟨w.heap.size + 1, 4, none⟩ = some (.int .i64 0) := (hc1 _ _ (by simp only [World.size_alloc]; omega)).trans (by simp)
    have hv4 : w1.frozen? ⟨w.heap.size, 4, none⟩ = false := (hf1 _ _ (by simp only [World.size_alloc]; omega)).trans (by simp)
    have hu4 : w1.frozen? ⟨w.heap.size + 1, 4, none⟩ = false := (hf1 _ _ (by simp only [World.size_alloc]; omega)).trans (by simp)
    have hz1 := hb.size
    simp only [World.size_alloc] at hz1
    have HB1 := Lib.hid ((show Below w.heap.size w _ from by go_grown).trans (hb.mono (by simp only [World.size_alloc]; omega)))
    clear hb hc1 hf1
    go_wp2_with (first | (go_at_call 20; refine (l01In_any _ _ _ _).mono ?_; rintro e w' ⟨rfl, rfl⟩) | (go_at_call 21; refine (l04Advance_any _ _ _ _ _ _ _ _ _ (by omega) (by omega) (by omega) (by omega) (by omega) (by omega) (by omega) (by omega) (by omega)).mono ?_; rw [← HAT.out]; rintro e w2 ⟨rfl, hb2⟩; obtain ⟨hc2, hf2⟩ := bcell hb2; have hq0 : w2.cell? ⟨w.heap.size + 1, 0, none⟩ = some (.int .i64 0) := (hc2 _ _ (by omega)).trans hx0; have hr0 : w2.frozen? ⟨w.heap.size + 1, 0, none⟩ = false := (hf2 _ _ (by omega)).trans hu0; have hq1 : w2.cell? ⟨w.heap.size + 1, 1, none⟩ = some (.int .i64 0) := (hc2 _ _ (by omega)).trans hx1; have hr1 : w2.frozen? ⟨w.heap.size + 1, 1, none⟩ = false := (hf2 _ _ (by omega)).trans hu1; have hq2 : w2.cell? ⟨w.heap.size + 1, 2, none⟩ = some (.int .i64 0) := (hc2 _ _ (by omega)).trans hx2; have hr2 : w2.frozen? ⟨w.heap.size + 1, 2, none⟩ = false := (hf2 _ _ (by omega)).trans hu2; have hq3 : w2.cell? ⟨w.heap.size + 1, 3, none⟩ = some (.int .i64 0) := (hc2 _ _ (by omega)).trans hx3; have hr3 : w2.frozen? ⟨w.heap.size + 1, 3, none⟩ = false := (hf2 _ _ (by omega)).trans hu3; have hq4 : w2.cell? ⟨w.heap.size + 1, 4, none⟩ = some (.int .i64 0) := (hc2 _ _ (by omega)).trans hx4; have hr4 : w2.frozen? ⟨w.heap.size + 1, 4, none⟩ = false := (hf2 _ _ (by omega)).trans hu4; have HB2 := Lib.hid (bthen HB1.out hb2); clear hb2 hc2 hf2) | fail)
    try simp only [Exit.inBlock, Exit.then]
    refine bodyPost_ret (by simp [results, Try.results8, go_sem, hq0, hq1, hq2, hq3, hq4]; try rfl) rfl ?_
    exact ⟨rfl, HB2.out.trans (by go_grown)⟩
end Go.Proofs.Ytkfhfggbmmhejaa
