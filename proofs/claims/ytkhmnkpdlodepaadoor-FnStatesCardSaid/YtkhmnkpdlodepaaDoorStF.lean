/- Contracts: stateFrom, l04State, StateFromBits (program and reference). -/
import Derived.Test.YtkhmnkpdlodepaaDoorState
import Derived.Test.YtkhmnkpdlodepaaDoorNumber
import Derived.Test.YtkhmnkpdlodepaaDoorSt
import Derived.StillTailTactics
namespace Go.Proofs.YtkhmnkpdlodepaaDoor
open Go.RowKit
set_option linter.unusedVariables false
set_option linter.unusedSimpArgs false

/-- The state with 64 bits. -/
def stF (xs : List Int) : St := ⟨numOf (xs.take 16), numOf ((xs.drop 16).take 4), numOf ((xs.drop 20).take 4), numOf ((xs.drop 24).take 8), numOf ((xs.drop 32).take 32)⟩
/-- StateFromBits' answer. -/
def stFromB (xs : List Int) : St × Int := if isBitsB xs = true ∧ xs.length = 64 then (stF xs, 0) else (⟨0, 0, 0, 0, 0⟩, 2)
theorem allIn_mid {xs : List Int} (h : allIn xs 0 1 = true) (lo n : Nat) : allIn ((xs.drop lo).take n) 0 1 = true := allIn_take _ (allIn_drop _ h)
theorem len_mid (xs : List Int) (lo n : Nat) (hn : n ≤ 60) : ((xs.drop lo).take n).length ≤ 60 := by rw [List.length_take]; omega
set_option maxRecDepth 100000 in
set_option maxHeartbeats 2000000 in
theorem stateFrom_any (v : Value) (xs : List Int) (w : World) (hr : Rd .i64 w v xs) (hb : allIn xs 0 1 = true) (hlen : xs.length = 64) :
    Calls Tryd.prog 33 #[v] w fun e w' => e = .returned (stF xs).val ∧ Below w.heap.size w w' := by
  obtain ⟨a, cap, rfl, hl2, hm, hn, hc⟩ := hr
  obtain ⟨i0, hi, hz0, hz1, hz2⟩ := info_parts infoE
  obtain ⟨S0, hS0, hR0⟩ := part_to Tryd.underlying31 hi hz1 hl2 hm hn hc 16 (by omega)
  obtain ⟨S1, hS1, hR1⟩ := part_of Tryd.underlying31 hi hz1 hl2 hm hn hc 16 4 (by omega)
  obtain ⟨S2, hS2, hR2⟩ := part_of Tryd.underlying31 hi hz1 hl2 hm hn hc 20 4 (by omega)
  obtain ⟨S3, hS3, hR3⟩ := part_of Tryd.underlying31 hi hz1 hl2 hm hn hc 24 8 (by omega)
  obtain ⟨S4, hS4, hR4⟩ := part_of Tryd.underlying31 hi hz1 hl2 hm hn hc 32 32 (by omega)
  have g0 : ∀ wx, (Instr.slice 31 (.slice a xs.length cap) none (some (.int .i64 16)) none).run Tryd.prog wx = .ok S0 wx := hS0
  have g1 : ∀ wx, (Instr.slice 31 (.slice a xs.length cap) (some (.int .i64 16)) (some (.int .i64 20)) none).run Tryd.prog wx = .ok S1 wx := hS1
  have g2 : ∀ wx, (Instr.slice 31 (.slice a xs.length cap) (some (.int .i64 20)) (some (.int .i64 24)) none).run Tryd.prog wx = .ok S2 wx := hS2
  have g3 : ∀ wx, (Instr.slice 31 (.slice a xs.length cap) (some (.int .i64 24)) (some (.int .i64 32)) none).run Tryd.prog wx = .ok S3 wx := hS3
  have g4 : ∀ wx, (Instr.slice 31 (.slice a xs.length cap) (some (.int .i64 32)) (some (.int .i64 64)) none).run Tryd.prog wx = .ok S4 wx := hS4
  clear hS0 hS1 hS2 hS3 hS4 hc hn hm hl2
  have HW := (fun (x : Obj) => Lib.hid (((Below.refl w.heap.size w).alloc (Nat.le_refl _) x).drew) : ∀ x, Hid (Below w.heap.size w (w.alloc x).drew))
  have HR0 := (fun (x : Obj) => Lib.hid (hR0.below (HW x).out) : ∀ x, Hid (Rd .i64 (w.alloc x).drew S0 (xs.take 16)))
  have HR1 := (fun (x : Obj) => Lib.hid (hR1.below (HW x).out) : ∀ x, Hid (Rd .i64 (w.alloc x).drew S1 ((xs.drop 16).take 4)))
  have HR2 := (fun (x : Obj) => Lib.hid (hR2.below (HW x).out) : ∀ x, Hid (Rd .i64 (w.alloc x).drew S2 ((xs.drop 20).take 4)))
  have HR3 := (fun (x : Obj) => Lib.hid (hR3.below (HW x).out) : ∀ x, Hid (Rd .i64 (w.alloc x).drew S3 ((xs.drop 24).take 8)))
  have HR4 := (fun (x : Obj) => Lib.hid (hR4.below (HW x).out) : ∀ x, Hid (Rd .i64 (w.alloc x).drew S4 ((xs.drop 32).take 32)))
  have HB := Lib.hid hb
  have HL := Lib.hid hlen
  clear hR0 hR1 hR2 hR3 hR4 hb hlen
  unfold stF St.val
  go_enter Tryd.func33, Tryd.ntmps33
  go_wp2
  go_still_tail 15, (by kernel_rfl)
  still_call (qt (numberOf_any _ (xs.take 16) _ (HR0 _).out (allIn_take _ HB.out) (by rw [List.length_take]; omega)))
  repeat still_step
  still_call (qt (numberOf_any _ ((xs.drop 16).take 4) _ (HR1 _).out (allIn_mid HB.out _ _) (len_mid _ _ _ (by decide))))
  repeat still_step
  still_call (qt (numberOf_any _ ((xs.drop 20).take 4) _ (HR2 _).out (allIn_mid HB.out _ _) (len_mid _ _ _ (by decide))))
  repeat still_step
  still_call (qt (numberOf_any _ ((xs.drop 24).take 8) _ (HR3 _).out (allIn_mid HB.out _ _) (len_mid _ _ _ (by decide))))
  repeat still_step
  still_call (qt (numberOf_any _ ((xs.drop 32).take 32) _ (HR4 _).out (allIn_mid HB.out _ _) (len_mid _ _ _ (by decide))))
  repeat still_step
  refine wpStill_nil ?_
  change wpList _ _ _ _ _ (w.alloc (.cells #[.int .i64 0, .int .i64 0, .int .i64 0, .int .i64 0, .int .i64 0] 23)).drew
  go_wp2
  try simp only [Exit.inBlock, Exit.then]
  refine bodyPost_ret (by simp [results, Tryd.results33, go_sem]; try rfl) rfl ?_
  exact ⟨rfl, by go_grown⟩
set_option maxHeartbeats 1000000 in
theorem l04State_any (v : Value) (xs : List Int) (w : World) (hr : Rd .i64 w v xs) (hb : allIn xs 0 1 = true) (hlen : xs.length = 64) :
    Calls Tryd.prog 35 #[v] w fun e w' => e = .returned (stF xs).val ∧ Below w.heap.size w w' := by
  have HW := (fun (x : Obj) => Lib.hid ((Below.refl w.heap.size w).alloc (Nat.le_refl _) x) : ∀ x, Hid (Below w.heap.size w (w.alloc x)))
  have HR := (fun (x : Obj) => Lib.hid (hr.below (HW x).out) : ∀ x, Hid (Rd .i64 (w.alloc x) v xs))
  have HB := Lib.hid hb
  have HL := Lib.hid hlen
  clear hr hb hlen
  unfold stF St.val
  have e0 : xs.take 16 = (xs.drop 0).take 16 := by simp
  rw [e0]; clear e0
  go_enter Tryd.func35, Tryd.ntmps35
  go_wp2_with fail
  refine (l01Number_any _ xs 0 16 _ (HR _).out HB.out (by decide) (by have := HL.out; omega)).mono ?_
  rintro e w' ⟨rfl, rfl⟩
  go_wp2_with fail
  refine (l01Number_any _ xs 16 4 _ (HR _).out HB.out (by decide) (by have := HL.out; omega)).mono ?_
  rintro e w' ⟨rfl, rfl⟩
  go_wp2_with fail
  refine (l01Number_any _ xs 20 4 _ (HR _).out HB.out (by decide) (by have := HL.out; omega)).mono ?_
  rintro e w' ⟨rfl, rfl⟩
  go_wp2_with fail
  refine (l01Number_any _ xs 24 8 _ (HR _).out HB.out (by decide) (by have := HL.out; omega)).mono ?_
  rintro e w' ⟨rfl, rfl⟩
  go_wp2_with fail
  refine (l01Number_any _ xs 32 32 _ (HR _).out HB.out (by decide) (by have := HL.out; omega)).mono ?_
  rintro e w' ⟨rfl, rfl⟩
  go_wp2_with fail
  try simp only [Exit.inBlock, Exit.then]
  refine bodyPost_ret (by simp [results, Tryd.results35, go_sem]; try rfl) rfl ?_
  exact ⟨rfl, by go_grown⟩
set_option maxHeartbeats 1000000 in
theorem stateFromBits_any (v : Value) (xs : List Int) (w : World) (hr : Rd .i64 w v xs) :
    Calls Tryd.prog 14 #[v] w fun e w' => e = .returned (.tuple #[(stFromB xs).1.val, .int .i64 (stFromB xs).2]) ∧ Below w.heap.size w w' := by
  have HB0 := Lib.hid ((Below.refl w.heap.size w).alloc (Nat.le_refl _) (.cells #[.int .i64 0, .int .i64 0, .int .i64 0, .int .i64 0, .int .i64 0] 23))
  have HR := Lib.hid (hr.below HB0.out)
  obtain ⟨a, cap, rfl, hl2, hm, hn, hc⟩ := hr
  unfold maxLen at hm
  clear hc hn
  cases h1 : isBitsB xs
  · have hf : stFromB xs = (⟨0, 0, 0, 0, 0⟩, 2) := by simp [stFromB, h1]
    rw [hf]; clear hf
    unfold St.val
    go_enter Tryd.func14, Tryd.ntmps14
    go_wp2_with fail
    refine (isBits_any _ xs _ HR.out).mono ?_
    rw [h1]
    rintro e w' ⟨rfl, rfl⟩
    go_wp2_with fail
    try simp only [Exit.inBlock, Exit.then]
    refine bodyPost_ret (by simp [results, Tryd.results14, go_sem]; try rfl) rfl ?_
    exact ⟨rfl, by go_grown⟩
  by_cases h2 : xs.length = 64
  rotate_left
  · have hf : stFromB xs = (⟨0, 0, 0, 0, 0⟩, 2) := by simp [stFromB, h2]
    rw [hf]; clear hf
    have hne : ((xs.length : Int) != 64) = true := by simp; omega
    have H1 := Lib.hid h1
    clear h1 h2
    unfold St.val
    go_enter Tryd.func14, Tryd.ntmps14
    go_wp2_with fail
    refine (isBits_any _ xs _ HR.out).mono ?_
    rw [H1.out]
    rintro e w' ⟨rfl, rfl⟩
    go_wp2_with fail
    try simp only [Exit.inBlock, Exit.then]
    refine bodyPost_ret (by simp [results, Tryd.results14, go_sem]; try rfl) rfl ?_
    exact ⟨rfl, by go_grown⟩
  have hf : stFromB xs = (stF xs, 0) := by simp [stFromB, h1, h2]
  rw [hf]; clear hf
  obtain ⟨F, hF⟩ : ∃ F, F = stF xs := ⟨_, rfl⟩
  rw [← hF]
  have HF := Lib.hid hF
  have hne : ((xs.length : Int) != 64) = false := by simp; omega
  have H1 := Lib.hid h1
  have H2 := Lib.hid h2
  have HBT := Lib.hid (isBitsB_yes h1).2
  clear h1 h2 hF
  unfold St.val
  go_enter Tryd.func14, Tryd.ntmps14
  go_wp2_with fail
  refine (isBits_any _ xs _ HR.out).mono ?_
  rw [H1.out]
  rintro e w' ⟨rfl, rfl⟩
  go_wp2_with fail
  refine (stateFrom_any _ xs _ HR.out HBT.out H2.out).mono ?_
  rw [← HF.out]
  unfold St.val
  rintro e w1 ⟨rfl, hb1⟩
  obtain ⟨hc1, hf1⟩ := bcell hb1
  have x0 : w1.cell? ⟨w.heap.size, 0, none⟩ = some (.int .i64 0) := (hc1 _ _ (by simp)).trans (by simp)
  have x1 : w1.cell? ⟨w.heap.size, 1, none⟩ = some (.int .i64 0) := (hc1 _ _ (by simp)).trans (by simp)
  have x2 : w1.cell? ⟨w.heap.size, 2, none⟩ = some (.int .i64 0) := (hc1 _ _ (by simp)).trans (by simp)
  have x3 : w1.cell? ⟨w.heap.size, 3, none⟩ = some (.int .i64 0) := (hc1 _ _ (by simp)).trans (by simp)
  have x4 : w1.cell? ⟨w.heap.size, 4, none⟩ = some (.int .i64 0) := (hc1 _ _ (by simp)).trans (by simp)
  have y0 : w1.frozen? ⟨w.heap.size, 0, none⟩ = false := (hf1 _ _ (by simp)).trans (by simp)
  have y1 : w1.frozen? ⟨w.heap.size, 1, none⟩ = false := (hf1 _ _ (by simp)).trans (by simp)
  have y2 : w1.frozen? ⟨w.heap.size, 2, none⟩ = false := (hf1 _ _ (by simp)).trans (by simp)
  have y3 : w1.frozen? ⟨w.heap.size, 3, none⟩ = false := (hf1 _ _ (by simp)).trans (by simp)
  have y4 : w1.frozen? ⟨w.heap.size, 4, none⟩ = false := (hf1 _ _ (by simp)).trans (by simp)
  have HB1 := Lib.hid (HB0.out.trans (hb1.mono (by simp)))
  clear hb1 hc1 hf1
  go_wp2_with fail
  try simp only [Exit.inBlock, Exit.then]
  refine bodyPost_ret (by simp [results, Tryd.results14, go_sem, x0, x1, x2, x3, x4]; try rfl) rfl ?_
  exact ⟨rfl, HB1.out.trans (by go_grown)⟩
set_option maxHeartbeats 1000000 in
theorem sStateFromBits_any (v : Value) (xs : List Int) (w : World) (hr : Rd .i64 w v xs) :
    Calls Tryd.prog 15 #[v] w fun e w' => e = .returned (.tuple #[(stFromB xs).1.val, .int .i64 (stFromB xs).2]) ∧ Below w.heap.size w w' := by
  have HB0 := Lib.hid ((Below.refl w.heap.size w).alloc (Nat.le_refl _) (.cells #[.int .i64 0, .int .i64 0, .int .i64 0, .int .i64 0, .int .i64 0] 23))
  have HR := Lib.hid (hr.below HB0.out)
  obtain ⟨a, cap, rfl, hl2, hm, hn, hc⟩ := hr
  unfold maxLen at hm
  clear hc hn
  cases h1 : isBitsB xs
  · have hf : stFromB xs = (⟨0, 0, 0, 0, 0⟩, 2) := by simp [stFromB, h1]
    rw [hf]; clear hf
    unfold St.val
    go_enter Tryd.func15, Tryd.ntmps15
    go_wp2_with fail
    refine (sIsBits_any _ xs _ HR.out).mono ?_
    rw [h1]
    rintro e w' ⟨rfl, rfl⟩
    go_wp2_with fail
    try simp only [Exit.inBlock, Exit.then]
    refine bodyPost_ret (by simp [results, Tryd.results15, go_sem]; try rfl) rfl ?_
    exact ⟨rfl, by go_grown⟩
  by_cases h2 : xs.length = 64
  rotate_left
  · have hf : stFromB xs = (⟨0, 0, 0, 0, 0⟩, 2) := by simp [stFromB, h2]
    rw [hf]; clear hf
    have hne : ((xs.length : Int) != 64) = true := by simp; omega
    have H1 := Lib.hid h1
    clear h1 h2
    unfold St.val
    go_enter Tryd.func15, Tryd.ntmps15
    go_wp2_with fail
    refine (sIsBits_any _ xs _ HR.out).mono ?_
    rw [H1.out]
    rintro e w' ⟨rfl, rfl⟩
    go_wp2_with fail
    try simp only [Exit.inBlock, Exit.then]
    refine bodyPost_ret (by simp [results, Tryd.results15, go_sem]; try rfl) rfl ?_
    exact ⟨rfl, by go_grown⟩
  have hf : stFromB xs = (stF xs, 0) := by simp [stFromB, h1, h2]
  rw [hf]; clear hf
  obtain ⟨F, hF⟩ : ∃ F, F = stF xs := ⟨_, rfl⟩
  rw [← hF]
  have HF := Lib.hid hF
  have hne : ((xs.length : Int) != 64) = false := by simp; omega
  have H1 := Lib.hid h1
  have H2 := Lib.hid h2
  have HBT := Lib.hid (isBitsB_yes h1).2
  clear h1 h2 hF
  unfold St.val
  go_enter Tryd.func15, Tryd.ntmps15
  go_wp2_with fail
  refine (sIsBits_any _ xs _ HR.out).mono ?_
  rw [H1.out]
  rintro e w' ⟨rfl, rfl⟩
  go_wp2_with fail
  refine (l04State_any _ xs _ HR.out HBT.out H2.out).mono ?_
  rw [← HF.out]
  unfold St.val
  rintro e w1 ⟨rfl, hb1⟩
  obtain ⟨hc1, hf1⟩ := bcell hb1
  have x0 : w1.cell? ⟨w.heap.size, 0, none⟩ = some (.int .i64 0) := (hc1 _ _ (by simp)).trans (by simp)
  have x1 : w1.cell? ⟨w.heap.size, 1, none⟩ = some (.int .i64 0) := (hc1 _ _ (by simp)).trans (by simp)
  have x2 : w1.cell? ⟨w.heap.size, 2, none⟩ = some (.int .i64 0) := (hc1 _ _ (by simp)).trans (by simp)
  have x3 : w1.cell? ⟨w.heap.size, 3, none⟩ = some (.int .i64 0) := (hc1 _ _ (by simp)).trans (by simp)
  have x4 : w1.cell? ⟨w.heap.size, 4, none⟩ = some (.int .i64 0) := (hc1 _ _ (by simp)).trans (by simp)
  have y0 : w1.frozen? ⟨w.heap.size, 0, none⟩ = false := (hf1 _ _ (by simp)).trans (by simp)
  have y1 : w1.frozen? ⟨w.heap.size, 1, none⟩ = false := (hf1 _ _ (by simp)).trans (by simp)
  have y2 : w1.frozen? ⟨w.heap.size, 2, none⟩ = false := (hf1 _ _ (by simp)).trans (by simp)
  have y3 : w1.frozen? ⟨w.heap.size, 3, none⟩ = false := (hf1 _ _ (by simp)).trans (by simp)
  have y4 : w1.frozen? ⟨w.heap.size, 4, none⟩ = false := (hf1 _ _ (by simp)).trans (by simp)
  have HB1 := Lib.hid (HB0.out.trans (hb1.mono (by simp)))
  clear hb1 hc1 hf1
  go_wp2_with fail
  try simp only [Exit.inBlock, Exit.then]
  refine bodyPost_ret (by simp [results, Tryd.results15, go_sem, x0, x1, x2, x3, x4]; try rfl) rfl ?_
  exact ⟨rfl, HB1.out.trans (by go_grown)⟩
end Go.Proofs.YtkhmnkpdlodepaaDoor
