/- Contracts: IsCrc (program and reference), toCrc. -/
import Derived.Test.YtmlingcnbdpbmaaLow
import Derived.WalkKit
import Derived.Handy
import Derived.Deep.QuietTactic
import Derived.BigQuiet
import Derived.WalkSmall
namespace Go.Proofs.Ytmlingcnbdpbmaa
open Go.RowKit
set_option linter.unusedVariables false

theorem below_crc (w : World) (o : Obj) (n : Nat) : Below w.heap.size w ((w.alloc o).drewN n) := below_drewN ((Below.refl _ _).alloc (Nat.le_refl _) o) n
set_option maxHeartbeats 2000000 in
theorem isCrc_any (wd po : Int) (w : World) : Calls Try.prog 33 #[.agg #[.int .i64 wd, .int .i64 po]] w fun e w' => e = .returned (.bool (crcB wd po)) ∧ Below w.heap.size w w' := by
  cases h1 : inB wd 3 24
  · have hf : crcB wd po = false := by simp [crcB, h1]
    rw [hf]; clear hf
    go_enter Try.func33, Try.ntmps33
    go_wp2
    go_quiet ((go_at_call 62; exact Calls.quiet_of_same (qt (within_any _ _ _ _))))
    go_wp2
    go_ret
    exact ⟨rfl, below_crc _ _ _⟩
  · have hw := inB_yes h1
    obtain ⟨hw1, hw2⟩ := hw
    obtain ⟨hp1, hp2⟩ := p2_crc hw1 hw2
    have hs1 := p2_wrap (n := wd) (by omega)
    have hs3 : IntKind.i64.wrap (p2 wd - 1) = p2 wd - 1 := IntWalk.i64_in _ (by omega)
    cases h2 : inB po 1 (p2 wd - 1)
    · have hf : crcB wd po = false := by simp [crcB, h1, h2]
      rw [hf]; clear hf
      go_enter Try.func33, Try.ntmps33
      go_wp2
      go_quiet ((go_at_call 62; exact Calls.quiet_of_same (qt (within_any _ _ _ _))))
      go_wp2
      go_ret
      exact ⟨rfl, below_crc _ _ _⟩
    · have hpo := (inB_yes h2).1
      have ht : po.tmod 2 = po % 2 := IntWalk.rem_in _ _ (by omega)
      have hf : crcB wd po = (po % 2 == 1) := by simp [crcB, h1, h2]; rfl
      rw [hf]; clear hf
      cases h3 : (po % 2 == 1)
      all_goals
        go_enter Try.func33, Try.ntmps33
        go_wp2
        go_quiet ((go_at_call 62; exact Calls.quiet_of_same (qt (within_any _ _ _ _))))
        go_wp2
        go_ret
        exact ⟨rfl, below_crc _ _ _⟩
set_option maxHeartbeats 1000000 in
theorem sIsCrc_any (wd po : Int) (w : World) : Calls Try.prog 40 #[.agg #[.int .i64 wd, .int .i64 po]] w fun e w' => e = .returned (.bool (crcB wd po)) ∧ Below w.heap.size w w' := by
  cases h1 : inB wd 3 24
  · have hf : crcB wd po = false := by simp [crcB, h1]
    rw [hf]; clear hf
    go_enter Try.func40, Try.ntmps40
    go_wp2_with (go_at_call 66; refine (l01In_any _ _ _ _).mono ?_; rintro e w' ⟨rfl, rfl⟩)
    go_ret
    exact ⟨rfl, (Below.refl _ _).alloc (Nat.le_refl _) _⟩
  · have hw := inB_yes h1
    obtain ⟨hw1, hw2⟩ := hw
    obtain ⟨hp1, hp2⟩ := p2_crc hw1 hw2
    have hs1 := p2_wrap64 (n := wd) (by omega)
    cases h2 : inB po 1 (p2 wd - 1)
    · have hf : crcB wd po = false := by simp [crcB, h1, h2]
      rw [hf]; clear hf
      go_enter Try.func40, Try.ntmps40
      go_wp2_with (go_at_call 66; refine (l01In_any _ _ _ _).mono ?_; rintro e w' ⟨rfl, rfl⟩)
      go_ret
      exact ⟨rfl, (Below.refl _ _).alloc (Nat.le_refl _) _⟩
    · have hpo := (inB_yes h2).1
      have hf : crcB wd po = (po % 2 == 1) := by simp [crcB, h1, h2]; rfl
      rw [hf]; clear hf
      go_enter Try.func40, Try.ntmps40
      go_wp2_with (go_at_call 66; refine (l01In_any _ _ _ _).mono ?_; rintro e w' ⟨rfl, rfl⟩)
      go_ret
      exact ⟨rfl, (Below.refl _ _).alloc (Nat.le_refl _) _⟩
end Go.Proofs.Ytmlingcnbdpbmaa
