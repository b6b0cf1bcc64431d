/- Contracts: l01Damage. -/
import Derived.Test.YtkhmnkpdlodepaaDoorDrB
import Derived.Test.YtkhmnkpdlodepaaDoorCell2
import Derived.Deep.RegionWith
import Derived.WalkSpells
namespace Go.Proofs.YtkhmnkpdlodepaaDoor
open Go.RowKit
set_option linter.unusedVariables false
set_option linter.unusedSimpArgs false

/-- What a damaged text is. -/
def DamRes (b : Nat) (m : Nat) (w : World) (e : Ending) (w' : World) : Prop := ∃ u : ByteArray, e = .returned (.string u) ∧ u.size ≤ m ∧ SrcAt w' b ∧ w.grownBy w' (some b)
theorem damOf {b m : Nat} {w w' : World} (u : ByteArray) (h : u.size ≤ m) (hS : SrcAt w' b) (hG : w.grownBy w' (some b)) : DamRes b m w (.returned (.string u)) w' := ⟨u, rfl, h, hS, hG⟩
def Lit8 : Obj := .cells #[.string ⟨#[48]⟩, .string ⟨#[49]⟩, .string ⟨#[32]⟩, .string ⟨#[58]⟩, .string ⟨#[45]⟩, .string ⟨#[97]⟩, .string ⟨#[47]⟩, .string ⟨#[10]⟩] 9
theorem lit8 (w : World) (K : Nat) (h : K < 8) : ∃ u : ByteArray, (w.alloc (.cells #[.string ⟨#[48]⟩, .string ⟨#[49]⟩, .string ⟨#[32]⟩, .string ⟨#[58]⟩, .string ⟨#[45]⟩, .string ⟨#[97]⟩, .string ⟨#[47]⟩, .string ⟨#[10]⟩] 9)).cell? ⟨w.heap.size, K, none⟩ = some (.string u) ∧ u.size = 1 := by
  match K, h with
  | 0, _ => exact ⟨⟨#[48]⟩, by simp, rfl⟩
  | 1, _ => exact ⟨⟨#[49]⟩, by simp, rfl⟩
  | 2, _ => exact ⟨⟨#[32]⟩, by simp, rfl⟩
  | 3, _ => exact ⟨⟨#[58]⟩, by simp, rfl⟩
  | 4, _ => exact ⟨⟨#[45]⟩, by simp, rfl⟩
  | 5, _ => exact ⟨⟨#[97]⟩, by simp, rfl⟩
  | 6, _ => exact ⟨⟨#[47]⟩, by simp, rfl⟩
  | 7, _ => exact ⟨⟨#[10]⟩, by simp, rfl⟩
theorem cut_to (t : ByteArray) (y : Int) (X : Nat) (hy : y = (X : Int)) (h : X ≤ t.size) : ∃ P1 : ByteArray, (∀ wx, (Instr.slice 9 (.string t) none (some (.int .i64 y)) none).run Tryd.prog wx = .ok (.string P1) wx) ∧ P1.size = X := by
  refine ⟨t.extract 0 X, fun wx => ?_, by simp; omega⟩
  have h1 := run_slice_string_h (P := Tryd.prog) wx 9 t Tryd.underlying9 .i64 y (by omega) (by omega)
  have e : y.toNat = X := by omega
  rw [e] at h1; exact h1
theorem cut_from (t : ByteArray) (y : Int) (X : Nat) (hy : y = (X : Int)) (h : X ≤ t.size) : ∃ P1 : ByteArray, (∀ wx, (Instr.slice 9 (.string t) (some (.int .i64 y)) none none).run Tryd.prog wx = .ok (.string P1) wx) ∧ P1.size = t.size - X := by
  refine ⟨t.extract X t.size, fun wx => ?_, by simp⟩
  have h1 := run_slice_string_l (P := Tryd.prog) wx 9 t Tryd.underlying9 .i64 y (by omega) (by omega)
  have e : y.toNat = X := by omega
  rw [e] at h1; exact h1
set_option maxRecDepth 20000 in
set_option maxHeartbeats 4000000 in
theorem damage_any (b : Nat) (t : ByteArray) (w : World) (h : SrcAt w b) (ht : t.size ≤ 9000) : Calls Tryd.prog 37 #[.pointer (some ⟨b, 0, none⟩), .string t] w (DamRes b (t.size + 1) w) := by
  have HS := Lib.hid h
  clear h
  go_enter Tryd.func37, Tryd.ntmps37
  go_wp2_with fail
  refine (next_any b _ _ HS.out).mono ?_
  rintro e w1 ⟨x, rfl, hx0, hx1, hS, hg⟩
  replace HS := Lib.hid hS
  have HG := Lib.hid hg
  clear hS hg
  have hxt : x ≤ (t.size : Int) := by omega
  clear hx1
  go_wp2_with fail
  refine (next_any b _ _ HS.out).mono ?_
  rintro e w2 ⟨z, rfl, hz0, hz1, hS, hg⟩
  replace HS := Lib.hid hS
  replace HG := Lib.hid (grownBy_trans HG.out hg)
  clear hS hg hz0 hz1
  obtain ⟨X, rfl⟩ := Int.eq_ofNat_of_zero_le hx0
  have hX : X ≤ t.size := by omega
  by_cases hq0 : z = 0
  · subst hq0
    go_wp2_with fail
    go_ret
    exact damOf _ (by simp; omega) HS.out HG.out
  have hzb0 : (z == 0) = false := by simp [hq0]
  by_cases hq1 : z = 1
  · subst hq1
    clear hq0 hzb0
    have hlt := HS.out.lt
    have HSd := Lib.hid HS.out.drew
    have HSA := Lib.hid (HS.out.alloc (.cells #[.string ⟨#[48]⟩, .string ⟨#[49]⟩, .string ⟨#[32]⟩, .string ⟨#[58]⟩, .string ⟨#[45]⟩, .string ⟨#[97]⟩, .string ⟨#[47]⟩, .string ⟨#[10]⟩] 9)).drew
    obtain ⟨P1, hP1, hP1s⟩ := cut_to t (X : Int) X rfl (by omega)
    obtain ⟨P2, hP2, hP2s⟩ := cut_from t (X : Int) X rfl (by omega)
    go_wp2_with fail
    go_region_with ((first | (go_at_call 31; ((with_reducible refine (next_any b _ _ HSA.out).mono ?_); rintro e w5 ⟨k, rfl, hk0, hk1, hS, hg⟩; obtain ⟨K, rfl⟩ := Int.eq_ofNat_of_zero_le hk0; have hK : K < 8 := (by omega); have hKi : (K : Int) < 8 := (by omega); obtain ⟨a, ha, ha1⟩ := lit8 w2 K hK; have hac : w5.cell? ⟨w2.heap.size, K, none⟩ = some (.string a) := far_cell (w := (w2.alloc (.cells #[.string ⟨#[48]⟩, .string ⟨#[49]⟩, .string ⟨#[32]⟩, .string ⟨#[58]⟩, .string ⟨#[45]⟩, .string ⟨#[97]⟩, .string ⟨#[47]⟩, .string ⟨#[10]⟩] 9)).drew) ha hg (by omega); have HS5 := Lib.hid hS; have HG5 := Lib.hid (grownBy_trans (grownBy_trans (World.grownBy_alloc w2 (.cells #[.string ⟨#[48]⟩, .string ⟨#[49]⟩, .string ⟨#[32]⟩, .string ⟨#[58]⟩, .string ⟨#[45]⟩, .string ⟨#[97]⟩, .string ⟨#[47]⟩, .string ⟨#[10]⟩] 9) (some b)) (grown_of_below (Below.refl _ _).drew)) hg); obtain ⟨Q1, hQ1, hQ1s⟩ : ∃ Q1 : ByteArray, (∀ wx, (Op.stringOp .add P1 a).run Tryd.prog wx = .ok (.string Q1) wx) ∧ Q1.size = X + 1 := (⟨P1 ++ a, fun wx => run_string_add_sum wx P1 a (by omega), by simp; omega⟩); obtain ⟨Q2, hQ2, hQ2s⟩ : ∃ Q2 : ByteArray, (∀ wx, (Op.stringOp .add Q1 P2).run Tryd.prog wx = .ok (.string Q2) wx) ∧ Q2.size = t.size + 1 := (⟨Q1 ++ P2, fun wx => run_string_add_sum wx Q1 P2 (by omega), by simp; omega⟩); have HQS := Lib.hid hQ2s; clear hS hk1 ha hg ha1)) | (go_at_call 31; ((with_reducible refine (next_any b _ _ HSd.out).mono ?_); rintro e w5 ⟨k, rfl, hk0, hk1, hS, hg⟩; obtain ⟨K, rfl⟩ := Int.eq_ofNat_of_zero_le hk0; have hK : K < 8 := (by omega); have hKi : (K : Int) < 8 := (by omega); obtain ⟨a, ha, ha1⟩ := lit8 w5 K hK; have HSB := Lib.hid hS; have HGB := Lib.hid (grownBy_trans (grown_of_below (Below.refl w2.heap.size w2).drew) hg : w2.grownBy w5 (some b)); obtain ⟨Q1, hQ1, hQ1s⟩ : ∃ Q1 : ByteArray, (∀ wx, (Op.stringOp .add P1 a).run Tryd.prog wx = .ok (.string Q1) wx) ∧ Q1.size = X + 1 := (⟨P1 ++ a, fun wx => run_string_add_sum wx P1 a (by omega), by simp; omega⟩); obtain ⟨Q2, hQ2, hQ2s⟩ : ∃ Q2 : ByteArray, (∀ wx, (Op.stringOp .add Q1 P2).run Tryd.prog wx = .ok (.string Q2) wx) ∧ Q2.size = t.size + 1 := (⟨Q1 ++ P2, fun wx => run_string_add_sum wx Q1 P2 (by omega), by simp; omega⟩); have HQS := Lib.hid hQ2s; clear hS hk1 hg ha1)) | fail))
    all_goals
      go_wp2_with fail
      go_ret
      change DamRes b (t.size + 1) w (.returned (.string Q2)) _
      first | (with_reducible exact damOf Q2 (by have := HQS.out; omega) HS5.out (grownBy_trans HG.out HG5.out)) | (with_reducible exact damOf Q2 (by have := HQS.out; omega) (HSB.out.alloc _) (grown_alloc' (grownBy_trans HG.out HGB.out) _)) | fail
  have hzb1 : (z == 1) = false := by simp [hq1]
  by_cases hq2 : z = 2
  rotate_left
  · have hzb2 : (z == 2) = false := by simp [hq2]
    clear hq0 hq1 hq2
    go_wp2_with fail
    go_ret
    exact damOf _ (Nat.le_succ _) HS.out HG.out
  subst hq2
  clear hq0 hq1 hzb0 hzb1
  by_cases hXt : X < t.size
  rotate_left
  · have hd : decide ((X : Int) < (t.size : Int)) = false := decide_eq_false (by omega)
    go_wp2_with fail
    go_ret
    exact damOf _ (Nat.le_succ _) HS.out HG.out
  have hd : decide ((X : Int) < (t.size : Int)) = true := decide_eq_true (by omega)
  obtain ⟨P1, hP1, hP1s⟩ := cut_to t (X : Int) X rfl (by omega)
  obtain ⟨P2, hP2, hP2s⟩ := cut_from t ((X : Int) + 1) (X + 1) (by omega) (by omega)
  obtain ⟨Q2, hQ2, hQ2s⟩ : ∃ Q2 : ByteArray, (∀ wx, (Op.stringOp .add P1 P2).run Tryd.prog wx = .ok (.string Q2) wx) ∧ Q2.size = t.size - 1 := ⟨P1 ++ P2, fun wx => run_string_add_sum wx P1 P2 (by omega), by simp; omega⟩
  have HQS := Lib.hid hQ2s
  have hs1 : IntKind.i64.wrap ((X : Int) + 1) = (X : Int) + 1 := IntWalk.i64_in _ (by omega)
  clear hQ2s hP1s hP2s
  go_wp2_with fail
  go_quiet (fail)
  go_wp2_with fail
  go_ret
  exact damOf Q2 (by have := HQS.out; omega) (HS.out.below (B := w2.heap.size) (below_drewN (Below.refl _ _) _) HS.out.lt) (grown_drewN HG.out _)
end Go.Proofs.YtkhmnkpdlodepaaDoor
