/- Contracts: drawn seeds: l02DrawSeed. -/
import Derived.Test.YtfbijmhmndkocaaCell2
import Derived.Test.YtfbijmhmndkocaaDrB
namespace Go.Proofs.Ytfbijmhmndkocaa
open Go.RowKit
set_option linter.unusedVariables false
set_option linter.unusedSimpArgs false

/-- What a draw of a number hands back. -/
def DrawnN (b : Nat) (w : World) (e : Ending) (w' : World) : Prop := ∃ x : Int, e = .returned (.int .i64 x) ∧ SrcAt w' b ∧ w.grownBy w' (some b)
set_option maxHeartbeats 4000000 in
theorem drawSeed_any (b : Nat) (wd po : Int) (w : World) (h : SrcAt w b) : Calls Try.prog 42 #[.pointer (some ⟨b, 0, none⟩), .agg #[.int .i64 wd, .int .i64 po]] w (DrawnN b w) := by
  have hlt := h.lt
  have HS := Lib.hid (h.alloc (.cells #[.int .i64 wd, .int .i64 po] 25))
  have HG := Lib.hid (World.grownBy_alloc w (.cells #[.int .i64 wd, .int .i64 po] 25) (some b))
  clear h
  by_cases h1 : wd ≤ 1
  · have h24 : (1 : Int) < 24 := by omega
    go_enter Try.func42, Try.ntmps42
    go_wp2_with fail
    refine (next_any b _ _ HS.out).mono ?_
    rintro e w1 ⟨z, rfl, hz0, hz1, hS, hg⟩
    replace HS := Lib.hid hS
    replace HG := Lib.hid (grownBy_trans HG.out hg)
    clear hS hg hz0 hz1
    by_cases hz : z = 0
    · subst hz
      have hbz : b < w1.heap.size := HS.out.lt
      replace HS := Lib.hid (HS.out.alloc (.cells #[.int .i64 (-1), .int .i64 (2), .int .i64 (1)] 2))
      replace HG := Lib.hid (grown_alloc' HG.out (.cells #[.int .i64 (-1), .int .i64 (2), .int .i64 (1)] 2))
      go_wp2_with fail
      refine (next_any b _ _ HS.out).mono ?_
      rintro e w2 ⟨k, rfl, hk0, hk1, hS, hg⟩
      obtain ⟨K, rfl⟩ := Int.eq_ofNat_of_zero_le hk0
      have hK : K < 3 := by omega
      have hKi : (K : Int) < 3 := by omega
      obtain ⟨u, hu, _⟩ := int3 w1 (-1) (2) (1) 2 K hK
      have huc := far_cell hu hg hbz
      replace HS := Lib.hid hS
      replace HG := Lib.hid (grownBy_trans HG.out hg)
      clear hS hg hk1 hu
      go_wp2_with fail
      go_ret
      exact ⟨u, rfl, HS.out, HG.out⟩
    · have hzb : (z == 0) = false := by simp [hz]
      clear hz
      go_wp2_with fail
      refine (next_any b _ _ HS.out).mono ?_
      rintro e w2 ⟨k, rfl, hk0, hk1, hS, hg⟩
      replace HS := Lib.hid hS
      replace HG := Lib.hid (grownBy_trans HG.out hg)
      clear hS hg hk1
      go_wp2_with fail
      go_ret
      exact ⟨k, rfl, HS.out, HG.out⟩
  by_cases h2 : wd < 24
  · have h1' : 1 < wd := by omega
    have hp1 := p2_pos wd
    have hp2 : p2 wd ≤ 16777216 := p2_le (k := 24) (by omega) (by decide)
    have hs1 := p2_wrap64 (n := wd) (by omega)
    have hs2 := p2_wrap (n := wd) (by omega)
    go_enter Try.func42, Try.ntmps42
    go_wp2_with fail
    refine (next_any b _ _ HS.out).mono ?_
    rintro e w1 ⟨z, rfl, hz0, hz1, hS, hg⟩
    replace HS := Lib.hid hS
    replace HG := Lib.hid (grownBy_trans HG.out hg)
    clear hS hg hz0 hz1
    by_cases hz : z = 0
    · subst hz
      have hbz : b < w1.heap.size := HS.out.lt
      replace HS := Lib.hid (HS.out.alloc (.cells #[.int .i64 (-1), .int .i64 (p2 wd), .int .i64 (p2 wd - 1)] 2))
      replace HG := Lib.hid (grown_alloc' HG.out (.cells #[.int .i64 (-1), .int .i64 (p2 wd), .int .i64 (p2 wd - 1)] 2))
      go_wp2_with fail
      refine (next_any b _ _ HS.out).mono ?_
      rintro e w2 ⟨k, rfl, hk0, hk1, hS, hg⟩
      obtain ⟨K, rfl⟩ := Int.eq_ofNat_of_zero_le hk0
      have hK : K < 3 := by omega
      have hKi : (K : Int) < 3 := by omega
      obtain ⟨u, hu, _⟩ := int3 w1 (-1) (p2 wd) (p2 wd - 1) 2 K hK
      have huc := far_cell hu hg hbz
      replace HS := Lib.hid hS
      replace HG := Lib.hid (grownBy_trans HG.out hg)
      clear hS hg hk1 hu
      go_wp2_with fail
      go_ret
      exact ⟨u, rfl, HS.out, HG.out⟩
    · have hzb : (z == 0) = false := by simp [hz]
      clear hz
      go_wp2_with fail
      refine (next_any b _ _ HS.out).mono ?_
      rintro e w2 ⟨k, rfl, hk0, hk1, hS, hg⟩
      replace HS := Lib.hid hS
      replace HG := Lib.hid (grownBy_trans HG.out hg)
      clear hS hg hk1
      go_wp2_with fail
      go_ret
      exact ⟨k, rfl, HS.out, HG.out⟩
  have h1' : 1 < wd := by omega
  have h24 : 24 ≤ wd := by omega
  go_enter Try.func42, Try.ntmps42
  go_wp2_with fail
  refine (next_any b _ _ HS.out).mono ?_
  rintro e w1 ⟨z, rfl, hz0, hz1, hS, hg⟩
  replace HS := Lib.hid hS
  replace HG := Lib.hid (grownBy_trans HG.out hg)
  clear hS hg hz0 hz1
  by_cases hz : z = 0
  · subst hz
    have hbz : b < w1.heap.size := HS.out.lt
    replace HS := Lib.hid (HS.out.alloc (.cells #[.int .i64 (-1), .int .i64 (16777216), .int .i64 (16777215)] 2))
    replace HG := Lib.hid (grown_alloc' HG.out (.cells #[.int .i64 (-1), .int .i64 (16777216), .int .i64 (16777215)] 2))
    go_wp2_with fail
    refine (next_any b _ _ HS.out).mono ?_
    rintro e w2 ⟨k, rfl, hk0, hk1, hS, hg⟩
    obtain ⟨K, rfl⟩ := Int.eq_ofNat_of_zero_le hk0
    have hK : K < 3 := by omega
    have hKi : (K : Int) < 3 := by omega
    obtain ⟨u, hu, _⟩ := int3 w1 (-1) (16777216) (16777215) 2 K hK
    have huc := far_cell hu hg hbz
    replace HS := Lib.hid hS
    replace HG := Lib.hid (grownBy_trans HG.out hg)
    clear hS hg hk1 hu
    go_wp2_with fail
    go_ret
    exact ⟨u, rfl, HS.out, HG.out⟩
  · have hzb : (z == 0) = false := by simp [hz]
    clear hz
    go_wp2_with fail
    refine (next_any b _ _ HS.out).mono ?_
    rintro e w2 ⟨k, rfl, hk0, hk1, hS, hg⟩
    replace HS := Lib.hid hS
    replace HG := Lib.hid (grownBy_trans HG.out hg)
    clear hS hg hk1
    go_wp2_with fail
    go_ret
    exact ⟨k, rfl, HS.out, HG.out⟩
end Go.Proofs.Ytfbijmhmndkocaa
