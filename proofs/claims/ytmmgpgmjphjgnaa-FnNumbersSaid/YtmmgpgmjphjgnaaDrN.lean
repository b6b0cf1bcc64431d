/- Contracts: DrawNumberAt, DrawAppendNumber. -/
import Derived.Test.YtmmgpgmjphjgnaaDrB
namespace Go.Proofs.Ytmmgpgmjphjgnaa
open Go.RowKit
set_option linter.unusedVariables false
set_option linter.unusedSimpArgs false

/-- What a draw of a list and two numbers hands back. -/
def DrawnLII (w : World) (e : Ending) (w' : World) : Prop := ∃ v xs x y, e = .returned (.tuple #[v, .int .i64 x, .int .i64 y]) ∧ Own 2 w' w.heap.size v xs ∧ xs.length ≤ 9000 ∧ Below w.heap.size w w'
set_option maxHeartbeats 2000000 in
theorem drawNumberAt_any (v : Value) (cs : List Int) (w : World) (hr : Rd .u8 w v cs) (hl : cs.length ≤ 4096) (ho : ∀ x ∈ cs, 0 ≤ x ∧ x ≤ 255) : Calls Try.prog 18 #[v] w (DrawnLII w) := by
  have HR := Lib.hid hr
  have HO8 := Lib.hid ho
  clear hr ho
  go_enter Try.func18, Try.ntmps18
  go_wp2_with fail
  refine (from_any _ cs _ HR.out hl HO8.out).mono ?_
  rintro e w1 ⟨rfl, hS, hb⟩
  have HS := Lib.hid hS
  have HB := Lib.hid hb
  clear hS hb
  go_wp2_with fail
  refine (drawBits_any w.heap.size 30 _ HS.out (by decide)).mono ?_
  rintro e w2 ⟨va, xs, rfl, hO, hshxs, hS, hg⟩
  have HOxs := Lib.hid (hO.mono (show w.heap.size + 1 ≤ _ from HS.out.lt))
  have HSHxs := Lib.hid hshxs
  clear hshxs
  replace HS := Lib.hid hS
  clear hS hO
  replace HB := Lib.hid (HB.out.trans (grown_below hg (Nat.le_refl _) HB.out.size))
  clear hg
  obtain ⟨aa, ca, rfl⟩ := HOxs.out.slice
  have hxl : xs.length ≤ 9000 := HSHxs.out.len (by decide)
  go_wp2_with fail
  refine (next_any w.heap.size _ _ HS.out).mono ?_
  rintro e w3 ⟨x, rfl, hx0, hx1, hS, hg⟩
  replace HS := Lib.hid hS
  clear hS
  replace HOxs := Lib.hid (HOxs.out.far hg (Nat.lt_succ_self _))
  replace HB := Lib.hid (HB.out.trans (grown_below hg (Nat.le_refl _) HB.out.size))
  clear hg
  go_wp2_with fail
  all_goals
    refine (next_any w.heap.size _ _ HS.out).mono ?_
    rintro e w4 ⟨y, rfl, hy0, hy1, hS, hg⟩
    replace HS := Lib.hid hS
    clear hS
    replace HOxs := Lib.hid (HOxs.out.far hg (Nat.lt_succ_self _))
    replace HB := Lib.hid (HB.out.trans (grown_below hg (Nat.le_refl _) HB.out.size))
    clear hg
    go_wp2_with fail
    refine (next_any w.heap.size _ _ HS.out).mono ?_
    rintro e w5 ⟨z, rfl, hz0, hz1, hS, hg⟩
    replace HS := Lib.hid hS
    clear hS
    replace HOxs := Lib.hid (HOxs.out.far hg (Nat.lt_succ_self _))
    replace HB := Lib.hid (HB.out.trans (grown_below hg (Nat.le_refl _) HB.out.size))
    clear hg
    by_cases hz0 : z = 0
    · subst hz0
      have hgz : w.heap.size < w5.heap.size := HS.out.lt
      replace HS := Lib.hid (HS.out.alloc (.cells #[.int .i64 (-1), .int .i64 40, .int .i64 41] 2))
      replace HB := Lib.hid (HB.out.alloc HB.out.size (.cells #[.int .i64 (-1), .int .i64 40, .int .i64 41] 2))
      replace HOxs := Lib.hid (HOxs.out.alloc (.cells #[.int .i64 (-1), .int .i64 40, .int .i64 41] 2))
      go_wp2_with fail
      refine (next_any w.heap.size _ _ HS.out).mono ?_
      rintro e w6 ⟨k, rfl, hk0, hk1, hS, hg⟩
      obtain ⟨K, rfl⟩ := Int.eq_ofNat_of_zero_le hk0
      have hkn : K < 3 := by omega
      have hki : (K : Int) < 3 := by omega
      obtain ⟨u, hu, horu⟩ := int3 w5 (-1) (40) (41) 2 K hkn
      have huc := far_cell hu hg hgz
      replace HS := Lib.hid hS
      clear hS hu hk1
      replace HOxs := Lib.hid (HOxs.out.far hg (Nat.lt_succ_self _))
      replace HB := Lib.hid (HB.out.trans (grown_below hg (Nat.le_refl _) HB.out.size))
      clear hg
      go_wp2_with fail
      go_ret3
      exact ⟨_, xs, _, _, rfl, HOxs.out.mono (by omega), hxl, HB.out⟩
    have hzb0 : (z == 0) = false := by simp [hz0]
    by_cases hz1 : z = 1
    · subst hz1
      go_wp2_with fail
      go_ret3
      exact ⟨_, xs, _, _, rfl, HOxs.out.mono (by omega), hxl, HB.out⟩
    have hzb1 : (z == 1) = false := by simp [hz1]
    clear hz0 hz1
    go_wp2_with fail
    go_ret3
    exact ⟨_, xs, _, _, rfl, HOxs.out.mono (by omega), hxl, HB.out⟩
set_option maxHeartbeats 2000000 in
theorem drawAppendNumber_any (v : Value) (cs : List Int) (w : World) (hr : Rd .u8 w v cs) (hl : cs.length ≤ 4096) (ho : ∀ x ∈ cs, 0 ≤ x ∧ x ≤ 255) : Calls Try.prog 22 #[v] w (DrawnLII w) := by
  have HR := Lib.hid hr
  have HO8 := Lib.hid ho
  clear hr ho
  go_enter Try.func22, Try.ntmps22
  go_wp2_with fail
  refine (from_any _ cs _ HR.out hl HO8.out).mono ?_
  rintro e w1 ⟨rfl, hS, hb⟩
  have HS := Lib.hid hS
  have HB := Lib.hid hb
  clear hS hb
  go_wp2_with fail
  refine (drawBits_any w.heap.size 20 _ HS.out (by decide)).mono ?_
  rintro e w2 ⟨va, xs, rfl, hO, hshxs, hS, hg⟩
  have HOxs := Lib.hid (hO.mono (show w.heap.size + 1 ≤ _ from HS.out.lt))
  have HSHxs := Lib.hid hshxs
  clear hshxs
  replace HS := Lib.hid hS
  clear hS hO
  replace HB := Lib.hid (HB.out.trans (grown_below hg (Nat.le_refl _) HB.out.size))
  clear hg
  have hxl : xs.length ≤ 9000 := HSHxs.out.len (by decide)
  go_wp2_with fail
  refine (next_any w.heap.size _ _ HS.out).mono ?_
  rintro e w3 ⟨x, rfl, hx0, hx1, hS, hg⟩
  replace HS := Lib.hid hS
  clear hS
  replace HOxs := Lib.hid (HOxs.out.far hg (Nat.lt_succ_self _))
  replace HB := Lib.hid (HB.out.trans (grown_below hg (Nat.le_refl _) HB.out.size))
  clear hg
  have hx14 : x ≤ 13 := by omega
  have hp1 := p2_pos x
  have hp2 : p2 x ≤ 16384 := p2_le (k := 14) (by omega) (by decide)
  have hs1 := p2_wrap64 (n := x) (by omega)
  have hs2 := p2_wrap (n := x) (by omega)
  go_wp2_with fail
  refine (next_any w.heap.size _ _ HS.out).mono ?_
  rintro e w4 ⟨y, rfl, hy0, hy1, hS, hg⟩
  replace HS := Lib.hid hS
  clear hS
  replace HOxs := Lib.hid (HOxs.out.far hg (Nat.lt_succ_self _))
  replace HB := Lib.hid (HB.out.trans (grown_below hg (Nat.le_refl _) HB.out.size))
  clear hg
  go_wp2_with fail
  refine (next_any w.heap.size _ _ HS.out).mono ?_
  rintro e w5 ⟨z, rfl, hz0, hz1, hS, hg⟩
  replace HS := Lib.hid hS
  clear hS
  replace HOxs := Lib.hid (HOxs.out.far hg (Nat.lt_succ_self _))
  replace HB := Lib.hid (HB.out.trans (grown_below hg (Nat.le_refl _) HB.out.size))
  clear hg
  by_cases hz0 : z = 0
  · subst hz0
    have hgz : w.heap.size < w5.heap.size := HS.out.lt
    replace HS := Lib.hid (HS.out.alloc (.cells #[.int .i64 (-1), .int .i64 40, .int .i64 41, .int .i64 1] 2))
    replace HB := Lib.hid (HB.out.alloc HB.out.size (.cells #[.int .i64 (-1), .int .i64 40, .int .i64 41, .int .i64 1] 2))
    replace HOxs := Lib.hid (HOxs.out.alloc (.cells #[.int .i64 (-1), .int .i64 40, .int .i64 41, .int .i64 1] 2))
    go_wp2_with fail
    refine (next_any w.heap.size _ _ HS.out).mono ?_
    rintro e w6 ⟨k, rfl, hk0, hk1, hS, hg⟩
    obtain ⟨K, rfl⟩ := Int.eq_ofNat_of_zero_le hk0
    have hkn : K < 4 := by omega
    have hki : (K : Int) < 4 := by omega
    obtain ⟨u, hu, horu⟩ := int4 w5 (-1) (40) (41) (1) 2 K hkn
    have huc := far_cell hu hg hgz
    replace HS := Lib.hid hS
    clear hS hu hk1
    replace HOxs := Lib.hid (HOxs.out.far hg (Nat.lt_succ_self _))
    replace HB := Lib.hid (HB.out.trans (grown_below hg (Nat.le_refl _) HB.out.size))
    clear hg
    go_wp2_with fail
    go_ret3
    exact ⟨_, xs, _, _, rfl, HOxs.out.mono (by omega), hxl, HB.out⟩
  have hzb0 : (z == 0) = false := by simp [hz0]
  by_cases hz1 : z = 1
  · subst hz1
    have hgz : w.heap.size < w5.heap.size := HS.out.lt
    replace HS := Lib.hid (HS.out.alloc (.cells #[.int .i64 (-1), .int .i64 (p2 x), .int .i64 (p2 x - 1)] 2))
    replace HB := Lib.hid (HB.out.alloc HB.out.size (.cells #[.int .i64 (-1), .int .i64 (p2 x), .int .i64 (p2 x - 1)] 2))
    replace HOxs := Lib.hid (HOxs.out.alloc (.cells #[.int .i64 (-1), .int .i64 (p2 x), .int .i64 (p2 x - 1)] 2))
    go_wp2_with fail
    refine (next_any w.heap.size _ _ HS.out).mono ?_
    rintro e w6 ⟨k, rfl, hk0, hk1, hS, hg⟩
    obtain ⟨K, rfl⟩ := Int.eq_ofNat_of_zero_le hk0
    have hkn : K < 3 := by omega
    have hki : (K : Int) < 3 := by omega
    obtain ⟨u, hu, horu⟩ := int3 w5 (-1) (p2 x) (p2 x - 1) 2 K hkn
    have huc := far_cell hu hg hgz
    replace HS := Lib.hid hS
    clear hS hu hk1
    replace HOxs := Lib.hid (HOxs.out.far hg (Nat.lt_succ_self _))
    replace HB := Lib.hid (HB.out.trans (grown_below hg (Nat.le_refl _) HB.out.size))
    clear hg
    go_wp2_with fail
    go_ret3
    exact ⟨_, xs, _, _, rfl, HOxs.out.mono (by omega), hxl, HB.out⟩
  have hzb1 : (z == 1) = false := by simp [hz1]
  clear hz0 hz1
  go_wp2_with fail
  go_ret3
  exact ⟨_, xs, _, _, rfl, HOxs.out.mono (by omega), hxl, HB.out⟩
end Go.Proofs.Ytmmgpgmjphjgnaa
