/- Contracts: drawn codes and drawn error lists: DrawOrderOf, l03Draw, DrawBurstOf. -/
import Derived.Test.YtmlingcnbdpbmaaDrC
import Derived.Test.YtmlingcnbdpbmaaDrB
namespace Go.Proofs.Ytmlingcnbdpbmaa
open Go.RowKit
set_option linter.unusedVariables false
set_option linter.unusedSimpArgs false

/-- What a draw of a code alone hands back. -/
def DrawnC0 (w : World) (e : Ending) (w' : World) : Prop := ∃ wd po : Int, e = .returned (.agg #[.int .i64 wd, .int .i64 po]) ∧ Below w.heap.size w w'
/-- What a draw of a list alone hands back. -/
def DrawnL0 (m : Nat) (w : World) (e : Ending) (w' : World) : Prop := ∃ v xs, e = .returned v ∧ Own 2 w' w.heap.size v xs ∧ Short xs m ∧ Below w.heap.size w w'
set_option maxHeartbeats 2000000 in
theorem drawOrderOf_any (v : Value) (cs : List Int) (w : World) (hr : Rd .u8 w v cs) (hl : cs.length ≤ 4096) (ho : ∀ x ∈ cs, 0 ≤ x ∧ x ≤ 255) : Calls Try.prog 13 #[v] w (DrawnC0 w) := by
  have HB := Lib.hid ((Below.refl w.heap.size w).alloc (Nat.le_refl _) (.cells #[.int .i64 0, .int .i64 0] 25))
  have HR := Lib.hid (hr.below HB.out)
  have HO8 := Lib.hid ho
  have HC := Lib.hid (Cell2.new w 0 0 25)
  clear hr ho
  go_enter Try.func13, Try.ntmps13
  go_wp2_with fail
  refine (from_any _ cs _ HR.out hl HO8.out).mono ?_
  rintro e w1 ⟨rfl, hS, hb⟩
  have HS : Hid (SrcAt w1 (w.heap.size + 1)) := Lib.hid (by simpa using hS)
  replace HB := Lib.hid (HB.out.trans (hb.mono (by simp)))
  replace HC := Lib.hid (HC.out.next hb)
  clear hS hb
  try simp only [World.size_alloc]
  go_wp2_with fail
  refine (drawCrc_any (w.heap.size + 1) _ HS.out).mono ?_
  rintro e w2 ⟨wd, po, rfl, hS, hg⟩
  have hz := HS.out.lt
  replace HB := Lib.hid (HB.out.trans (grown_below hg (by omega) (by omega)))
  replace HC := Lib.hid (HC.out.below (grown_below hg (Nat.le_refl _) (by omega)) (by omega))
  obtain ⟨r0, r1, g0, g1⟩ := HC.out
  clear hS hg hz
  go_wp2_with fail
  try simp only [Exit.inBlock, Exit.then]
  refine bodyPost_ret (by simp [results, Try.results13, go_sem, r0, r1]; try rfl) rfl ?_
  exact ⟨_, _, rfl, (HB.out.setCell (p := ⟨w.heap.size, 0, none⟩) (Nat.le_refl _) _).setCell (p := ⟨w.heap.size, 1, none⟩) (Nat.le_refl _) _⟩
set_option maxHeartbeats 4000000 in
theorem drawErr_any (b : Nat) (w : World) (h : SrcAt w b) : Calls Try.prog 50 #[.pointer (some ⟨b, 0, none⟩)] w (DrawnL b 60 w) := by
  obtain ⟨i0, hi, hz0, hz1, hz2⟩ := info_parts infoD
  have hlt := h.lt
  have HS := Lib.hid h
  clear h
  go_enter Try.func50, Try.ntmps50
  go_wp2_with fail
  refine (next_any b _ _ HS.out).mono ?_
  rintro e w1 ⟨z, rfl, hz0', hz1', hS, hg⟩
  replace HS := Lib.hid hS
  have HG := Lib.hid hg
  clear hS hg hz0' hz1'
  by_cases hz : z = 0
  · subst hz
    go_wp2_with fail
    refine (drawBits_any b 30 _ HS.out (by decide)).mono ?_
    rintro e w2 ⟨v, xs, rfl, hO, hsh, hS, hg⟩
    have HO := Lib.hid (hO.mono HG.out.size)
    have HSH := Lib.hid hsh
    replace HG := Lib.hid (grownBy_trans HG.out hg)
    replace HS := Lib.hid hS
    clear hO hsh hS hg
    go_wp2_with fail
    go_ret
    exact ⟨v, xs, rfl, HO.out, by rcases HSH.out with h | h; exact .inl (by omega); exact .inr h, HS.out, HG.out⟩
  have hzb : (z == 0) = false := by simp [hz]
  clear hz
  go_wp2_with fail
  refine (next_any b _ _ HS.out).mono ?_
  rintro e w2 ⟨y, rfl, hy0, hy1, hS, hg⟩
  obtain ⟨Y, rfl⟩ := Int.eq_ofNat_of_zero_le hy0
  have hY : Y ≤ 59 := by omega
  replace HG := Lib.hid (grownBy_trans HG.out hg)
  replace HS := Lib.hid hS
  have hsz := HG.out.size
  clear hS hg hy0 hy1
  go_wp2_with (at_make; refine wpList_make_full _ rfl _ _ 26 rfl w.heap.size 2 i0 (.int .i64 0) 1 Try.underlying26 hi hz0 hz1 .i64 .i64 (1 + (Y : Int)) (1 + (Y : Int)) (1 + Y) rfl rfl (by omega) (by omega) (by rw [hz2]; omega) (by unfold maxLen; omega) hsz ?_)
  intro w5 hown hgrow
  have HO := Lib.hid (own_zeros hown)
  have HB5 := Lib.hid (below_of_grown hgrow hsz (fun k h => by cases h))
  replace HG := Lib.hid (grown_then HG.out HB5.out)
  replace HS := Lib.hid (HS.out.below HB5.out hlt)
  clear hown hgrow HB5 hsz
  go_wp2_with fail
  refine (next_any b _ _ HS.out).mono ?_
  rintro e w6 ⟨n, rfl, hn0, hn1, hS, hg⟩
  obtain ⟨N, rfl⟩ := Int.eq_ofNat_of_zero_le hn0
  replace HO := Lib.hid (HO.out.far hg hlt)
  replace HG := Lib.hid (grownBy_trans HG.out hg)
  replace HS := Lib.hid hS
  have hN4 : N ≤ 1000 := by omega
  clear hS hg hn0 hn1
  obtain ⟨g, hge⟩ : ∃ g, g = w2.heap.size := ⟨_, rfl⟩
  have hgb : w.heap.size ≤ w2.heap.size := by
    rcases HO.out.shape with ⟨h, _⟩ | ⟨g', c', h, h2, _⟩
    · cases h
    · simp only [Value.slice.injEq, Option.some.injEq, Addr.mk.injEq] at h; omega
  go_wp2
  go_loopw [4] (fun n wr => ∃ (c : Nat) (xs : List Int), n = .int .i64 c ∧ c ≤ 1000 ∧ xs.length = 1 + Y ∧ Own 2 wr w.heap.size (.slice (some ⟨w2.heap.size, 0, none⟩) (1 + Y) (1 + Y)) xs ∧ SrcAt wr b ∧ w.grownBy wr (some b)) (fun n _ => (intOf n).toNat)
  case atStart => exact ⟨N, _, rfl, hN4, List.length_replicate .., HO.out, HS.out, HG.out⟩
  case round =>
    clear HO HS HG
    obtain ⟨c, xs, rfl, hc4, hlen, hO, hS, hg⟩ := hrel
    have HS := Lib.hid hS
    have HO := Lib.hid hO
    have HG := Lib.hid hg
    have HL := Lib.hid hlen
    clear hO hS hg hlen
    cases c with
    | succ c =>
      go_wp2_with fail
      refine (next_any b _ _ HS.out).mono ?_
      rintro e w7 ⟨k, rfl, hk0, hk1, hS, hg⟩
      replace HO := Lib.hid (HO.out.far hg hlt)
      replace HG := Lib.hid (grownBy_trans HG.out hg)
      replace HS := Lib.hid hS
      clear hS hg
      obtain ⟨K, rfl⟩ := Int.eq_ofNat_of_zero_le hk0
      have hK : K < xs.length := by rw [HL.out]; omega
      have hKi : (K : Int) < 1 + (Y : Int) := by omega
      have hcell := HO.out.cell K hK
      have hfree := HO.out.free K
      have HSET := Lib.hid (HO.out.set K 1)
      clear hk0 hk1 hK
      go_wp2
      go_roundw
      case rel => exact ⟨c, xs.set K 1, by go_num, by omega, by rw [List.length_set]; exact HL.out, HSET.out.1, HS.out.setCell (show b < w2.heap.size by omega) _ _, grown_set' HG.out hgb _ _⟩
      case measure => simp [intOf]
    | zero =>
      go_wp2
      go_ret
      exact ⟨_, xs, rfl, by have := HO.out; rw [← HL.out] at this ⊢; exact this, .inl (by have := HL.out; omega), HS.out, HG.out⟩
set_option maxHeartbeats 1000000 in
theorem drawBurstOf_any (v : Value) (cs : List Int) (w : World) (hr : Rd .u8 w v cs) (hl : cs.length ≤ 4096) (ho : ∀ x ∈ cs, 0 ≤ x ∧ x ≤ 255) : Calls Try.prog 18 #[v] w (DrawnL0 60 w) := by
  have HR := Lib.hid hr
  have HO8 := Lib.hid ho
  clear hr ho
  go_enter Try.func18, Try.ntmps18
  go_wp2_with fail
  refine (from_any _ cs _ HR.out hl HO8.out).mono ?_
  rintro e w1 ⟨rfl, hS, hb⟩
  have HS := Lib.hid hS
  have HB := Lib.hid hb
  clear hS hb
  go_wp2_with fail
  refine (drawErr_any w.heap.size _ HS.out).mono ?_
  rintro e w2 ⟨v2, xs, rfl, hO, hsh, hS, hg⟩
  have HO := Lib.hid (hO.mono HB.out.size)
  have HSH := Lib.hid hsh
  replace HB := Lib.hid (HB.out.trans (grown_below hg (Nat.le_refl _) HB.out.size))
  clear hO hsh hS hg
  go_wp2_with fail
  go_ret
  exact ⟨v2, xs, rfl, HO.out, HSH.out, HB.out⟩
end Go.Proofs.Ytmlingcnbdpbmaa
