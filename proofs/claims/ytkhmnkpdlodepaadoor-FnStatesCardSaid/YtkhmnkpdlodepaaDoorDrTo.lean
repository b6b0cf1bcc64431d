/- Contracts: DrawStateToBits, DrawStateFromBits, DrawReadState. -/
import Derived.Test.YtkhmnkpdlodepaaDoorDrSv
import Derived.Test.YtkhmnkpdlodepaaDoorStT
import Derived.Test.YtkhmnkpdlodepaaDoorDam
import Derived.Test.YtkhmnkpdlodepaaDoorApL
namespace Go.Proofs.YtkhmnkpdlodepaaDoor
open Go.RowKit
set_option linter.unusedVariables false
set_option linter.unusedSimpArgs false

/-- What a draw of one state hands back. -/
def DrawnS1 (w : World) (e : Ending) (w' : World) : Prop := ∃ t m r s v : Int, e = .returned (.agg #[.int .i64 t, .int .i64 m, .int .i64 r, .int .i64 s, .int .i64 v]) ∧ Below w.heap.size w w'
/-- What a draw of a list hands back, read alone. -/
def DrawnR (w : World) (e : Ending) (w' : World) : Prop := ∃ v xs, e = .returned v ∧ Rd .i64 w' v xs ∧ Below w.heap.size w w'
/-- What a draw of a text hands back. -/
def DrawnTx (w : World) (e : Ending) (w' : World) : Prop := ∃ u : ByteArray, e = .returned (.string u) ∧ u.size ≤ 9000 ∧ Below w.heap.size w w'
theorem below_put5 {w w2 : World} {B g : Nat} (h : Below B w w2) (hg : B ≤ g) (x0 x1 x2 x3 x4 : Value) : Below B w (((((w2.setCell ⟨g, 0, none⟩ x0).setCell ⟨g, 1, none⟩ x1).setCell ⟨g, 2, none⟩ x2).setCell ⟨g, 3, none⟩ x3).setCell ⟨g, 4, none⟩ x4) :=
  ((((h.setCell (p := ⟨g, 0, none⟩) hg _).setCell (p := ⟨g, 1, none⟩) hg _).setCell (p := ⟨g, 2, none⟩) hg _).setCell (p := ⟨g, 3, none⟩) hg _).setCell (p := ⟨g, 4, none⟩) hg _
theorem stT_size (t m r s v : Int) : (stT t m r s v).size ≤ 200 := by
  unfold stT
  split
  · rename_i h
    obtain ⟨⟨ht1, ht2⟩, ⟨hm1, hm2⟩, ⟨hr1, hr2⟩, ⟨hs1, hs2⟩, ⟨hv1, hv2⟩⟩ := stB_bounds h
    have h1 := decS_size t.toNat (by omega)
    have h2 := decS_size m.toNat (by omega)
    have h3 := decS_size r.toNat (by omega)
    have h4 := decS_size s.toNat (by omega)
    have h5 := decS_size v.toNat (by omega)
    have h6 : slashS.size = 1 := rfl
    simp only [size_app]
    omega
  · exact Nat.zero_le _
set_option maxRecDepth 100000 in
set_option maxHeartbeats 2000000 in
theorem drawStateToBits_any (v : Value) (cs : List Int) (w : World) (hr : Rd .u8 w v cs) (hl : cs.length ≤ 4096) (ho : ∀ x ∈ cs, 0 ≤ x ∧ x ≤ 255) : Calls Tryd.prog 10 #[v] w (DrawnS1 w) := by
  have HB := Lib.hid ((Below.refl w.heap.size w).alloc (Nat.le_refl _) (.cells #[.int .i64 0, .int .i64 0, .int .i64 0, .int .i64 0, .int .i64 0] 23))
  have HR := Lib.hid (hr.below HB.out)
  have HO8 := Lib.hid ho
  have HC := Lib.hid (CellN.new5 w 0 0 0 0 0 23)
  clear hr ho
  go_enter Tryd.func10, Tryd.ntmps10
  go_wp2_with fail
  refine (from_any _ cs _ HR.out hl HO8.out).mono ?_
  rintro e w1 ⟨rfl, hS, hb⟩
  have HS : Hid (SrcAt w1 (w.heap.size + 1)) := Lib.hid (by simpa using hS)
  replace HB := Lib.hid (HB.out.trans (hb.mono (by simp)))
  replace HC := Lib.hid (HC.out.next hb)
  clear hS hb
  try simp only [World.size_alloc]
  go_wp2_with fail
  refine (drawStateAny_any (w.heap.size + 1) _ HS.out).mono ?_
  rintro e w2 ⟨t, m, r, s, u, rfl, hS, hg⟩
  have hzz := HS.out.lt
  replace HB := Lib.hid (HB.out.trans (grown_below hg (by omega) (by omega)))
  replace HC := Lib.hid (HC.out.far hg (by omega))
  obtain ⟨⟨c0, c1, c2, c3, c4⟩, ⟨f0, f1, f2, f3, f4⟩⟩ := HC.out.five
  clear hS hg hzz
  go_wp2_with fail
  try simp only [Exit.inBlock, Exit.then]
  refine bodyPost_ret (by simp [results, Tryd.results10, go_sem, c0, c1, c2, c3, c4]; try rfl) rfl ?_
  exact ⟨_, _, _, _, _, rfl, below_put5 HB.out (Nat.le_refl _) _ _ _ _ _⟩
set_option maxRecDepth 100000 in
set_option maxHeartbeats 2000000 in
theorem drawReadState_any (v : Value) (cs : List Int) (w : World) (hr : Rd .u8 w v cs) (hl : cs.length ≤ 4096) (ho : ∀ x ∈ cs, 0 ≤ x ∧ x ≤ 255) : Calls Tryd.prog 17 #[v] w (DrawnTx w) := by
  have HR := Lib.hid hr
  have HO8 := Lib.hid ho
  clear hr ho
  go_enter Tryd.func17, Tryd.ntmps17
  go_wp2_with fail
  refine (from_any _ cs _ HR.out hl HO8.out).mono ?_
  rintro e w1 ⟨rfl, hS, hb⟩
  have HS := Lib.hid hS
  have HB := Lib.hid hb
  clear hS hb
  go_wp2_with fail
  refine (drawStateAny_any w.heap.size _ HS.out).mono ?_
  rintro e w2 ⟨t, m, r, s, u, rfl, hS, hg⟩
  replace HB := Lib.hid (HB.out.trans (grown_below hg (Nat.le_refl _) HB.out.size))
  replace HS := Lib.hid hS
  clear hS hg
  have ht := stT_size t m r s u
  go_wp2_with fail
  refine (sStateText_any t m r s u _).mono ?_
  rintro e w3 ⟨rfl, hb⟩
  replace HB := Lib.hid (bthen HB.out hb)
  replace HS := Lib.hid (HS.out.below hb HS.out.lt)
  generalize stT t m r s u = T at ht ⊢
  clear hb
  go_wp2_with fail
  refine (next_any w.heap.size _ _ HS.out).mono ?_
  rintro e w4 ⟨z, rfl, hz0, hz1, hS, hg⟩
  replace HB := Lib.hid (HB.out.trans (grown_below hg (Nat.le_refl _) HB.out.size))
  replace HS := Lib.hid hS
  clear hS hg hz0 hz1
  by_cases hz : z = 0
  · subst hz
    go_wp2_with fail
    refine (damage_any w.heap.size T _ HS.out (by omega)).mono ?_
    rintro e w5 ⟨u, rfl, hu, hS, hg⟩
    replace HB := Lib.hid (HB.out.trans (grown_below hg (Nat.le_refl _) HB.out.size))
    have hu2 : u.size ≤ 9000 := by omega
    clear hS hg hu
    go_wp2_with fail
    go_ret
    exact ⟨u, rfl, hu2, HB.out⟩
  have hzb : (z == 0) = false := by simp [hz]
  have hu2 : T.size ≤ 9000 := by omega
  clear hz
  go_wp2_with fail
  go_ret
  exact ⟨T, rfl, hu2, HB.out⟩
set_option maxRecDepth 100000 in
set_option maxHeartbeats 2000000 in
theorem drawStateFromBits_any (v : Value) (cs : List Int) (w : World) (hr : Rd .u8 w v cs) (hl : cs.length ≤ 4096) (ho : ∀ x ∈ cs, 0 ≤ x ∧ x ≤ 255) : Calls Tryd.prog 13 #[v] w (DrawnR w) := by
  have HR := Lib.hid hr
  have HO8 := Lib.hid ho
  obtain ⟨i0, hi, hz0', hsz1, hsz8⟩ := info_parts infoE
  clear hr ho
  go_enter Tryd.func13, Tryd.ntmps13
  go_wp2_with fail
  refine (from_any _ cs _ HR.out hl HO8.out).mono ?_
  rintro e w1 ⟨rfl, hS, hb⟩
  have HS := Lib.hid hS
  have HB := Lib.hid hb
  clear hS hb
  go_wp2_with fail
  refine (drawStateOk_any w.heap.size _ HS.out).mono ?_
  rintro e w2 ⟨t, m, r, s, u, rfl, hst, hS, hg⟩
  replace HB := Lib.hid (HB.out.trans (grown_below hg (Nat.le_refl _) HB.out.size))
  replace HS := Lib.hid hS
  clear hS hg
  have hlen := length_stBits t m r s u
  go_wp2_with fail
  refine (l04Bits_any t m r s u _ hst).mono ?_
  rintro e w3 ⟨vb, rfl, hO, hb⟩
  have HO := Lib.hid (hO.mono (show w.heap.size + 1 ≤ w2.heap.size from HS.out.lt))
  replace HB := Lib.hid (bthen HB.out hb)
  replace HS := Lib.hid (HS.out.below hb HS.out.lt)
  generalize stBits t m r s u = xs at hlen HO
  clear hb hO hst
  go_wp2_with fail
  refine (next_any w.heap.size _ _ HS.out).mono ?_
  rintro e w4 ⟨z, rfl, hz0, hz1, hS, hg⟩
  replace HO := Lib.hid (HO.out.far hg (Nat.lt_succ_self _))
  replace HB := Lib.hid (HB.out.trans (grown_below hg (Nat.le_refl _) HB.out.size))
  have hzw := HB.out.size
  have hzl : w.heap.size + 1 ≤ w4.heap.size := hS.lt
  clear hS hg hz0 hz1 HS
  by_cases hq0 : z = 0
  · subst hq0
    obtain ⟨a, cap, rfl, hl2, hm, hn, hc⟩ := HO.out.rd
    obtain ⟨S, hS1, hS2⟩ := part_to Tryd.underlying31 hi hsz1 hl2 hm hn hc 63 (by omega)
    have HRD := Lib.hid hS2
    rw [hlen] at hS1 hl2 ⊢
    have hrun : ∀ wx, (Instr.slice 31 (.slice a 64 cap) none (some (.int .i64 63)) none).run Tryd.prog wx = .ok S wx := hS1
    clear hS1 hS2 hc hn
    go_wp2_with fail
    go_ret
    exact ⟨S, _, rfl, HRD.out, HB.out⟩
  have hzb0 : (z == 0) = false := by simp [hq0]
  by_cases hq1 : z = 1
  · subst hq1
    go_wp2_with (at_builtin; refine wpList_app1L Tryd.underlying31 hi hz0' hsz1 hsz8 rfl _ _ rfl w4 0 (w.heap.size + 1) vb xs rfl rfl HO.out (by omega) hzl ?_)
    intro v' w5 hO5 hb5 hg5 hm5
    have HO5 := Lib.hid hO5.rd
    replace HB := Lib.hid (HB.out.trans (hb5.mono (Nat.le_succ _)))
    clear hO5 hb5 hg5 hm5
    go_wp2_with fail
    go_ret
    exact ⟨v', _, rfl, HO5.out, HB.out⟩
  have hzb1 : (z == 1) = false := by simp [hq1]
  by_cases hq2 : z = 2
  · subst hq2
    obtain ⟨g, cap, rfl, hg0, hg1, hcap, hm⟩ : ∃ g cap, vb = .slice (some ⟨g, 0, none⟩) 64 cap ∧ w.heap.size < g ∧ g < w4.heap.size ∧ 64 ≤ cap ∧ cap ≤ maxLen := by
      rcases HO.out.shape with ⟨_, h⟩ | ⟨g, cap, h1, h2, h3, h4, h5⟩
      · rw [h] at hlen; simp at hlen
      · rw [hlen] at h1 h4; exact ⟨g, cap, h1, by omega, h3, h4, h5⟩
    have c5 : w4.cell? ⟨g, 5, none⟩ = some (.int .i64 (xs.getD 5 0)) := HO.out.cell 5 (by omega)
    have f5 : w4.frozen? ⟨g, 5, none⟩ = false := HO.out.free 5
    have HO5 := Lib.hid (HO.out.set 5 2).1.rd
    unfold maxLen at hm
    go_wp2_with fail
    go_ret
    exact ⟨_, _, rfl, HO5.out, HB.out.setCell (p := ⟨g, 5, none⟩) (by show w.heap.size ≤ g; omega) _⟩
  have hzb2 : (z == 2) = false := by simp [hq2]
  clear hq0 hq1 hq2
  go_wp2_with fail
  go_ret
  exact ⟨vb, _, rfl, HO.out.rd, HB.out⟩
end Go.Proofs.YtkhmnkpdlodepaaDoor
