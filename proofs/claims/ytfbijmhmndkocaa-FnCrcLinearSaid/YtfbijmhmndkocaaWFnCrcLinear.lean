/- The walk of the law FnCrcLinear: it returns true, and nothing that was there is written. -/
import Derived.Test.YtfbijmhmndkocaaDrQ
import Derived.Test.YtfbijmhmndkocaaCrcL
import Derived.Test.YtfbijmhmndkocaaDice
import Derived.Test.YtfbijmhmndkocaaApL
import Derived.Test.YtfbijmhmndkocaaNumOps
import Derived.Test.YtfbijmhmndkocaaLike
import Derived.Test.YtfbijmhmndkocaaSum
namespace Go.Proofs.Ytfbijmhmndkocaa
open Go.RowKit
set_option linter.unusedVariables false
set_option linter.unusedSimpArgs false

set_option maxHeartbeats 8000000 in
theorem fnCrcLinear_walk {w : World} (a0 : Option Addr) (len0 cap0 : Nat) (z0 : List Int) (w0 : IsRow .u8 w a0 len0 cap0 z0) :
    Calls Try.prog 4 #[.slice a0 len0 cap0] w fun e w' => e = .returned (.bool true) ∧ Below w.heap.size w w' := by
  obtain ⟨hl0, hr0⟩ := w0.rd
  have ho0 := w0.bytes
  obtain ⟨cs, hcs⟩ : ∃ cs, cs = z0.take len0 := ⟨_, rfl⟩
  rw [← hcs] at hl0 hr0 ho0
  clear hcs w0
  subst hl0
  have HR := Lib.hid hr0
  have HO8 := Lib.hid ho0
  clear hr0 ho0
  by_cases hbig : 4096 < cs.length
  · have hd : decide ((4096 : Int) < (cs.length : Int)) = true := decide_eq_true (by omega)
    go_enter Try.func4, Try.ntmps4
    go_wp2_with (go_at_call 7; refine (big_any _ cs _ HR.out).mono ?_; rw [hd]; rintro e w' ⟨rfl, rfl⟩)
    go_ret
    exact ⟨rfl, Below.refl _ _⟩
  have hd : decide ((4096 : Int) < (cs.length : Int)) = false := decide_eq_false (by omega)
  have hcl : cs.length ≤ 4096 := by omega
  have HB := Lib.hid (Below.refl w.heap.size w)
  go_enter Try.func4, Try.ntmps4
  go_wp2_with fail
  refine (big_any _ cs _ HR.out).mono ?_
  rw [hd]
  rintro e w' ⟨rfl, rfl⟩
  go_wp2_with fail
  refine (drawSyndromeOf_any _ cs _ (HR.out.below HB.out) hcl HO8.out).mono ?_
  rintro e w1x ⟨wd, po, va, xs, rfl, hOxs, hshx, hb1⟩
  have HOxs := Lib.hid (hOxs.mono HB.out.size)
  clear hOxs
  replace HB := Lib.hid (bthen HB.out hb1)
  clear hb1
  obtain ⟨X, hX⟩ : ∃ X, X = crcBits wd po 0 xs := ⟨_, rfl⟩
  have HX := Lib.hid hX
  clear hX hshx
  have hzG := HB.out.size
  have HG := Lib.hid (Cell2.new w1x wd po 25)
  replace HOxs := Lib.hid (HOxs.out.alloc (.cells #[.int .i64 wd, .int .i64 po] 25))
  replace HB := Lib.hid (HB.out.alloc HB.out.size (.cells #[.int .i64 wd, .int .i64 po] 25))
  obtain ⟨W, hW⟩ : ∃ W, W = w1x.alloc (.cells #[.int .i64 wd, .int .i64 po] 25) := ⟨_, rfl⟩
  obtain ⟨G, hG⟩ : ∃ G, G = w1x.heap.size := ⟨_, rfl⟩
  have hsW : W.heap.size = G + 1 := by rw [hW, hG]; simp
  rw [← hG] at HG hzG
  rw [← hW] at HB HG HOxs
  obtain ⟨aa, ca, rfl⟩ := HOxs.out.slice
  obtain ⟨c0G, c1G, f0G, f1G⟩ := HG.out
  go_wp2_with fail
  rw [← hW, ← hG]
  clear hW hG
  clear c0G c1G f0G f1G
  refine (syndromeOf_any wd po _ xs _ HOxs.out.rd).mono ?_
  rw [← HX.out]
  rintro e w2x ⟨rfl, hb2⟩
  replace HG := Lib.hid (HG.out.next hb2)
  replace HOxs := Lib.hid (HOxs.out.below hb2)
  replace HB := Lib.hid (bthen HB.out hb2)
  clear hb2
  obtain ⟨c0G, c1G, f0G, f1G⟩ := HG.out
  go_wp2_with fail
  clear c0G c1G f0G f1G
  refine (sSyndromeOf_any wd po _ xs _ HOxs.out.rd).mono ?_
  rw [← HX.out]
  rintro e w3x ⟨rfl, hb3⟩
  replace HG := Lib.hid (HG.out.next hb3)
  replace HOxs := Lib.hid (HOxs.out.below hb3)
  replace HB := Lib.hid (bthen HB.out hb3)
  clear hb3
  have hb1 : (X.1 != X.1) = false := by simp
  have hb2 : (X.2 != X.2) = false := by simp
  by_cases hok : X.2 = 0
  rotate_left
  · have hne : (X.2 != 0) = true := by simpa using hok
    clear hok
    obtain ⟨c0G, c1G, f0G, f1G⟩ := HG.out
    go_wp2_with fail
    clear c0G c1G f0G f1G
    go_ret
    exact ⟨rfl, HB.out⟩
  have hne : (X.2 != 0) = false := by simp [hok]
  obtain ⟨hcb, _, _, hib⟩ := crcBits_ok (HX.out ▸ hok)
  obtain ⟨hln, hall⟩ := isBitsB_yes hib
  obtain ⟨hw1, hw2, _⟩ := crcB_yes hcb
  have HALL := Lib.hid hall
  have HCR := Lib.hid hcb
  have HOK := Lib.hid hok
  clear hok hcb hib hall
  go_wp2_with fail
  refine (roll_any _ cs _ _ (HR.out.below HB.out) hcl HO8.out).mono ?_
  rintro e w4x ⟨rfl, hD, hb6⟩
  obtain ⟨D, hDe⟩ : ∃ D, D = w3x.heap.size := ⟨_, rfl⟩
  have HGD : Hid (G < D) := Lib.hid (by rw [hDe]; exact HG.out.lt)
  rw [← hDe] at hD ⊢
  have HD := Lib.hid hD
  have HBD : Hid (Below D w3x w4x) := Lib.hid (by rw [hDe]; exact hb6)
  have HDE := Lib.hid hDe
  clear hD hb6 hDe
  obtain ⟨i0, hi, hz0, hz1, hz2⟩ := info_parts infoD
  have hzD := HD.out.lt
  have HOa := Lib.hid ((Own.made 2 w4x (D + 1) hzD).alloc (.cells #[] 2))
  have HOb := Lib.hid (Own.made 2 (w4x.alloc (.cells #[] 2)) (D + 1) (by simp; omega))
  have HD2 := Lib.hid ((HD.out.below (B := D + 1) ((Below.refl _ _).alloc hzD (.cells #[] 2)) (Nat.lt_succ_self _)).below (B := D + 1) ((Below.refl _ _).alloc (by simp; omega) (.cells #[] 2)) (Nat.lt_succ_self _))
  have HBD2 := Lib.hid ((HBD.out.alloc (by rw [HDE.out]; exact HBD.out.size) (.cells #[] 2)).alloc (by simp; omega) (.cells #[] 2))
  have HAP : Hid (Apart (.slice (some ⟨w4x.heap.size, 0, none⟩) 0 0) (.slice (some ⟨w4x.heap.size + 1, 0, none⟩) 0 0)) := Lib.hid (fun g h1 h2 => by simp [Value.ownBlock] at h1 h2; omega)
  have HRX := Lib.hid HOxs.out.rd
  clear HOxs
  go_wp2_with fail
  clear HD HBD hzD
  go_loopw [10, 11, 12] (fun a b i wr => ∃ (k : Nat) (qs : List Int) (va vb : Value), k ≤ xs.length ∧ va = a ∧ vb = b ∧ i = .int .i64 k ∧ qs.length = k ∧ allIn qs 0 1 = true ∧ Own 2 wr (D + 1) va qs ∧ Own 2 wr (D + 1) vb (xorL qs (xs.take k)) ∧ Apart va vb ∧ DieAt wr D ∧ Below D w3x wr) (fun _ _ i _ => xs.length - (intOf i).toNat)
  case atStart => exact ⟨0, [], _, _, Nat.zero_le _, rfl, rfl, rfl, rfl, rfl, HOa.out, by simpa [xorL] using HOb.out, HAP.out, HD2.out, HBD2.out⟩
  case round =>
    clear HOa HOb HD2 HBD2 HAP
    obtain ⟨k, qs, va, vb, hk, rfl, rfl, rfl, hql, hqa, hOa, hOb, hap, hD, hbd⟩ := hrel
    have HQL := Lib.hid hql
    have HQA := Lib.hid hqa
    have HOa := Lib.hid hOa
    have HOb := Lib.hid hOb
    have HAP := Lib.hid hap
    have HD := Lib.hid hD
    have HBD := Lib.hid hbd
    clear hql hqa hOa hOb hap hD hbd
    by_cases hlt : k < xs.length
    · have hki : (k : Int) < (xs.length : Int) := by omega
      have hk0 : (0 : Int) ≤ (k : Int) := by omega
      go_wp2_with fail
      refine (dieBelow_any D _ _ HD.out (by omega)).mono ?_
      rintro e w5x ⟨x, rfl, hx0, hx1, hD, hg⟩
      replace HOa := Lib.hid (HOa.out.far hg (Nat.lt_succ_self _))
      replace HOb := Lib.hid (HOb.out.far hg (Nat.lt_succ_self _))
      replace HBD := Lib.hid (HBD.out.trans (grown_below hg (Nat.le_refl _) (Nat.le_trans (Nat.le_succ _) HD.out.lt)))
      replace HD := Lib.hid hD
      clear hD hg
      have hz5 : D + 1 ≤ w5x.heap.size := HD.out.lt
      go_wp2_with (at_builtin; refine wpList_app1L Try.underlying26 hi hz0 hz1 hz2 rfl _ _ rfl w5x x (D + 1) va qs rfl rfl HOa.out (by have := HQL.out; omega) hz5 ?_)
      intro va2 w6x hO6 hb6 hg6 hmv
      have HOb6 := Lib.hid (HOb.out.kept hg6 HAP.out.symm.kept)
      have HAP6 := Lib.hid ((HAP.out.symm.moved HOb.out hmv).symm)
      have HD6 := Lib.hid (HD.out.below hb6 (Nat.lt_succ_self _))
      have HBD6 := Lib.hid (HBD.out.trans (hb6.mono (Nat.le_succ _)))
      have HOa6 := Lib.hid hO6
      clear hO6 hb6 hg6 hmv HOa HOb HAP HD HBD hz5
      have hql2 : (qs ++ [x]).length = k + 1 := by rw [List.length_append, HQL.out]; rfl
      obtain ⟨ga, capa, hva, hga⟩ : ∃ ga capa, va2 = .slice (some ⟨ga, 0, none⟩) (k + 1) capa ∧ D + 1 ≤ ga := by
        rcases HOa6.out.shape with ⟨_, h⟩ | ⟨g, cap, h, h2, _⟩
        · simp at h
        · exact ⟨g, cap, by rw [h, hql2], h2⟩
      rw [hva] at HOa6 HAP6 ⊢
      clear hva
      have hca : w6x.cell? ⟨ga, k, none⟩ = some (.int .i64 x) := by
        have h := HOa6.out.cell k (by rw [hql2]; omega)
        have e : (qs ++ [x]).getD k 0 = x := by have := HQL.out; simp [List.getD, ← this]
        rw [h, e]
      obtain ⟨y, hy⟩ : ∃ y, y = xs.getD k 0 := ⟨_, rfl⟩
      have hyb : 0 ≤ y ∧ y ≤ 1 := by rw [hy]; exact allIn_at HALL.out k hlt
      obtain ⟨b2, off2, hab, hcx⟩ : ∃ b2 off2, aa = some ⟨b2, off2, none⟩ ∧ w6x.cell? ⟨b2, off2 + k, none⟩ = some (.int .i64 y) := by
        have h := HRX.out.below (w' := w6x) (by rw [← HDE.out]; exact HBD6.out)
        obtain ⟨a', cap', hv, h1, h2, h3, hc⟩ := h
        cases hv
        obtain ⟨b2, off2, e, hc2⟩ := hc k hlt
        exact ⟨b2, off2, e, by rw [hc2, hy]⟩
      have hxor := xor_bits (x := x) (y := y) ⟨hx0, by omega⟩ hyb
      have HS := Lib.hid (xorL_snoc qs (xs.take k) x y (by rw [HQL.out, List.length_take]; omega))
      have HT := Lib.hid (take_succ_getD xs k hlt)
      have HY := Lib.hid hy
      have hq1 : (k : Int) < ((k + 1 : Nat) : Int) := by omega
      have hq2 : (k : Int) < (k : Int) + 1 := by omega
      have hxi : inB x 0 1 = true := inB_mk (by omega)
      have HXI := Lib.hid hxi
      have hsz2 : D + 1 ≤ w6x.heap.size := HD6.out.lt
      have HOA : ∀ o, Hid (Own 2 (w6x.alloc o).drew (D + 1) vb (xorL qs (xs.take k))) := fun o => Lib.hid (HOb6.out.alloc o).drew
      have HOA2 : ∀ o, Hid (Own 2 (w6x.alloc o).drew (D + 1) (.slice (some ⟨ga, 0, none⟩) (k + 1) capa) (qs ++ [x])) := fun o => Lib.hid (HOa6.out.alloc o).drew
      have HDA : ∀ o, Hid (DieAt (w6x.alloc o).drew D) := fun o => Lib.hid (HD6.out.below (B := D + 1) (((Below.refl _ _).alloc hsz2 o).drew) (Nat.lt_succ_self _))
      have HBA : ∀ o, Hid (Below D w3x (w6x.alloc o).drew) := fun o => Lib.hid ((HBD6.out.alloc (by omega) o).drew)
      have HZA : ∀ o, Hid (D + 1 ≤ (w6x.alloc o).drew.heap.size) := fun o => Lib.hid (HDA o).out.lt
      clear hy hxi
      subst hab
      go_wp2
      go_region_law ((refine step_app1L Try.underlying26 hi hz0 hz1 hz2 rfl _ _ rfl _ w6x.heap.size (bxor x y) (D + 1) vb _ rfl rfl (by simp) (HOA _).out (by rw [length_xorL _ _ (by rw [HQL.out, List.length_take]; omega)]; have := HQL.out; omega) (HZA _).out ?_; intro v1 w7x hO7 hb7 hg7 hmv))
      all_goals
        have HO7 := Lib.hid hO7
        have HOa7 := Lib.hid ((HOA2 _).out.kept hg7 HAP6.out.kept)
        have HAP7 := Lib.hid (HAP6.out.moved (HOA2 _).out hmv)
        have HD7 := Lib.hid ((HDA _).out.below hb7 (Nat.lt_succ_self _))
        have HB7 := Lib.hid ((HBA _).out.trans (hb7.mono (Nat.le_succ _)))
        clear hO7 hb7 hg7 hmv HOA HOA2 HDA HBA HZA
        go_wp2
        go_roundw
        case rel => exact ⟨k + 1, qs ++ [x], _, _, by omega, rfl, rfl, by go_num, hql2, by rw [allIn_snoc, HQA.out, HXI.out]; rfl, HOa7.out, by rw [HT.out, ← HY.out, HS.out]; exact HO7.out, HAP7.out, HD7.out, HB7.out⟩
        case measure => simp [intOf]; omega
    · have hke : k = xs.length := by omega
      subst hke
      have HBW := HB
      replace HB := Lib.hid (HB.out.trans (HBD.out.mono (by rw [HDE.out]; exact HB.out.size)))
      replace HG := Lib.hid (HG.out.below HBD.out HGD.out)
      obtain ⟨c0G, c1G, f0G, f1G⟩ := HG.out
      have hp1 := p2_pos wd
      have hp2 : p2 wd ≤ 16777216 := p2_le (k := 24) (by omega) (by decide)
      have hs1 := p2_wrap64 (n := wd) (by omega)
      have hs2 := p2_wrap (n := wd) (by omega)
      have hlin := fun (sd : Int) (a : 0 ≤ sd) (b : sd < p2 wd) => crc_linear (HX.out ▸ HOK.out) HQL.out HQA.out a b
      have HLN := Lib.hid hlin
      have HOb2 : Hid (Own 2 wr (D + 1) vb (xorL qs xs)) := Lib.hid (by have h := HOb.out; rwa [List.take_length] at h)
      clear hlin HOb
      go_wp2_with fail
      clear c0G c1G f0G f1G hs1 hs2
      refine (dieBelow_any D _ _ HD.out (by omega)).mono ?_
      rintro e w8x ⟨sd, rfl, hs0, hs1, hD, hg⟩
      have hgb := grown_below hg (Nat.le_refl D) (Nat.le_trans (Nat.le_succ _) HD.out.lt)
      replace HOa := Lib.hid (HOa.out.far hg (Nat.lt_succ_self _))
      replace HOb2 := Lib.hid (HOb2.out.far hg (Nat.lt_succ_self _))
      replace HG := Lib.hid (HG.out.below hgb HGD.out)
      replace HB := Lib.hid (HB.out.trans (hgb.mono (by rw [HDE.out]; exact HBW.out.size)))
      obtain ⟨x, y, q1, q2, q3, hx0, hx1, hy0, hy1⟩ := HLN.out sd hs0 hs1
      have HQ1 := Lib.hid q1
      have HQ2 := Lib.hid q2
      rw [← HX.out] at q3
      obtain ⟨hxor, hxor2⟩ := xor_small hx0 hx1 hy0 hy1
      rw [q3] at hxor hxor2
      clear hD hg hgb HD HLN hs0 hs1 q1 q2 q3 HBD HDE HX HRX
      obtain ⟨c0G, c1G, f0G, f1G⟩ := HG.out
      go_wp2_with fail
      clear c0G c1G f0G f1G
      refine (crcOfBits_any wd po sd _ qs _ HOa.out.rd).mono ?_
      rw [HQ1.out]
      rintro e w9x ⟨rfl, hb9⟩
      replace HOb2 := Lib.hid (HOb2.out.below hb9)
      replace HG := Lib.hid (HG.out.next hb9)
      replace HB := Lib.hid (bthen HB.out hb9)
      clear hb9 HOa
      obtain ⟨c0G, c1G, f0G, f1G⟩ := HG.out
      go_wp2_with fail
      clear c0G c1G f0G f1G
      refine (crcOfBits_any wd po sd _ _ _ HOb2.out.rd).mono ?_
      rw [HQ2.out]
      rintro e w10x ⟨rfl, hb10⟩
      replace HB := Lib.hid (bthen HB.out hb10)
      clear hb10 HOb2 HG
      have hxx : (X.1 == X.1) = true := by simp
      go_wp2_with fail
      go_ret
      exact ⟨rfl, HB.out⟩
end Go.Proofs.Ytfbijmhmndkocaa