/- The walk of the law FnAdvanced: it returns true, and nothing that was there is written. -/
import Derived.Test.YtkfhfggbmmhejaaDrA
import Derived.Test.YtkfhfggbmmhejaaStL
import Derived.Test.YtkfhfggbmmhejaaLike
namespace Go.Proofs.Ytkfhfggbmmhejaa
open Go.RowKit
set_option linter.unusedVariables false
set_option linter.unusedSimpArgs false

theorem CellN.put5 {w : World} {g : Nat} {a b c d e : Int} (h : CellN w g [a, b, c, d, e]) (z0 z1 z2 z3 z4 : Int) : CellN (((((w.setCell ⟨g, 0, none⟩ (.int .i64 z0)).setCell ⟨g, 1, none⟩ (.int .i64 z1)).setCell ⟨g, 2, none⟩ (.int .i64 z2)).setCell ⟨g, 3, none⟩ (.int .i64 z3)).setCell ⟨g, 4, none⟩ (.int .i64 z4)) g [z0, z1, z2, z3, z4] :=
  ((((h.set 0 (by simp) z0).set 1 (by simp) z1).set 2 (by simp) z2).set 3 (by simp) z3).set 4 (by simp) z4
theorem CellN.off5 {w : World} {g g' : Nat} {vs : List Int} (h : CellN w g vs) (hne : g' ≠ g) (x0 x1 x2 x3 x4 : Value) : CellN (((((w.setCell ⟨g', 0, none⟩ x0).setCell ⟨g', 1, none⟩ x1).setCell ⟨g', 2, none⟩ x2).setCell ⟨g', 3, none⟩ x3).setCell ⟨g', 4, none⟩ x4) g vs :=
  ((((h.other hne _ _).other hne _ _).other hne _ _).other hne _ _).other hne _ _

set_option maxRecDepth 20000 in
set_option maxHeartbeats 8000000 in
theorem fnAdvanced_walk {w : World} (a0 : Option Addr) (len0 cap0 : Nat) (z0 : List Int) (w0 : IsRow .u8 w a0 len0 cap0 z0) :
    Calls Try.prog 3 #[.slice a0 len0 cap0] w fun e w' => e = .returned (.bool true) ∧ Below w.heap.size w w' := by
  obtain ⟨hl0, hr0⟩ := w0.rd
  have ho0 := w0.bytes
  obtain ⟨cs, hcs⟩ : ∃ cs, cs = z0.take len0 := ⟨_, rfl⟩
  rw [← hcs] at hl0 hr0 ho0
  clear hcs w0
  subst hl0
  have HR := Lib.hid hr0
  have HO8 := Lib.hid ho0
  clear hr0 ho0
  by_cases hbig : 4096 < cs.length
  · have hd : decide ((4096 : Int) < (cs.length : Int)) = true := decide_eq_true (by omega)
    go_enter Try.func3, Try.ntmps3
    go_wp2_with (go_at_call 5; refine (big_any _ cs _ HR.out).mono ?_; rw [hd]; rintro e w' ⟨rfl, rfl⟩)
    go_ret
    exact ⟨rfl, Below.refl _ _⟩
  have hd : decide ((4096 : Int) < (cs.length : Int)) = false := decide_eq_false (by omega)
  have hcl : cs.length ≤ 4096 := by omega
  have HB := Lib.hid (Below.refl w.heap.size w)
  go_enter Try.func3, Try.ntmps3
  go_wp2_with fail
  refine (big_any _ cs _ HR.out).mono ?_
  rw [hd]
  rintro e w' ⟨rfl, rfl⟩
  go_wp2_with fail
  refine (drawAdvanceState_any _ cs _ (HR.out.below HB.out) hcl HO8.out).mono ?_
  rintro e w1x ⟨t, m, r, s, u, d, n, k, rfl, hb1⟩
  replace HB := Lib.hid (bthen HB.out hb1)
  clear hb1
  obtain ⟨X, hX⟩ : ∃ X, X = advB t m r s u d n k := ⟨_, rfl⟩
  have HX := Lib.hid hX
  clear hX
  obtain ⟨⟨p0, p1, p2, p3, p4⟩, c⟩ := X
  have hzG := HB.out.size
  have HG := Lib.hid (CellN.new5 w1x t m r s u 25)
  replace HB := Lib.hid (HB.out.alloc HB.out.size (.cells #[.int .i64 t, .int .i64 m, .int .i64 r, .int .i64 s, .int .i64 u] 25))
  obtain ⟨W, hW⟩ : ∃ W, W = w1x.alloc (.cells #[.int .i64 t, .int .i64 m, .int .i64 r, .int .i64 s, .int .i64 u] 25) := ⟨_, rfl⟩
  obtain ⟨G, hG⟩ : ∃ G, G = w1x.heap.size := ⟨_, rfl⟩
  have hsW : W.heap.size = G + 1 := by rw [hW, hG]; simp
  rw [← hG] at HG hzG
  rw [← hW] at HB HG 
  go_wp2_with fail
  rw [← hW, ← hG]
  clear hW hG
  have h1 := advanceState_any t m r s u d n k W
  rw [← HX.out] at h1
  simp only [St.val] at h1
  refine h1.mono ?_
  clear h1
  rintro e w2x ⟨rfl, hb2⟩
  replace HG := Lib.hid (HG.out.next hb2)
  replace HB := Lib.hid (bthen HB.out hb2)
  clear hb2
  obtain ⟨⟨a0G, a1G, a2G, a3G, a4G⟩, ⟨g0G, g1G, g2G, g3G, g4G⟩⟩ := HG.out.five
  have ka0G := keepA a0G
  have ka1G := keepA a1G
  have ka2G := keepA a2G
  have ka3G := keepA a3G
  have ka4G := keepA a4G
  have hzP := HB.out.size
  have HP := Lib.hid (CellN.new5 w2x p0 p1 p2 p3 p4 25)
  replace HG := Lib.hid (HG.out.alloc (.cells #[.int .i64 p0, .int .i64 p1, .int .i64 p2, .int .i64 p3, .int .i64 p4] 25))
  replace HB := Lib.hid (HB.out.alloc HB.out.size (.cells #[.int .i64 p0, .int .i64 p1, .int .i64 p2, .int .i64 p3, .int .i64 p4] 25))
  obtain ⟨W2, hW2⟩ : ∃ W2, W2 = w2x.alloc (.cells #[.int .i64 p0, .int .i64 p1, .int .i64 p2, .int .i64 p3, .int .i64 p4] 25) := ⟨_, rfl⟩
  obtain ⟨P, hP⟩ : ∃ P, P = w2x.heap.size := ⟨_, rfl⟩
  have hsW2 : W2.heap.size = P + 1 := by rw [hW2, hP]; simp
  rw [← hP] at HP hzP
  rw [← hW2] at HB HP HG
  go_wp2_with fail
  clear ka0G ka1G ka2G ka3G ka4G
  clear a0G a1G a2G a3G a4G g0G g1G g2G g3G g4G
  rw [← hW2, ← hP]
  clear hW2 hP
  have h1 := sAdvanceState_any t m r s u d n k W2
  rw [← HX.out] at h1
  simp only [St.val] at h1
  refine h1.mono ?_
  clear h1
  rintro e w3x ⟨rfl, hb3⟩
  replace HG := Lib.hid (HG.out.next hb3)
  replace HP := Lib.hid (HP.out.next hb3)
  replace HB := Lib.hid (bthen HB.out hb3)
  clear hb3
  have hcc : (c != c) = false := by simp
  by_cases hok : c = 0
  rotate_left
  · have hne : (c != 0) = true := by simpa using hok
    clear hok
    obtain ⟨⟨a0G, a1G, a2G, a3G, a4G⟩, ⟨g0G, g1G, g2G, g3G, g4G⟩⟩ := HG.out.five
    obtain ⟨⟨a0P, a1P, a2P, a3P, a4P⟩, ⟨g0P, g1P, g2P, g3P, g4P⟩⟩ := HP.out.five
    have ka0G := keepA a0G
    have ka1G := keepA a1G
    have ka2G := keepA a2G
    have ka3G := keepA a3G
    have ka4G := keepA a4G
    have ka0P := keepA a0P
    have ka1P := keepA a1P
    have ka2P := keepA a2P
    have ka3P := keepA a3P
    have ka4P := keepA a4P
    clear a0G a1G a2G a3G a4G g0G g1G g2G g3G g4G
    clear a0P a1P a2P a3P a4P g0P g1P g2P g3P g4P
    have hzQ := HB.out.size
    have HQ := Lib.hid (CellN.new5 w3x p0 p1 p2 p3 p4 25)
    replace HG := Lib.hid (HG.out.alloc (.cells #[.int .i64 p0, .int .i64 p1, .int .i64 p2, .int .i64 p3, .int .i64 p4] 25))
    replace HP := Lib.hid (HP.out.alloc (.cells #[.int .i64 p0, .int .i64 p1, .int .i64 p2, .int .i64 p3, .int .i64 p4] 25))
    replace HB := Lib.hid (HB.out.alloc HB.out.size (.cells #[.int .i64 p0, .int .i64 p1, .int .i64 p2, .int .i64 p3, .int .i64 p4] 25))
    obtain ⟨W3, hW3⟩ : ∃ W3, W3 = w3x.alloc (.cells #[.int .i64 p0, .int .i64 p1, .int .i64 p2, .int .i64 p3, .int .i64 p4] 25) := ⟨_, rfl⟩
    obtain ⟨Q, hQ⟩ : ∃ Q, Q = w3x.heap.size := ⟨_, rfl⟩
    have hsW3 : W3.heap.size = Q + 1 := by rw [hW3, hQ]; simp
    rw [← hQ] at HQ hzQ
    rw [← hW3] at HB HQ HG HP
    go_wp2_with fail
    rw [← hW3]
    go_ret
    exact ⟨rfl, HB.out⟩
  subst hok
  obtain ⟨x, hx1, hx2, hx3, hx4⟩ := adv_time (t := t) (m := m) (r := r) (s := s) (v := u) (d := d) (n := n) (k := k) (by rw [← HX.out])
  obtain ⟨hst, hao, _⟩ := advB_ok (t := t) (m := m) (r := r) (s := s) (v := u) (d := d) (n := n) (k := k) (by rw [← HX.out])
  rw [← HX.out] at hx1
  have HT := Lib.hid hx1
  have HST := Lib.hid hst
  obtain ⟨b1, b2, b3, b4, b5⟩ := stB_bounds hst
  obtain ⟨e1, e2, e3, e4, e5⟩ := advOk_yes hao
  have HAO := Lib.hid hao
  clear hx1 hst hao
  obtain ⟨⟨a0G, a1G, a2G, a3G, a4G⟩, ⟨g0G, g1G, g2G, g3G, g4G⟩⟩ := HG.out.five
  obtain ⟨⟨a0P, a1P, a2P, a3P, a4P⟩, ⟨g0P, g1P, g2P, g3P, g4P⟩⟩ := HP.out.five
  have ka0G := keepA a0G
  have ka1G := keepA a1G
  have ka2G := keepA a2G
  have ka3G := keepA a3G
  have ka4G := keepA a4G
  have ka0P := keepA a0P
  have ka1P := keepA a1P
  have ka2P := keepA a2P
  have ka3P := keepA a3P
  have ka4P := keepA a4P
  have hzQ := HB.out.size
  have HQ := Lib.hid (CellN.new5 w3x p0 p1 p2 p3 p4 25)
  replace HG := Lib.hid (HG.out.alloc (.cells #[.int .i64 p0, .int .i64 p1, .int .i64 p2, .int .i64 p3, .int .i64 p4] 25))
  replace HP := Lib.hid (HP.out.alloc (.cells #[.int .i64 p0, .int .i64 p1, .int .i64 p2, .int .i64 p3, .int .i64 p4] 25))
  replace HB := Lib.hid (HB.out.alloc HB.out.size (.cells #[.int .i64 p0, .int .i64 p1, .int .i64 p2, .int .i64 p3, .int .i64 p4] 25))
  obtain ⟨W3, hW3⟩ : ∃ W3, W3 = w3x.alloc (.cells #[.int .i64 p0, .int .i64 p1, .int .i64 p2, .int .i64 p3, .int .i64 p4] 25) := ⟨_, rfl⟩
  obtain ⟨Q, hQ⟩ : ∃ Q, Q = w3x.heap.size := ⟨_, rfl⟩
  have hsW3 : W3.heap.size = Q + 1 := by rw [hW3, hQ]; simp
  rw [← hQ] at HQ hzQ
  rw [← hW3] at HB HQ HG HP
  go_wp2_with fail
  clear ka0G ka1G ka2G ka3G ka4G
  clear ka0P ka1P ka2P ka3P ka4P
  clear a0G a1G a2G a3G a4G g0G g1G g2G g3G g4G
  clear a0P a1P a2P a3P a4P g0P g1P g2P g3P g4P
  rw [← hW3, ← hQ]
  clear hW3 hQ
  have h1 := timeBetween_any t m r s u p0 p1 p2 p3 p4 W3
  have h2 := HT.out
  rw [h2] at h1
  clear h2
  refine h1.mono ?_
  clear h1
  rintro e w4x ⟨rfl, hb4⟩
  replace HG := Lib.hid (HG.out.next hb4)
  replace HP := Lib.hid (HP.out.next hb4)
  replace HQ := Lib.hid (HQ.out.next hb4)
  replace HB := Lib.hid (bthen HB.out hb4)
  clear hb4
  clear HP HQ HX HT
  obtain ⟨N, rfl⟩ := Int.eq_ofNat_of_zero_le (show 0 ≤ n by omega)
  have hGE : G ≠ w4x.heap.size := by have := HG.out.lt; omega
  have hz4 : ∃ z, z = w4x.heap.size := ⟨_, rfl⟩
  obtain ⟨⟨a0G, a1G, a2G, a3G, a4G⟩, ⟨g0G, g1G, g2G, g3G, g4G⟩⟩ := HG.out.five
  have ka0G := keepA a0G
  have ka1G := keepA a1G
  have ka2G := keepA a2G
  have ka3G := keepA a3G
  have ka4G := keepA a4G
  have hzE := HB.out.size
  have HE := Lib.hid (CellN.new5 w4x t m r s u 25)
  replace HG := Lib.hid (HG.out.alloc (.cells #[.int .i64 t, .int .i64 m, .int .i64 r, .int .i64 s, .int .i64 u] 25))
  replace HB := Lib.hid (HB.out.alloc HB.out.size (.cells #[.int .i64 t, .int .i64 m, .int .i64 r, .int .i64 s, .int .i64 u] 25))
  obtain ⟨W4, hW4⟩ : ∃ W4, W4 = w4x.alloc (.cells #[.int .i64 t, .int .i64 m, .int .i64 r, .int .i64 s, .int .i64 u] 25) := ⟨_, rfl⟩
  obtain ⟨E, hE⟩ : ∃ E, E = w4x.heap.size := ⟨_, rfl⟩
  have hsW4 : W4.heap.size = E + 1 := by rw [hW4, hE]; simp
  rw [← hE] at HE hzE
  rw [← hW4] at HB HE HG
  go_wp2_with fail
  clear ka0G ka1G ka2G ka3G ka4G
  clear a0G a1G a2G a3G a4G g0G g1G g2G g3G g4G
  rw [← hE] at hGE
  rw [← hW4, ← hE]
  clear hW4 hE
  clear hz4
  have HZ := Lib.hid (advAt_zero HST.out HAO.out)
  go_loopw [14] (fun i wr => ∃ j : Nat, j ≤ N ∧ i = .int .i64 j ∧ CellN wr E [(advAt t m r s u d (N : Int) k j).t, (advAt t m r s u d (N : Int) k j).m, (advAt t m r s u d (N : Int) k j).r, (advAt t m r s u d (N : Int) k j).s, (advAt t m r s u d (N : Int) k j).v] ∧ CellN wr G [t, m, r, s, u] ∧ Below w.heap.size w wr) (fun i _ => N - (intOf i).toNat)
  case atStart => exact ⟨0, Nat.zero_le _, rfl, by rw [HZ.out]; exact HE.out, HG.out, HB.out⟩
  case round =>
    clear HE HG HB HZ
    obtain ⟨j, hj, rfl, hE, hG, hB⟩ := hrel
    by_cases hlt : j < N
    · have hji : (j : Int) < (N : Int) := by omega
      have hj0 : (0 : Int) ≤ (j : Int) := by omega
      have hs := advAt_succ HST.out HAO.out j hji
      obtain ⟨Q, hQ⟩ : ∃ Q, Q = advAt t m r s u d (N : Int) k j := ⟨_, rfl⟩
      obtain ⟨Z, hZ⟩ : ∃ Z, Z = advAt t m r s u d (N : Int) k (j + 1) := ⟨_, rfl⟩
      rw [← hQ] at hE hs
      rw [← hZ] at hs
      have HZ := Lib.hid hZ
      have HG := Lib.hid hG
      have HE := Lib.hid hE
      have HB := Lib.hid hB
      obtain ⟨q0, q1, q2, q3, q4⟩ := Q
      obtain ⟨z0, z1, z2, z3, z4⟩ := Z
      have HS := Lib.hid hs
      clear hE hG hB hQ hZ hs
      obtain ⟨⟨a0, a1, a2, a3, a4⟩, ⟨f0, f1, f2, f3, f4⟩⟩ := HE.out.five
      go_wp2_with fail
      clear a0 a1 a2 a3 a4 f0 f1 f2 f3 f4
      have h1 := advanceState_any q0 q1 q2 q3 q4 d (N : Int) k wr
      have h2 := HS.out
      rw [h2] at h1
      simp only [St.val] at h1
      clear h2
      refine h1.mono ?_
      clear h1
      rintro e w5x ⟨rfl, hb5⟩
      have HE5 := Lib.hid (HE.out.next hb5)
      have HG5 := Lib.hid (HG.out.next hb5)
      have HB5 := Lib.hid (bthen HB.out hb5)
      clear hb5 HE HG HB
      obtain ⟨⟨a0, a1, a2, a3, a4⟩, ⟨f0, f1, f2, f3, f4⟩⟩ := HE5.out.five
      have ka0 := keepA a0
      have ka1 := keepA a1
      have ka2 := keepA a2
      have ka3 := keepA a3
      have ka4 := keepA a4
      have hlE := HE5.out.lt
      have hnE : ¬ (w5x.heap.size = E) := by omega
      have hnE2 : ¬ (E = w5x.heap.size) := by omega
      have kf0 : ∀ o : Obj, (w5x.alloc o).frozen? ⟨E, 0, none⟩ = false := fun o => (HE5.out.alloc o).five.2.1
      have kf1 : ∀ o : Obj, (w5x.alloc o).frozen? ⟨E, 1, none⟩ = false := fun o => (HE5.out.alloc o).five.2.2.1
      have kf2 : ∀ o : Obj, (w5x.alloc o).frozen? ⟨E, 2, none⟩ = false := fun o => (HE5.out.alloc o).five.2.2.2.1
      have kf3 : ∀ o : Obj, (w5x.alloc o).frozen? ⟨E, 3, none⟩ = false := fun o => (HE5.out.alloc o).five.2.2.2.2.1
      have kf4 : ∀ o : Obj, (w5x.alloc o).frozen? ⟨E, 4, none⟩ = false := fun o => (HE5.out.alloc o).five.2.2.2.2.2
      go_wp2_with fail
      go_roundw
      case rel => exact ⟨j + 1, by omega, by go_num, by rw [← HZ.out]; exact (HE5.out.put5 z0 z1 z2 z3 z4).alloc _, (HG5.out.off5 (fun h => hGE h.symm) _ _ _ _ _).alloc _, (below_put5 HB5.out hzE _ _ _ _ _).alloc (below_put5 HB5.out hzE _ _ _ _ _).size _⟩
      case measure => simp [intOf]; omega
    · have hje : j = N := by omega
      subst hje
      obtain ⟨y1, y2, y3⟩ := advAt_end HST.out HAO.out
      rw [y1, y2, y3] at hE
      obtain ⟨R, hR⟩ : ∃ R, R = (r + 1) % k := ⟨_, rfl⟩
      rw [← hR] at hE
      have hs1 : IntKind.i64.wrap (x - d) = x - d := IntWalk.i64_in _ (by omega)
      have hrem : (x - d).tmod 65536 = 0 := Int.tmod_eq_zero_of_dvd (Int.dvd_of_emod_eq_zero hx2)
      have hr1 : IntKind.i64.wrap (r + 1) = r + 1 := IntWalk.i64_in _ (by omega)
      have hrem2 : (r + 1).tmod k = R := by rw [Int.tmod_eq_emod_of_nonneg (by omega), hR]
      have hR0 : 0 ≤ R := by rw [hR]; exact Int.emod_nonneg _ (by omega)
      have hR1 : R < k := by rw [hR]; exact Int.emod_lt_of_pos _ (by omega)
      have hr2 : IntKind.i64.wrap R = R := IntWalk.i64_in _ (by omega)
      have hk0 : (k == 0) = false := by simp; omega
      have hk1 : ¬ (k = 0) := by omega
      have HB := Lib.hid hB
      obtain ⟨⟨a0, a1, a2, a3, a4⟩, ⟨f0, f1, f2, f3, f4⟩⟩ := hE.five
      obtain ⟨⟨c0, c1, c2, c3, c4⟩, ⟨l0, l1, l2, l3, l4⟩⟩ := hG.five
      have hss : (s == s) = true := by simp
      have hRR : (R == R) = true := by simp
      have huu : (u == u) = true := by simp
      clear hE hG hB y1 y2 y3 hR hx2 hR0 hR1
      go_wp2_with fail
      go_quiet (fail)
      go_wp2_with fail
      go_ret
      exact ⟨rfl, below_drewN HB.out _⟩
end Go.Proofs.Ytkfhfggbmmhejaa