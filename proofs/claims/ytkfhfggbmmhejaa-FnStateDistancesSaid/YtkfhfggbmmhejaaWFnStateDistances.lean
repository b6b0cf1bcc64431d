/- The walk of the law FnStateDistances: it returns true, and nothing that was there is written. -/
import Derived.Test.YtkfhfggbmmhejaaDrSD
import Derived.Test.YtkfhfggbmmhejaaStL
import Derived.Test.YtkfhfggbmmhejaaLike
namespace Go.Proofs.Ytkfhfggbmmhejaa
open Go.RowKit
set_option linter.unusedVariables false
set_option linter.unusedSimpArgs false

set_option maxHeartbeats 8000000 in
theorem fnStateDistances_walk {w : World} (a0 : Option Addr) (len0 cap0 : Nat) (z0 : List Int) (w0 : IsRow .u8 w a0 len0 cap0 z0) :
    Calls Try.prog 4 #[.slice a0 len0 cap0] w fun e w' => e = .returned (.bool true) ∧ Below w.heap.size w w' := by
  obtain ⟨hl0, hr0⟩ := w0.rd
  have ho0 := w0.bytes
  obtain ⟨cs, hcs⟩ : ∃ cs, cs = z0.take len0 := ⟨_, rfl⟩
  rw [← hcs] at hl0 hr0 ho0
  clear hcs w0
  subst hl0
  have HR := Lib.hid hr0
  have HO8 := Lib.hid ho0
  clear hr0 ho0
  by_cases hbig : 4096 < cs.length
  · have hd : decide ((4096 : Int) < (cs.length : Int)) = true := decide_eq_true (by omega)
    go_enter Try.func4, Try.ntmps4
    go_wp2_with (go_at_call 5; refine (big_any _ cs _ HR.out).mono ?_; rw [hd]; rintro e w' ⟨rfl, rfl⟩)
    go_ret
    exact ⟨rfl, Below.refl _ _⟩
  have hd : decide ((4096 : Int) < (cs.length : Int)) = false := decide_eq_false (by omega)
  have hcl : cs.length ≤ 4096 := by omega
  have HB := Lib.hid (Below.refl w.heap.size w)
  go_enter Try.func4, Try.ntmps4
  go_wp2_with fail
  refine (big_any _ cs _ HR.out).mono ?_
  rw [hd]
  rintro e w' ⟨rfl, rfl⟩
  go_wp2_with fail
  refine (drawStateDistance_any _ cs _ (HR.out.below HB.out) hcl HO8.out).mono ?_
  rintro e w1x ⟨t, m, r, s, u, t2, m2, r2, s2, u2, rfl, hb1⟩
  replace HB := Lib.hid (bthen HB.out hb1)
  clear hb1
  obtain ⟨X, hX⟩ : ∃ X, X = distB t m r s u t2 m2 r2 s2 u2 := ⟨_, rfl⟩
  have HX := Lib.hid hX
  clear hX
  obtain ⟨Y, hY⟩ : ∃ Y, Y = timeB t m r s u t2 m2 r2 s2 u2 := ⟨_, rfl⟩
  have HY := Lib.hid hY
  clear hY
  have hzG := HB.out.size
  have HG := Lib.hid (CellN.new5 w1x t m r s u 25)
  replace HB := Lib.hid (HB.out.alloc HB.out.size (.cells #[.int .i64 t, .int .i64 m, .int .i64 r, .int .i64 s, .int .i64 u] 25))
  obtain ⟨W, hW⟩ : ∃ W, W = w1x.alloc (.cells #[.int .i64 t, .int .i64 m, .int .i64 r, .int .i64 s, .int .i64 u] 25) := ⟨_, rfl⟩
  obtain ⟨G, hG⟩ : ∃ G, G = w1x.heap.size := ⟨_, rfl⟩
  have hsW : W.heap.size = G + 1 := by rw [hW, hG]; simp
  rw [← hG] at HG hzG
  rw [← hW] at HB HG 
  have hzF := HB.out.size
  have HF := Lib.hid (CellN.new5 W t2 m2 r2 s2 u2 25)
  replace HG := Lib.hid (HG.out.alloc (.cells #[.int .i64 t2, .int .i64 m2, .int .i64 r2, .int .i64 s2, .int .i64 u2] 25))
  replace HB := Lib.hid (HB.out.alloc HB.out.size (.cells #[.int .i64 t2, .int .i64 m2, .int .i64 r2, .int .i64 s2, .int .i64 u2] 25))
  obtain ⟨V, hV⟩ : ∃ V, V = W.alloc (.cells #[.int .i64 t2, .int .i64 m2, .int .i64 r2, .int .i64 s2, .int .i64 u2] 25) := ⟨_, rfl⟩
  obtain ⟨F, hF⟩ : ∃ F, F = W.heap.size := ⟨_, rfl⟩
  have hsV : V.heap.size = F + 1 := by rw [hV, hF]; simp
  rw [← hF] at HF hzF
  rw [← hV] at HB HF HG
  go_wp2_with fail
  rw [← hW, ← hV, ← hG]
  have hFG : F = G + 1 := by rw [hF, hsW]
  subst hFG
  clear hV hF hW hG
  refine (stateDistance_any t m r s u t2 m2 r2 s2 u2 _).mono ?_
  rw [← HX.out]
  rintro e w2x ⟨rfl, hb2⟩
  replace HG := Lib.hid (HG.out.next hb2)
  replace HF := Lib.hid (HF.out.next hb2)
  replace HB := Lib.hid (bthen HB.out hb2)
  clear hb2
  obtain ⟨⟨a0G, a1G, a2G, a3G, a4G⟩, ⟨g0G, g1G, g2G, g3G, g4G⟩⟩ := HG.out.five
  obtain ⟨⟨a0F, a1F, a2F, a3F, a4F⟩, ⟨g0F, g1F, g2F, g3F, g4F⟩⟩ := HF.out.five
  go_wp2_with fail
  clear a0G a1G a2G a3G a4G g0G g1G g2G g3G g4G
  clear a0F a1F a2F a3F a4F g0F g1F g2F g3F g4F
  refine (sStateDistance_any t m r s u t2 m2 r2 s2 u2 _).mono ?_
  rw [← HX.out]
  rintro e w3x ⟨rfl, hb3⟩
  replace HG := Lib.hid (HG.out.next hb3)
  replace HF := Lib.hid (HF.out.next hb3)
  replace HB := Lib.hid (bthen HB.out hb3)
  clear hb3
  obtain ⟨⟨a0G, a1G, a2G, a3G, a4G⟩, ⟨g0G, g1G, g2G, g3G, g4G⟩⟩ := HG.out.five
  obtain ⟨⟨a0F, a1F, a2F, a3F, a4F⟩, ⟨g0F, g1F, g2F, g3F, g4F⟩⟩ := HF.out.five
  go_wp2_with fail
  clear a0G a1G a2G a3G a4G g0G g1G g2G g3G g4G
  clear a0F a1F a2F a3F a4F g0F g1F g2F g3F g4F
  refine (timeBetween_any t m r s u t2 m2 r2 s2 u2 _).mono ?_
  rw [← HY.out]
  rintro e w4x ⟨rfl, hb4⟩
  replace HG := Lib.hid (HG.out.next hb4)
  replace HF := Lib.hid (HF.out.next hb4)
  replace HB := Lib.hid (bthen HB.out hb4)
  clear hb4
  obtain ⟨⟨a0G, a1G, a2G, a3G, a4G⟩, ⟨g0G, g1G, g2G, g3G, g4G⟩⟩ := HG.out.five
  obtain ⟨⟨a0F, a1F, a2F, a3F, a4F⟩, ⟨g0F, g1F, g2F, g3F, g4F⟩⟩ := HF.out.five
  go_wp2_with fail
  clear a0G a1G a2G a3G a4G g0G g1G g2G g3G g4G
  clear a0F a1F a2F a3F a4F g0F g1F g2F g3F g4F
  refine (sTimeBetween_any t m r s u t2 m2 r2 s2 u2 _).mono ?_
  rw [← HY.out]
  rintro e w5x ⟨rfl, hb5⟩
  replace HG := Lib.hid (HG.out.next hb5)
  replace HF := Lib.hid (HF.out.next hb5)
  replace HB := Lib.hid (bthen HB.out hb5)
  clear hb5
  have hb1 : (X.1 != X.1) = false := by simp
  have hb2 : (X.2 != X.2) = false := by simp
  have hb3 : (Y.1 != Y.1) = false := by simp
  have hb4 : (Y.2 != Y.2) = false := by simp
  by_cases hok : X.2 = 0
  rotate_left
  · have hne : (X.2 != 0) = true := by simpa using hok
    clear hok
    obtain ⟨⟨a0G, a1G, a2G, a3G, a4G⟩, ⟨g0G, g1G, g2G, g3G, g4G⟩⟩ := HG.out.five
    obtain ⟨⟨a0F, a1F, a2F, a3F, a4F⟩, ⟨g0F, g1F, g2F, g3F, g4F⟩⟩ := HF.out.five
    go_wp2_with fail
    clear a0G a1G a2G a3G a4G g0G g1G g2G g3G g4G
    clear a0F a1F a2F a3F a4F g0F g1F g2F g3F g4F
    go_ret
    exact ⟨rfl, HB.out⟩
  obtain ⟨d, x, y, q1, q2, q3, q4, q5, q6, q7, q8⟩ := dist_law (HX.out ▸ hok)
  have hXe : X = (d, 0) := by rw [HX.out, q1]
  have hYe : Y = (x, 0) := by rw [HY.out, q3]
  subst hXe hYe
  have HQ2 := Lib.hid q2
  have HQ4 := Lib.hid q4
  have HQ5 := Lib.hid q5
  have HQ6 := Lib.hid q6
  clear hok q1 q2 q3 q4 q5 q6 HX HY hb1 hb2 hb3 hb4
  have hb1 : (d != d) = false := by simp
  have hb3 : (x != x) = false := by simp
  obtain ⟨⟨a0G, a1G, a2G, a3G, a4G⟩, ⟨g0G, g1G, g2G, g3G, g4G⟩⟩ := HG.out.five
  obtain ⟨⟨a0F, a1F, a2F, a3F, a4F⟩, ⟨g0F, g1F, g2F, g3F, g4F⟩⟩ := HF.out.five
  go_wp2_with fail
  clear a0G a1G a2G a3G a4G g0G g1G g2G g3G g4G
  clear a0F a1F a2F a3F a4F g0F g1F g2F g3F g4F
  refine (stateDistance_any t2 m2 r2 s2 u2 t m r s u _).mono ?_
  rw [HQ2.out]
  rintro e w6x ⟨rfl, hb6⟩
  replace HG := Lib.hid (HG.out.next hb6)
  replace HF := Lib.hid (HF.out.next hb6)
  replace HB := Lib.hid (bthen HB.out hb6)
  clear hb6
  obtain ⟨⟨a0G, a1G, a2G, a3G, a4G⟩, ⟨g0G, g1G, g2G, g3G, g4G⟩⟩ := HG.out.five
  obtain ⟨⟨a0F, a1F, a2F, a3F, a4F⟩, ⟨g0F, g1F, g2F, g3F, g4F⟩⟩ := HF.out.five
  go_wp2_with fail
  clear a0G a1G a2G a3G a4G g0G g1G g2G g3G g4G
  clear a0F a1F a2F a3F a4F g0F g1F g2F g3F g4F
  refine (timeBetween_any t2 m2 r2 s2 u2 t m r s u _).mono ?_
  rw [HQ4.out]
  rintro e w7x ⟨rfl, hb7⟩
  replace HG := Lib.hid (HG.out.next hb7)
  replace HF := Lib.hid (HF.out.next hb7)
  replace HB := Lib.hid (bthen HB.out hb7)
  clear hb7
  have hdd : (d == d) = true := by simp
  obtain ⟨⟨a0G, a1G, a2G, a3G, a4G⟩, ⟨g0G, g1G, g2G, g3G, g4G⟩⟩ := HG.out.five
  obtain ⟨⟨a0F, a1F, a2F, a3F, a4F⟩, ⟨g0F, g1F, g2F, g3F, g4F⟩⟩ := HF.out.five
  have hyy : (-x == -x) = true := by simp
  have hng : IntKind.i64.wrap (-x) = -x := IntWalk.i64_in _ (by omega)
  have hxx : (x == x) = true := by simp
  have h5 := HQ5.out
  have h6 := HQ6.out
  clear HQ2 HQ4 HQ5 HQ6
  by_cases hd0 : d = 0
  rotate_left
  · have hdb : (d == 0) = false := by simpa using hd0
    have hn5 : ¬ (t = t2 ∧ m = m2 ∧ r = r2 ∧ s = s2 ∧ u = u2) := fun h => hd0 (h5.2 h)
    clear h5 hd0
    rcases h6 with ⟨rfl, rfl⟩ | rfl
    · go_wp2_with fail
      all_goals
        go_ret
        exact ⟨rfl, HB.out⟩
    · by_cases hx : x = -32768
      · subst hx
        go_wp2_with fail
        all_goals
          go_ret
          exact ⟨rfl, HB.out⟩
      · have hx32 : (x == -32768) = false := by simpa using hx
        clear hx
        go_wp2_with fail
        all_goals
          go_ret
          exact ⟨rfl, HB.out⟩
  obtain ⟨rfl, rfl, rfl, rfl, rfl⟩ := h5.1 hd0
  subst hd0
  clear h5
  rcases h6 with ⟨rfl, rfl⟩ | rfl
  · go_wp2_with fail
    go_ret
    exact ⟨rfl, HB.out⟩
  · by_cases hx : x = -32768
    · subst hx
      go_wp2_with fail
      go_ret
      exact ⟨rfl, HB.out⟩
    · have hx32 : (x == -32768) = false := by simpa using hx
      clear hx
      go_wp2_with fail
      go_ret
      exact ⟨rfl, HB.out⟩
end Go.Proofs.Ytkfhfggbmmhejaa