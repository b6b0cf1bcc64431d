/- The walk of the law FnStates: it returns true, and nothing that was there is written. -/
import Derived.Test.YtkhmnkpdlodepaaDoorDrTo
import Derived.Test.YtkhmnkpdlodepaaDoorStSL
import Derived.Test.YtkhmnkpdlodepaaDoorLike
namespace Go.Proofs.YtkhmnkpdlodepaaDoor
open Go.RowKit
set_option linter.unusedVariables false
set_option linter.unusedSimpArgs false

theorem Rd.alloc {k : IntKind} {w : World} {v : Value} {xs : List Int} (h : Rd k w v xs) (o : Obj) : Rd k (w.alloc o) v xs := h.below ((Below.refl w.heap.size w).alloc (Nat.le_refl _) o)
theorem toList_empty (T : ByteArray) (b : Bool) (h : (T.toList != (⟨#[]⟩ : ByteArray).toList) = !b) : T.toList.isEmpty = b := by
  have e : (⟨#[]⟩ : ByteArray).toList = [] := by rw [ByteArray.toList_eq]
  rw [e] at h
  cases hl : T.toList with
  | nil => rw [hl] at h; cases b with
    | true => rfl
    | false => simp at h
  | cons x l => rw [hl] at h; cases b with
    | true => simp at h
    | false => rfl

set_option maxRecDepth 100000 in
set_option maxHeartbeats 16000000 in
theorem fnStates_walk {w : World} (hw : RdP w) (a0 : Option Addr) (len0 cap0 : Nat) (z0 : List Int) (w0 : IsRow .u8 w a0 len0 cap0 z0) :
    Calls Tryd.prog 4 #[.slice a0 len0 cap0] w fun e w' => e = .returned (.bool true) ∧ Below w.heap.size w w' := by
  obtain ⟨hl0, hr0⟩ := w0.rd
  have ho0 := w0.bytes
  obtain ⟨cs, hcs⟩ : ∃ cs, cs = z0.take len0 := ⟨_, rfl⟩
  rw [← hcs] at hl0 hr0 ho0
  clear hcs w0
  subst hl0
  have HR := Lib.hid hr0
  have HO8 := Lib.hid ho0
  clear hr0 ho0
  by_cases hbig : 4096 < cs.length
  · have hd : decide ((4096 : Int) < (cs.length : Int)) = true := decide_eq_true (by omega)
    go_enter Tryd.func4, Tryd.ntmps4
    go_wp2_with (go_at_call 9; refine (big_any _ cs _ HR.out).mono ?_; rw [hd]; rintro e w' ⟨rfl, rfl⟩)
    go_ret
    exact ⟨rfl, Below.refl _ _⟩
  have hd : decide ((4096 : Int) < (cs.length : Int)) = false := decide_eq_false (by omega)
  have hcl : cs.length ≤ 4096 := by omega
  have HB := Lib.hid (Below.refl w.heap.size w)
  have HRP := Lib.hid hw
  clear hw
  go_enter Tryd.func4, Tryd.ntmps4
  go_wp2_with fail
  refine (big_any _ cs _ HR.out).mono ?_
  rw [hd]
  rintro e w' ⟨rfl, rfl⟩
  go_wp2_with fail
  refine (drawStateToBits_any _ cs _ (HR.out.below HB.out) hcl HO8.out).mono ?_
  rintro e w1x ⟨t, m, r, s, u, rfl, hb1⟩
  replace HB := Lib.hid (bthen HB.out hb1)
  clear hb1
  obtain ⟨X, hX⟩ : ∃ X, X = stToBits t m r s u := ⟨_, rfl⟩
  have HX := Lib.hid hX
  obtain ⟨T, hT⟩ : ∃ T, T = stT t m r s u := ⟨_, rfl⟩
  have HT := Lib.hid hT
  have hTs : T.size ≤ 1048576 := by have := stT_size t m r s u; rw [hT]; omega
  obtain ⟨q, hq⟩ : ∃ q, q = stB t m r s u := ⟨_, rfl⟩
  have HQ := Lib.hid hq
  clear hX hT hq
  have hzG := HB.out.size
  have HG := Lib.hid (CellN.new5 w1x t m r s u 23)
  replace HB := Lib.hid (HB.out.alloc HB.out.size (.cells #[.int .i64 t, .int .i64 m, .int .i64 r, .int .i64 s, .int .i64 u] 23))
  obtain ⟨W, hW⟩ : ∃ W, W = w1x.alloc (.cells #[.int .i64 t, .int .i64 m, .int .i64 r, .int .i64 s, .int .i64 u] 23) := ⟨_, rfl⟩
  obtain ⟨G, hG⟩ : ∃ G, G = w1x.heap.size := ⟨_, rfl⟩
  have hsW : W.heap.size = G + 1 := by rw [hW, hG]; simp
  rw [← hG] at HG hzG
  rw [← hW] at HB HG 
  go_wp2_with fail
  rw [← hW, ← hG]
  clear hW hG
  refine (stateToBits_any t m r s u _).mono ?_
  rw [← HX.out]
  rintro e w2x ⟨va, rfl, hO2, hb2⟩
  have HOas := Lib.hid (hO2.mono HB.out.size)
  clear hO2
  replace HG := Lib.hid (HG.out.next hb2)
  replace HB := Lib.hid (bthen HB.out hb2)
  clear hb2
  obtain ⟨⟨a0G, a1G, a2G, a3G, a4G⟩, ⟨g0G, g1G, g2G, g3G, g4G⟩⟩ := HG.out.five
  go_wp2_with fail
  clear a0G a1G a2G a3G a4G g0G g1G g2G g3G g4G
  refine (sStateToBits_any t m r s u _).mono ?_
  rw [← HX.out]
  rintro e w3x ⟨vb, rfl, hO3, hb3⟩
  have HObs := Lib.hid (hO3.mono HB.out.size)
  clear hO3
  replace HG := Lib.hid (HG.out.next hb3)
  replace HOas := Lib.hid (HOas.out.below hb3)
  replace HB := Lib.hid (bthen HB.out hb3)
  clear hb3
  obtain ⟨⟨a0G, a1G, a2G, a3G, a4G⟩, ⟨g0G, g1G, g2G, g3G, g4G⟩⟩ := HG.out.five
  go_wp2_with fail
  clear a0G a1G a2G a3G a4G g0G g1G g2G g3G g4G
  refine (drawStateFromBits_any _ cs _ (HR.out.below HB.out) hcl HO8.out).mono ?_
  rintro e w4x ⟨vl, xs, rfl, hRl, hb4⟩
  replace HG := Lib.hid (HG.out.next hb4)
  replace HOas := Lib.hid (HOas.out.below hb4)
  replace HObs := Lib.hid (HObs.out.below hb4)
  replace HB := Lib.hid (bthen HB.out hb4)
  clear hb4
  have HRl := Lib.hid hRl
  clear hRl
  obtain ⟨⟨⟨p0, p1, p2, p3, p4⟩, c⟩, hF⟩ : ∃ F, F = stFromB xs := ⟨_, rfl⟩
  have HF := Lib.hid hF
  clear hF
  obtain ⟨⟨a0G, a1G, a2G, a3G, a4G⟩, ⟨g0G, g1G, g2G, g3G, g4G⟩⟩ := HG.out.five
  go_wp2_with fail
  clear a0G a1G a2G a3G a4G g0G g1G g2G g3G g4G
  have h1 := stateFromBits_any vl xs w4x HRl.out
  rw [← HF.out] at h1
  simp only [St.val] at h1
  refine h1.mono ?_
  clear h1
  rintro e w5x ⟨rfl, hb5⟩
  replace HG := Lib.hid (HG.out.next hb5)
  replace HOas := Lib.hid (HOas.out.below hb5)
  replace HObs := Lib.hid (HObs.out.below hb5)
  replace HRl := Lib.hid (HRl.out.below hb5)
  replace HB := Lib.hid (bthen HB.out hb5)
  clear hb5
  obtain ⟨⟨a0G, a1G, a2G, a3G, a4G⟩, ⟨g0G, g1G, g2G, g3G, g4G⟩⟩ := HG.out.five
  have ka0G := keepA a0G
  have ka1G := keepA a1G
  have ka2G := keepA a2G
  have ka3G := keepA a3G
  have ka4G := keepA a4G
  have hzH := HB.out.size
  have HH := Lib.hid (CellN.new5 w5x p0 p1 p2 p3 p4 23)
  replace HOas := Lib.hid (HOas.out.alloc (.cells #[.int .i64 p0, .int .i64 p1, .int .i64 p2, .int .i64 p3, .int .i64 p4] 23))
  replace HObs := Lib.hid (HObs.out.alloc (.cells #[.int .i64 p0, .int .i64 p1, .int .i64 p2, .int .i64 p3, .int .i64 p4] 23))
  replace HRl := Lib.hid (HRl.out.alloc (.cells #[.int .i64 p0, .int .i64 p1, .int .i64 p2, .int .i64 p3, .int .i64 p4] 23))
  replace HG := Lib.hid (HG.out.alloc (.cells #[.int .i64 p0, .int .i64 p1, .int .i64 p2, .int .i64 p3, .int .i64 p4] 23))
  replace HB := Lib.hid (HB.out.alloc HB.out.size (.cells #[.int .i64 p0, .int .i64 p1, .int .i64 p2, .int .i64 p3, .int .i64 p4] 23))
  obtain ⟨W5, hW5⟩ : ∃ W5, W5 = w5x.alloc (.cells #[.int .i64 p0, .int .i64 p1, .int .i64 p2, .int .i64 p3, .int .i64 p4] 23) := ⟨_, rfl⟩
  obtain ⟨H, hH⟩ : ∃ H, H = w5x.heap.size := ⟨_, rfl⟩
  have hsW5 : W5.heap.size = H + 1 := by rw [hW5, hH]; simp
  rw [← hH] at HH hzH
  rw [← hW5] at HB HH HOas HObs HRl HG
  go_wp2_with fail
  clear ka0G ka1G ka2G ka3G ka4G
  clear a0G a1G a2G a3G a4G g0G g1G g2G g3G g4G
  rw [← hW5, ← hH]
  clear hW5 hH
  have h1 := sStateFromBits_any vl xs W5 HRl.out
  rw [← HF.out] at h1
  simp only [St.val] at h1
  refine h1.mono ?_
  clear h1
  rintro e w6x ⟨rfl, hb6⟩
  replace HG := Lib.hid (HG.out.next hb6)
  replace HH := Lib.hid (HH.out.next hb6)
  replace HOas := Lib.hid (HOas.out.below hb6)
  replace HObs := Lib.hid (HObs.out.below hb6)
  replace HRl := Lib.hid (HRl.out.below hb6)
  replace HB := Lib.hid (bthen HB.out hb6)
  clear hb6
  obtain ⟨⟨a0G, a1G, a2G, a3G, a4G⟩, ⟨g0G, g1G, g2G, g3G, g4G⟩⟩ := HG.out.five
  obtain ⟨⟨a0H, a1H, a2H, a3H, a4H⟩, ⟨g0H, g1H, g2H, g3H, g4H⟩⟩ := HH.out.five
  have ka0G := keepA a0G
  have ka1G := keepA a1G
  have ka2G := keepA a2G
  have ka3G := keepA a3G
  have ka4G := keepA a4G
  have ka0H := keepA a0H
  have ka1H := keepA a1H
  have ka2H := keepA a2H
  have ka3H := keepA a3H
  have ka4H := keepA a4H
  have hzJ := HB.out.size
  have HJ := Lib.hid (CellN.new5 w6x p0 p1 p2 p3 p4 23)
  replace HOas := Lib.hid (HOas.out.alloc (.cells #[.int .i64 p0, .int .i64 p1, .int .i64 p2, .int .i64 p3, .int .i64 p4] 23))
  replace HObs := Lib.hid (HObs.out.alloc (.cells #[.int .i64 p0, .int .i64 p1, .int .i64 p2, .int .i64 p3, .int .i64 p4] 23))
  replace HRl := Lib.hid (HRl.out.alloc (.cells #[.int .i64 p0, .int .i64 p1, .int .i64 p2, .int .i64 p3, .int .i64 p4] 23))
  replace HG := Lib.hid (HG.out.alloc (.cells #[.int .i64 p0, .int .i64 p1, .int .i64 p2, .int .i64 p3, .int .i64 p4] 23))
  replace HH := Lib.hid (HH.out.alloc (.cells #[.int .i64 p0, .int .i64 p1, .int .i64 p2, .int .i64 p3, .int .i64 p4] 23))
  replace HB := Lib.hid (HB.out.alloc HB.out.size (.cells #[.int .i64 p0, .int .i64 p1, .int .i64 p2, .int .i64 p3, .int .i64 p4] 23))
  obtain ⟨W6, hW6⟩ : ∃ W6, W6 = w6x.alloc (.cells #[.int .i64 p0, .int .i64 p1, .int .i64 p2, .int .i64 p3, .int .i64 p4] 23) := ⟨_, rfl⟩
  obtain ⟨J, hJ⟩ : ∃ J, J = w6x.heap.size := ⟨_, rfl⟩
  have hsW6 : W6.heap.size = J + 1 := by rw [hW6, hJ]; simp
  rw [← hJ] at HJ hzJ
  rw [← hW6] at HB HJ HOas HObs HRl HG HH
  go_wp2_with fail
  clear ka0G ka1G ka2G ka3G ka4G
  clear ka0H ka1H ka2H ka3H ka4H
  clear a0G a1G a2G a3G a4G g0G g1G g2G g3G g4G
  clear a0H a1H a2H a3H a4H g0H g1H g2H g3H g4H
  rw [← hW6, ← hJ]
  clear hW6 hJ
  refine (stateText_any t m r s u _ (HRP.out.below HB.out).1).mono ?_
  rw [← HT.out]
  rintro e w7x ⟨rfl, hb7⟩
  replace HG := Lib.hid (HG.out.next hb7)
  replace HH := Lib.hid (HH.out.next hb7)
  replace HJ := Lib.hid (HJ.out.next hb7)
  replace HOas := Lib.hid (HOas.out.below hb7)
  replace HObs := Lib.hid (HObs.out.below hb7)
  replace HRl := Lib.hid (HRl.out.below hb7)
  replace HB := Lib.hid (bthen HB.out hb7)
  clear hb7
  obtain ⟨⟨⟨y0, y1, y2, y3, y4⟩, ok⟩, hY⟩ : ∃ Y, Y = rdSt T := ⟨_, rfl⟩
  have HYY := Lib.hid hY
  clear hY
  obtain ⟨⟨a0G, a1G, a2G, a3G, a4G⟩, ⟨g0G, g1G, g2G, g3G, g4G⟩⟩ := HG.out.five
  obtain ⟨⟨a0H, a1H, a2H, a3H, a4H⟩, ⟨g0H, g1H, g2H, g3H, g4H⟩⟩ := HH.out.five
  obtain ⟨⟨a0J, a1J, a2J, a3J, a4J⟩, ⟨g0J, g1J, g2J, g3J, g4J⟩⟩ := HJ.out.five
  go_wp2_with fail
  clear a0G a1G a2G a3G a4G g0G g1G g2G g3G g4G
  clear a0H a1H a2H a3H a4H g0H g1H g2H g3H g4H
  clear a0J a1J a2J a3J a4J g0J g1J g2J g3J g4J
  have h1 := readState_any T w7x hTs (HRP.out.below HB.out)
  rw [← HYY.out] at h1
  simp only [St.val] at h1
  refine h1.mono ?_
  clear h1
  rintro e w8x ⟨rfl, hb8⟩
  replace HG := Lib.hid (HG.out.next hb8)
  replace HH := Lib.hid (HH.out.next hb8)
  replace HJ := Lib.hid (HJ.out.next hb8)
  replace HOas := Lib.hid (HOas.out.below hb8)
  replace HObs := Lib.hid (HObs.out.below hb8)
  replace HRl := Lib.hid (HRl.out.below hb8)
  replace HB := Lib.hid (bthen HB.out hb8)
  clear hb8
  obtain ⟨⟨a0G, a1G, a2G, a3G, a4G⟩, ⟨g0G, g1G, g2G, g3G, g4G⟩⟩ := HG.out.five
  obtain ⟨⟨a0H, a1H, a2H, a3H, a4H⟩, ⟨g0H, g1H, g2H, g3H, g4H⟩⟩ := HH.out.five
  obtain ⟨⟨a0J, a1J, a2J, a3J, a4J⟩, ⟨g0J, g1J, g2J, g3J, g4J⟩⟩ := HJ.out.five
  have ka0G := keepA a0G
  have ka1G := keepA a1G
  have ka2G := keepA a2G
  have ka3G := keepA a3G
  have ka4G := keepA a4G
  have ka0H := keepA a0H
  have ka1H := keepA a1H
  have ka2H := keepA a2H
  have ka3H := keepA a3H
  have ka4H := keepA a4H
  have ka0J := keepA a0J
  have ka1J := keepA a1J
  have ka2J := keepA a2J
  have ka3J := keepA a3J
  have ka4J := keepA a4J
  have hzY := HB.out.size
  have HY := Lib.hid (CellN.new5 w8x y0 y1 y2 y3 y4 23)
  replace HOas := Lib.hid (HOas.out.alloc (.cells #[.int .i64 y0, .int .i64 y1, .int .i64 y2, .int .i64 y3, .int .i64 y4] 23))
  replace HObs := Lib.hid (HObs.out.alloc (.cells #[.int .i64 y0, .int .i64 y1, .int .i64 y2, .int .i64 y3, .int .i64 y4] 23))
  replace HRl := Lib.hid (HRl.out.alloc (.cells #[.int .i64 y0, .int .i64 y1, .int .i64 y2, .int .i64 y3, .int .i64 y4] 23))
  replace HG := Lib.hid (HG.out.alloc (.cells #[.int .i64 y0, .int .i64 y1, .int .i64 y2, .int .i64 y3, .int .i64 y4] 23))
  replace HH := Lib.hid (HH.out.alloc (.cells #[.int .i64 y0, .int .i64 y1, .int .i64 y2, .int .i64 y3, .int .i64 y4] 23))
  replace HJ := Lib.hid (HJ.out.alloc (.cells #[.int .i64 y0, .int .i64 y1, .int .i64 y2, .int .i64 y3, .int .i64 y4] 23))
  replace HB := Lib.hid (HB.out.alloc HB.out.size (.cells #[.int .i64 y0, .int .i64 y1, .int .i64 y2, .int .i64 y3, .int .i64 y4] 23))
  obtain ⟨W8, hW8⟩ : ∃ W8, W8 = w8x.alloc (.cells #[.int .i64 y0, .int .i64 y1, .int .i64 y2, .int .i64 y3, .int .i64 y4] 23) := ⟨_, rfl⟩
  obtain ⟨Y, hY⟩ : ∃ Y, Y = w8x.heap.size := ⟨_, rfl⟩
  have hsW8 : W8.heap.size = Y + 1 := by rw [hW8, hY]; simp
  rw [← hY] at HY hzY
  rw [← hW8] at HB HY HOas HObs HRl HG HH HJ
  go_wp2_with fail
  clear ka0G ka1G ka2G ka3G ka4G
  clear ka0H ka1H ka2H ka3H ka4H
  clear ka0J ka1J ka2J ka3J ka4J
  clear a0G a1G a2G a3G a4G g0G g1G g2G g3G g4G
  clear a0H a1H a2H a3H a4H g0H g1H g2H g3H g4H
  clear a0J a1J a2J a3J a4J g0J g1J g2J g3J g4J
  rw [← hW8, ← hY]
  clear hW8 hY
  refine (drawReadState_any _ cs _ (HR.out.below HB.out) hcl HO8.out).mono ?_
  rintro e w9x ⟨U, rfl, hU, hb9⟩
  replace HG := Lib.hid (HG.out.next hb9)
  replace HH := Lib.hid (HH.out.next hb9)
  replace HJ := Lib.hid (HJ.out.next hb9)
  replace HY := Lib.hid (HY.out.next hb9)
  replace HOas := Lib.hid (HOas.out.below hb9)
  replace HObs := Lib.hid (HObs.out.below hb9)
  replace HRl := Lib.hid (HRl.out.below hb9)
  replace HB := Lib.hid (bthen HB.out hb9)
  clear hb9
  obtain ⟨⟨⟨z0, z1, z2, z3, z4⟩, zk⟩, hZ⟩ : ∃ Z, Z = rdSt U := ⟨_, rfl⟩
  have HZZ := Lib.hid hZ
  clear hZ
  have hUs : U.size ≤ 1048576 := by omega
  clear hU
  obtain ⟨⟨a0G, a1G, a2G, a3G, a4G⟩, ⟨g0G, g1G, g2G, g3G, g4G⟩⟩ := HG.out.five
  obtain ⟨⟨a0H, a1H, a2H, a3H, a4H⟩, ⟨g0H, g1H, g2H, g3H, g4H⟩⟩ := HH.out.five
  obtain ⟨⟨a0J, a1J, a2J, a3J, a4J⟩, ⟨g0J, g1J, g2J, g3J, g4J⟩⟩ := HJ.out.five
  obtain ⟨⟨a0Y, a1Y, a2Y, a3Y, a4Y⟩, ⟨g0Y, g1Y, g2Y, g3Y, g4Y⟩⟩ := HY.out.five
  go_wp2_with fail
  clear a0G a1G a2G a3G a4G g0G g1G g2G g3G g4G
  clear a0H a1H a2H a3H a4H g0H g1H g2H g3H g4H
  clear a0J a1J a2J a3J a4J g0J g1J g2J g3J g4J
  clear a0Y a1Y a2Y a3Y a4Y g0Y g1Y g2Y g3Y g4Y
  have h1 := readState_any U w9x hUs (HRP.out.below HB.out)
  rw [← HZZ.out] at h1
  simp only [St.val] at h1
  refine h1.mono ?_
  clear h1
  rintro e w10x ⟨rfl, hb10⟩
  replace HG := Lib.hid (HG.out.next hb10)
  replace HH := Lib.hid (HH.out.next hb10)
  replace HJ := Lib.hid (HJ.out.next hb10)
  replace HY := Lib.hid (HY.out.next hb10)
  replace HOas := Lib.hid (HOas.out.below hb10)
  replace HObs := Lib.hid (HObs.out.below hb10)
  replace HRl := Lib.hid (HRl.out.below hb10)
  replace HB := Lib.hid (bthen HB.out hb10)
  clear hb10
  obtain ⟨⟨a0G, a1G, a2G, a3G, a4G⟩, ⟨g0G, g1G, g2G, g3G, g4G⟩⟩ := HG.out.five
  obtain ⟨⟨a0H, a1H, a2H, a3H, a4H⟩, ⟨g0H, g1H, g2H, g3H, g4H⟩⟩ := HH.out.five
  obtain ⟨⟨a0J, a1J, a2J, a3J, a4J⟩, ⟨g0J, g1J, g2J, g3J, g4J⟩⟩ := HJ.out.five
  obtain ⟨⟨a0Y, a1Y, a2Y, a3Y, a4Y⟩, ⟨g0Y, g1Y, g2Y, g3Y, g4Y⟩⟩ := HY.out.five
  have ka0G := keepA a0G
  have ka1G := keepA a1G
  have ka2G := keepA a2G
  have ka3G := keepA a3G
  have ka4G := keepA a4G
  have ka0H := keepA a0H
  have ka1H := keepA a1H
  have ka2H := keepA a2H
  have ka3H := keepA a3H
  have ka4H := keepA a4H
  have ka0J := keepA a0J
  have ka1J := keepA a1J
  have ka2J := keepA a2J
  have ka3J := keepA a3J
  have ka4J := keepA a4J
  have ka0Y := keepA a0Y
  have ka1Y := keepA a1Y
  have ka2Y := keepA a2Y
  have ka3Y := keepA a3Y
  have ka4Y := keepA a4Y
  have hzZ := HB.out.size
  have HZ := Lib.hid (CellN.new5 w10x z0 z1 z2 z3 z4 23)
  replace HOas := Lib.hid (HOas.out.alloc (.cells #[.int .i64 z0, .int .i64 z1, .int .i64 z2, .int .i64 z3, .int .i64 z4] 23))
  replace HObs := Lib.hid (HObs.out.alloc (.cells #[.int .i64 z0, .int .i64 z1, .int .i64 z2, .int .i64 z3, .int .i64 z4] 23))
  replace HRl := Lib.hid (HRl.out.alloc (.cells #[.int .i64 z0, .int .i64 z1, .int .i64 z2, .int .i64 z3, .int .i64 z4] 23))
  replace HG := Lib.hid (HG.out.alloc (.cells #[.int .i64 z0, .int .i64 z1, .int .i64 z2, .int .i64 z3, .int .i64 z4] 23))
  replace HH := Lib.hid (HH.out.alloc (.cells #[.int .i64 z0, .int .i64 z1, .int .i64 z2, .int .i64 z3, .int .i64 z4] 23))
  replace HJ := Lib.hid (HJ.out.alloc (.cells #[.int .i64 z0, .int .i64 z1, .int .i64 z2, .int .i64 z3, .int .i64 z4] 23))
  replace HY := Lib.hid (HY.out.alloc (.cells #[.int .i64 z0, .int .i64 z1, .int .i64 z2, .int .i64 z3, .int .i64 z4] 23))
  replace HB := Lib.hid (HB.out.alloc HB.out.size (.cells #[.int .i64 z0, .int .i64 z1, .int .i64 z2, .int .i64 z3, .int .i64 z4] 23))
  obtain ⟨W10, hW10⟩ : ∃ W10, W10 = w10x.alloc (.cells #[.int .i64 z0, .int .i64 z1, .int .i64 z2, .int .i64 z3, .int .i64 z4] 23) := ⟨_, rfl⟩
  obtain ⟨Z, hZ⟩ : ∃ Z, Z = w10x.heap.size := ⟨_, rfl⟩
  have hsW10 : W10.heap.size = Z + 1 := by rw [hW10, hZ]; simp
  rw [← hZ] at HZ hzZ
  rw [← hW10] at HB HZ HOas HObs HRl HG HH HJ HY
  go_wp2_with fail
  clear ka0G ka1G ka2G ka3G ka4G
  clear ka0H ka1H ka2H ka3H ka4H
  clear ka0J ka1J ka2J ka3J ka4J
  clear ka0Y ka1Y ka2Y ka3Y ka4Y
  clear a0G a1G a2G a3G a4G g0G g1G g2G g3G g4G
  clear a0H a1H a2H a3H a4H g0H g1H g2H g3H g4H
  clear a0J a1J a2J a3J a4J g0J g1J g2J g3J g4J
  clear a0Y a1Y a2Y a3Y a4Y g0Y g1Y g2Y g3Y g4Y
  rw [← hW10, ← hZ]
  clear hW10 hZ
  have h1 := sReadState_any U W10 hUs
  rw [← HZZ.out] at h1
  simp only [St.val] at h1
  refine h1.mono ?_
  clear h1
  rintro e w11x ⟨rfl, hb11⟩
  replace HG := Lib.hid (HG.out.next hb11)
  replace HH := Lib.hid (HH.out.next hb11)
  replace HJ := Lib.hid (HJ.out.next hb11)
  replace HY := Lib.hid (HY.out.next hb11)
  replace HZ := Lib.hid (HZ.out.next hb11)
  replace HOas := Lib.hid (HOas.out.below hb11)
  replace HObs := Lib.hid (HObs.out.below hb11)
  replace HRl := Lib.hid (HRl.out.below hb11)
  replace HB := Lib.hid (bthen HB.out hb11)
  clear hb11
  obtain ⟨⟨a0G, a1G, a2G, a3G, a4G⟩, ⟨g0G, g1G, g2G, g3G, g4G⟩⟩ := HG.out.five
  obtain ⟨⟨a0H, a1H, a2H, a3H, a4H⟩, ⟨g0H, g1H, g2H, g3H, g4H⟩⟩ := HH.out.five
  obtain ⟨⟨a0J, a1J, a2J, a3J, a4J⟩, ⟨g0J, g1J, g2J, g3J, g4J⟩⟩ := HJ.out.five
  obtain ⟨⟨a0Y, a1Y, a2Y, a3Y, a4Y⟩, ⟨g0Y, g1Y, g2Y, g3Y, g4Y⟩⟩ := HY.out.five
  obtain ⟨⟨a0Z, a1Z, a2Z, a3Z, a4Z⟩, ⟨g0Z, g1Z, g2Z, g3Z, g4Z⟩⟩ := HZ.out.five
  have ka0G := keepA a0G
  have ka1G := keepA a1G
  have ka2G := keepA a2G
  have ka3G := keepA a3G
  have ka4G := keepA a4G
  have ka0H := keepA a0H
  have ka1H := keepA a1H
  have ka2H := keepA a2H
  have ka3H := keepA a3H
  have ka4H := keepA a4H
  have ka0J := keepA a0J
  have ka1J := keepA a1J
  have ka2J := keepA a2J
  have ka3J := keepA a3J
  have ka4J := keepA a4J
  have ka0Y := keepA a0Y
  have ka1Y := keepA a1Y
  have ka2Y := keepA a2Y
  have ka3Y := keepA a3Y
  have ka4Y := keepA a4Y
  have ka0Z := keepA a0Z
  have ka1Z := keepA a1Z
  have ka2Z := keepA a2Z
  have ka3Z := keepA a3Z
  have ka4Z := keepA a4Z
  have hzV := HB.out.size
  have HV := Lib.hid (CellN.new5 w11x z0 z1 z2 z3 z4 23)
  replace HOas := Lib.hid (HOas.out.alloc (.cells #[.int .i64 z0, .int .i64 z1, .int .i64 z2, .int .i64 z3, .int .i64 z4] 23))
  replace HObs := Lib.hid (HObs.out.alloc (.cells #[.int .i64 z0, .int .i64 z1, .int .i64 z2, .int .i64 z3, .int .i64 z4] 23))
  replace HRl := Lib.hid (HRl.out.alloc (.cells #[.int .i64 z0, .int .i64 z1, .int .i64 z2, .int .i64 z3, .int .i64 z4] 23))
  replace HG := Lib.hid (HG.out.alloc (.cells #[.int .i64 z0, .int .i64 z1, .int .i64 z2, .int .i64 z3, .int .i64 z4] 23))
  replace HH := Lib.hid (HH.out.alloc (.cells #[.int .i64 z0, .int .i64 z1, .int .i64 z2, .int .i64 z3, .int .i64 z4] 23))
  replace HJ := Lib.hid (HJ.out.alloc (.cells #[.int .i64 z0, .int .i64 z1, .int .i64 z2, .int .i64 z3, .int .i64 z4] 23))
  replace HY := Lib.hid (HY.out.alloc (.cells #[.int .i64 z0, .int .i64 z1, .int .i64 z2, .int .i64 z3, .int .i64 z4] 23))
  replace HZ := Lib.hid (HZ.out.alloc (.cells #[.int .i64 z0, .int .i64 z1, .int .i64 z2, .int .i64 z3, .int .i64 z4] 23))
  replace HB := Lib.hid (HB.out.alloc HB.out.size (.cells #[.int .i64 z0, .int .i64 z1, .int .i64 z2, .int .i64 z3, .int .i64 z4] 23))
  obtain ⟨W11, hW11⟩ : ∃ W11, W11 = w11x.alloc (.cells #[.int .i64 z0, .int .i64 z1, .int .i64 z2, .int .i64 z3, .int .i64 z4] 23) := ⟨_, rfl⟩
  obtain ⟨V, hV⟩ : ∃ V, V = w11x.heap.size := ⟨_, rfl⟩
  have hsW11 : W11.heap.size = V + 1 := by rw [hW11, hV]; simp
  rw [← hV] at HV hzV
  rw [← hW11] at HB HV HOas HObs HRl HG HH HJ HY HZ
  go_wp2_with fail
  clear ka0G ka1G ka2G ka3G ka4G
  clear ka0H ka1H ka2H ka3H ka4H
  clear ka0J ka1J ka2J ka3J ka4J
  clear ka0Y ka1Y ka2Y ka3Y ka4Y
  clear ka0Z ka1Z ka2Z ka3Z ka4Z
  clear a0G a1G a2G a3G a4G g0G g1G g2G g3G g4G
  clear a0H a1H a2H a3H a4H g0H g1H g2H g3H g4H
  clear a0J a1J a2J a3J a4J g0J g1J g2J g3J g4J
  clear a0Y a1Y a2Y a3Y a4Y g0Y g1Y g2Y g3Y g4Y
  clear a0Z a1Z a2Z a3Z a4Z g0Z g1Z g2Z g3Z g4Z
  rw [← hW11, ← hV]
  clear hW11 hV
  have heq := eqB_self X.1
  have hb1 : (X.2 != X.2) = false := by simp
  have hb2 : (c != c) = false := by simp
  have hb3 : (T.toList != T.toList) = false := by simp
  have hb5 : (zk != zk) = false := by cases zk <;> rfl
  have hb6 : (q != q) = false := by cases q <;> rfl
  have HLK : ∀ x : BW W11.heap.size W11, Hid (Calls Tryd.prog 18 #[va, vb] x.w fun e w' => e = .returned (.bool true) ∧ Below x.w.heap.size x.w w') := fun x => Lib.hid (by have h := likeInts_any va vb X.1 X.1 x.w (HOas.out.rd.bw rfl x) (HObs.out.rd.bw rfl x); rwa [heq] at h)
  have HTX : ∀ x : BW W11.heap.size W11, Hid (Calls Tryd.prog 19 #[.agg #[.int .i64 t, .int .i64 m, .int .i64 r, .int .i64 s, .int .i64 u]] x.w fun e w' => e = .returned (.string T) ∧ Below x.w.heap.size x.w w') := fun x => Lib.hid (by rw [HT.out]; exact sStateText_any t m r s u x.w)
  have HI1 : ∀ x : BW W11.heap.size W11, Hid (Calls Tryd.prog 20 #[.agg #[.int .i64 t, .int .i64 m, .int .i64 r, .int .i64 s, .int .i64 u]] x.w fun e w' => e = .returned (.bool q) ∧ Below x.w.heap.size x.w w') := fun x => Lib.hid (by rw [HQ.out]; exact isState_any t m r s u x.w)
  have HI2 : ∀ x : BW W11.heap.size W11, Hid (Calls Tryd.prog 21 #[.agg #[.int .i64 t, .int .i64 m, .int .i64 r, .int .i64 s, .int .i64 u]] x.w fun e w' => e = .returned (.bool q) ∧ Below x.w.heap.size x.w w') := fun x => Lib.hid (by rw [HQ.out]; exact sIsState_any t m r s u x.w)
  cases hc : q
  · have hst : stB t m r s u = false := by rw [← HQ.out, hc]
    have hy : (⟨0, 0, 0, 0, 0⟩, false) = ((⟨y0, y1, y2, y3, y4⟩ : St), ok) := by rw [HYY.out, HT.out, rdSt_none hst]
    simp only [Prod.mk.injEq, St.mk.injEq] at hy
    obtain ⟨⟨h0, h1, h2, h3, h4⟩, h5⟩ := hy
    subst h0 h1 h2 h3 h4 h5
    have hb4 : T.toList.isEmpty = true := toList_empty T true (by rw [HT.out]; exact stT_none hst)
    have hne : (X.2 != 0) = true := by rw [HX.out]; simp [stToBits, hst]
    subst hc
    clear hst
    have HKG : ∀ x : BW W11.heap.size W11, Hid (CellN x.w G [t, m, r, s, u]) := fun x => Lib.hid (HG.out.next x.h)
    have hk0G : ∀ x : BW W11.heap.size W11, x.w.cell? ⟨G, 0, none⟩ = some (.int .i64 t) := fun x => ((HKG x).out 0 (by simp)).1
    have hk1G : ∀ x : BW W11.heap.size W11, x.w.cell? ⟨G, 1, none⟩ = some (.int .i64 m) := fun x => ((HKG x).out 1 (by simp)).1
    have hk2G : ∀ x : BW W11.heap.size W11, x.w.cell? ⟨G, 2, none⟩ = some (.int .i64 r) := fun x => ((HKG x).out 2 (by simp)).1
    have hk3G : ∀ x : BW W11.heap.size W11, x.w.cell? ⟨G, 3, none⟩ = some (.int .i64 s) := fun x => ((HKG x).out 3 (by simp)).1
    have hk4G : ∀ x : BW W11.heap.size W11, x.w.cell? ⟨G, 4, none⟩ = some (.int .i64 u) := fun x => ((HKG x).out 4 (by simp)).1
    have HKH : ∀ x : BW W11.heap.size W11, Hid (CellN x.w H [p0, p1, p2, p3, p4]) := fun x => Lib.hid (HH.out.next x.h)
    have hk0H : ∀ x : BW W11.heap.size W11, x.w.cell? ⟨H, 0, none⟩ = some (.int .i64 p0) := fun x => ((HKH x).out 0 (by simp)).1
    have hk1H : ∀ x : BW W11.heap.size W11, x.w.cell? ⟨H, 1, none⟩ = some (.int .i64 p1) := fun x => ((HKH x).out 1 (by simp)).1
    have hk2H : ∀ x : BW W11.heap.size W11, x.w.cell? ⟨H, 2, none⟩ = some (.int .i64 p2) := fun x => ((HKH x).out 2 (by simp)).1
    have hk3H : ∀ x : BW W11.heap.size W11, x.w.cell? ⟨H, 3, none⟩ = some (.int .i64 p3) := fun x => ((HKH x).out 3 (by simp)).1
    have hk4H : ∀ x : BW W11.heap.size W11, x.w.cell? ⟨H, 4, none⟩ = some (.int .i64 p4) := fun x => ((HKH x).out 4 (by simp)).1
    have HKJ : ∀ x : BW W11.heap.size W11, Hid (CellN x.w J [p0, p1, p2, p3, p4]) := fun x => Lib.hid (HJ.out.next x.h)
    have hk0J : ∀ x : BW W11.heap.size W11, x.w.cell? ⟨J, 0, none⟩ = some (.int .i64 p0) := fun x => ((HKJ x).out 0 (by simp)).1
    have hk1J : ∀ x : BW W11.heap.size W11, x.w.cell? ⟨J, 1, none⟩ = some (.int .i64 p1) := fun x => ((HKJ x).out 1 (by simp)).1
    have hk2J : ∀ x : BW W11.heap.size W11, x.w.cell? ⟨J, 2, none⟩ = some (.int .i64 p2) := fun x => ((HKJ x).out 2 (by simp)).1
    have hk3J : ∀ x : BW W11.heap.size W11, x.w.cell? ⟨J, 3, none⟩ = some (.int .i64 p3) := fun x => ((HKJ x).out 3 (by simp)).1
    have hk4J : ∀ x : BW W11.heap.size W11, x.w.cell? ⟨J, 4, none⟩ = some (.int .i64 p4) := fun x => ((HKJ x).out 4 (by simp)).1
    have HKY : ∀ x : BW W11.heap.size W11, Hid (CellN x.w Y [0, 0, 0, 0, 0]) := fun x => Lib.hid (HY.out.next x.h)
    have hk0Y : ∀ x : BW W11.heap.size W11, x.w.cell? ⟨Y, 0, none⟩ = some (.int .i64 0) := fun x => ((HKY x).out 0 (by simp)).1
    have hk1Y : ∀ x : BW W11.heap.size W11, x.w.cell? ⟨Y, 1, none⟩ = some (.int .i64 0) := fun x => ((HKY x).out 1 (by simp)).1
    have hk2Y : ∀ x : BW W11.heap.size W11, x.w.cell? ⟨Y, 2, none⟩ = some (.int .i64 0) := fun x => ((HKY x).out 2 (by simp)).1
    have hk3Y : ∀ x : BW W11.heap.size W11, x.w.cell? ⟨Y, 3, none⟩ = some (.int .i64 0) := fun x => ((HKY x).out 3 (by simp)).1
    have hk4Y : ∀ x : BW W11.heap.size W11, x.w.cell? ⟨Y, 4, none⟩ = some (.int .i64 0) := fun x => ((HKY x).out 4 (by simp)).1
    have HKZ : ∀ x : BW W11.heap.size W11, Hid (CellN x.w Z [z0, z1, z2, z3, z4]) := fun x => Lib.hid (HZ.out.next x.h)
    have hk0Z : ∀ x : BW W11.heap.size W11, x.w.cell? ⟨Z, 0, none⟩ = some (.int .i64 z0) := fun x => ((HKZ x).out 0 (by simp)).1
    have hk1Z : ∀ x : BW W11.heap.size W11, x.w.cell? ⟨Z, 1, none⟩ = some (.int .i64 z1) := fun x => ((HKZ x).out 1 (by simp)).1
    have hk2Z : ∀ x : BW W11.heap.size W11, x.w.cell? ⟨Z, 2, none⟩ = some (.int .i64 z2) := fun x => ((HKZ x).out 2 (by simp)).1
    have hk3Z : ∀ x : BW W11.heap.size W11, x.w.cell? ⟨Z, 3, none⟩ = some (.int .i64 z3) := fun x => ((HKZ x).out 3 (by simp)).1
    have hk4Z : ∀ x : BW W11.heap.size W11, x.w.cell? ⟨Z, 4, none⟩ = some (.int .i64 z4) := fun x => ((HKZ x).out 4 (by simp)).1
    have HKV : ∀ x : BW W11.heap.size W11, Hid (CellN x.w V [z0, z1, z2, z3, z4]) := fun x => Lib.hid (HV.out.next x.h)
    have hk0V : ∀ x : BW W11.heap.size W11, x.w.cell? ⟨V, 0, none⟩ = some (.int .i64 z0) := fun x => ((HKV x).out 0 (by simp)).1
    have hk1V : ∀ x : BW W11.heap.size W11, x.w.cell? ⟨V, 1, none⟩ = some (.int .i64 z1) := fun x => ((HKV x).out 1 (by simp)).1
    have hk2V : ∀ x : BW W11.heap.size W11, x.w.cell? ⟨V, 2, none⟩ = some (.int .i64 z2) := fun x => ((HKV x).out 2 (by simp)).1
    have hk3V : ∀ x : BW W11.heap.size W11, x.w.cell? ⟨V, 3, none⟩ = some (.int .i64 z3) := fun x => ((HKV x).out 3 (by simp)).1
    have hk4V : ∀ x : BW W11.heap.size W11, x.w.cell? ⟨V, 4, none⟩ = some (.int .i64 z4) := fun x => ((HKV x).out 4 (by simp)).1
    refine wp_region_bw W11.heap.size W11 (Below.refl _ _) (by kernel_rfl) (by kernel_rfl) ?_
    repeat (first | go_big_quiet_step (first | (go_at_call 18; exact bw_of (Nat.le_refl _) (HLK _).out) | (go_at_call 19; exact bw_of (Nat.le_refl _) (HTX _).out) | (go_at_call 20; exact bw_of (Nat.le_refl _) (HI1 _).out) | (go_at_call 21; exact bw_of (Nat.le_refl _) (HI2 _).out) | fail))
    refine wpQuiet_nil ?_
    rintro _ ⟨xw, rfl⟩
    clear hk0G hk1G hk2G hk3G hk4G hk0H hk1H hk2H hk3H hk4H hk0J hk1J hk2J hk3J hk4J hk0Y hk1Y hk2Y hk3Y hk4Y hk0Z hk1Z hk2Z hk3Z hk4Z hk0V hk1V hk2V hk3V hk4V HKG HKH HKJ HKY HKZ HKV HLK HTX HI1 HI2
    have HBX : Hid (Below w.heap.size w xw.w) := Lib.hid (HB.out.trans (xw.h.mono HB.out.size))
    go_wp2_with fail
    go_ret
    exact ⟨rfl, HBX.out⟩
  · have hst : stB t m r s u = true := by rw [← HQ.out, hc]
    have hy : ((⟨t, m, r, s, u⟩ : St), true) = ((⟨y0, y1, y2, y3, y4⟩ : St), ok) := by rw [HYY.out, HT.out, rdSt_text hst]
    simp only [Prod.mk.injEq, St.mk.injEq] at hy
    obtain ⟨⟨h0, h1, h2, h3, h4⟩, h5⟩ := hy
    subst h0 h1 h2 h3 h4 h5
    have hb4 : T.toList.isEmpty = false := toList_empty T false (by rw [HT.out]; exact stT_some hst)
    have hXe : X = (stBits t m r s u, 0) := by rw [HX.out]; simp [stToBits, hst]
    have HX1 : Hid (stFromB X.1 = (⟨t, m, r, s, u⟩, 0)) := Lib.hid (by rw [hXe]; exact stFromB_bits hst)
    have hne : (X.2 != 0) = false := by rw [hXe]; rfl
    subst hc
    clear hst hXe
    have HKG : ∀ x : BW W11.heap.size W11, Hid (CellN x.w G [t, m, r, s, u]) := fun x => Lib.hid (HG.out.next x.h)
    have hk0G : ∀ x : BW W11.heap.size W11, x.w.cell? ⟨G, 0, none⟩ = some (.int .i64 t) := fun x => ((HKG x).out 0 (by simp)).1
    have hk1G : ∀ x : BW W11.heap.size W11, x.w.cell? ⟨G, 1, none⟩ = some (.int .i64 m) := fun x => ((HKG x).out 1 (by simp)).1
    have hk2G : ∀ x : BW W11.heap.size W11, x.w.cell? ⟨G, 2, none⟩ = some (.int .i64 r) := fun x => ((HKG x).out 2 (by simp)).1
    have hk3G : ∀ x : BW W11.heap.size W11, x.w.cell? ⟨G, 3, none⟩ = some (.int .i64 s) := fun x => ((HKG x).out 3 (by simp)).1
    have hk4G : ∀ x : BW W11.heap.size W11, x.w.cell? ⟨G, 4, none⟩ = some (.int .i64 u) := fun x => ((HKG x).out 4 (by simp)).1
    have HKH : ∀ x : BW W11.heap.size W11, Hid (CellN x.w H [p0, p1, p2, p3, p4]) := fun x => Lib.hid (HH.out.next x.h)
    have hk0H : ∀ x : BW W11.heap.size W11, x.w.cell? ⟨H, 0, none⟩ = some (.int .i64 p0) := fun x => ((HKH x).out 0 (by simp)).1
    have hk1H : ∀ x : BW W11.heap.size W11, x.w.cell? ⟨H, 1, none⟩ = some (.int .i64 p1) := fun x => ((HKH x).out 1 (by simp)).1
    have hk2H : ∀ x : BW W11.heap.size W11, x.w.cell? ⟨H, 2, none⟩ = some (.int .i64 p2) := fun x => ((HKH x).out 2 (by simp)).1
    have hk3H : ∀ x : BW W11.heap.size W11, x.w.cell? ⟨H, 3, none⟩ = some (.int .i64 p3) := fun x => ((HKH x).out 3 (by simp)).1
    have hk4H : ∀ x : BW W11.heap.size W11, x.w.cell? ⟨H, 4, none⟩ = some (.int .i64 p4) := fun x => ((HKH x).out 4 (by simp)).1
    have HKJ : ∀ x : BW W11.heap.size W11, Hid (CellN x.w J [p0, p1, p2, p3, p4]) := fun x => Lib.hid (HJ.out.next x.h)
    have hk0J : ∀ x : BW W11.heap.size W11, x.w.cell? ⟨J, 0, none⟩ = some (.int .i64 p0) := fun x => ((HKJ x).out 0 (by simp)).1
    have hk1J : ∀ x : BW W11.heap.size W11, x.w.cell? ⟨J, 1, none⟩ = some (.int .i64 p1) := fun x => ((HKJ x).out 1 (by simp)).1
    have hk2J : ∀ x : BW W11.heap.size W11, x.w.cell? ⟨J, 2, none⟩ = some (.int .i64 p2) := fun x => ((HKJ x).out 2 (by simp)).1
    have hk3J : ∀ x : BW W11.heap.size W11, x.w.cell? ⟨J, 3, none⟩ = some (.int .i64 p3) := fun x => ((HKJ x).out 3 (by simp)).1
    have hk4J : ∀ x : BW W11.heap.size W11, x.w.cell? ⟨J, 4, none⟩ = some (.int .i64 p4) := fun x => ((HKJ x).out 4 (by simp)).1
    have HKY : ∀ x : BW W11.heap.size W11, Hid (CellN x.w Y [t, m, r, s, u]) := fun x => Lib.hid (HY.out.next x.h)
    have hk0Y : ∀ x : BW W11.heap.size W11, x.w.cell? ⟨Y, 0, none⟩ = some (.int .i64 t) := fun x => ((HKY x).out 0 (by simp)).1
    have hk1Y : ∀ x : BW W11.heap.size W11, x.w.cell? ⟨Y, 1, none⟩ = some (.int .i64 m) := fun x => ((HKY x).out 1 (by simp)).1
    have hk2Y : ∀ x : BW W11.heap.size W11, x.w.cell? ⟨Y, 2, none⟩ = some (.int .i64 r) := fun x => ((HKY x).out 2 (by simp)).1
    have hk3Y : ∀ x : BW W11.heap.size W11, x.w.cell? ⟨Y, 3, none⟩ = some (.int .i64 s) := fun x => ((HKY x).out 3 (by simp)).1
    have hk4Y : ∀ x : BW W11.heap.size W11, x.w.cell? ⟨Y, 4, none⟩ = some (.int .i64 u) := fun x => ((HKY x).out 4 (by simp)).1
    have HKZ : ∀ x : BW W11.heap.size W11, Hid (CellN x.w Z [z0, z1, z2, z3, z4]) := fun x => Lib.hid (HZ.out.next x.h)
    have hk0Z : ∀ x : BW W11.heap.size W11, x.w.cell? ⟨Z, 0, none⟩ = some (.int .i64 z0) := fun x => ((HKZ x).out 0 (by simp)).1
    have hk1Z : ∀ x : BW W11.heap.size W11, x.w.cell? ⟨Z, 1, none⟩ = some (.int .i64 z1) := fun x => ((HKZ x).out 1 (by simp)).1
    have hk2Z : ∀ x : BW W11.heap.size W11, x.w.cell? ⟨Z, 2, none⟩ = some (.int .i64 z2) := fun x => ((HKZ x).out 2 (by simp)).1
    have hk3Z : ∀ x : BW W11.heap.size W11, x.w.cell? ⟨Z, 3, none⟩ = some (.int .i64 z3) := fun x => ((HKZ x).out 3 (by simp)).1
    have hk4Z : ∀ x : BW W11.heap.size W11, x.w.cell? ⟨Z, 4, none⟩ = some (.int .i64 z4) := fun x => ((HKZ x).out 4 (by simp)).1
    have HKV : ∀ x : BW W11.heap.size W11, Hid (CellN x.w V [z0, z1, z2, z3, z4]) := fun x => Lib.hid (HV.out.next x.h)
    have hk0V : ∀ x : BW W11.heap.size W11, x.w.cell? ⟨V, 0, none⟩ = some (.int .i64 z0) := fun x => ((HKV x).out 0 (by simp)).1
    have hk1V : ∀ x : BW W11.heap.size W11, x.w.cell? ⟨V, 1, none⟩ = some (.int .i64 z1) := fun x => ((HKV x).out 1 (by simp)).1
    have hk2V : ∀ x : BW W11.heap.size W11, x.w.cell? ⟨V, 2, none⟩ = some (.int .i64 z2) := fun x => ((HKV x).out 2 (by simp)).1
    have hk3V : ∀ x : BW W11.heap.size W11, x.w.cell? ⟨V, 3, none⟩ = some (.int .i64 z3) := fun x => ((HKV x).out 3 (by simp)).1
    have hk4V : ∀ x : BW W11.heap.size W11, x.w.cell? ⟨V, 4, none⟩ = some (.int .i64 z4) := fun x => ((HKV x).out 4 (by simp)).1
    refine wp_region_bw W11.heap.size W11 (Below.refl _ _) (by kernel_rfl) (by kernel_rfl) ?_
    repeat (first | go_big_quiet_step (first | (go_at_call 18; exact bw_of (Nat.le_refl _) (HLK _).out) | (go_at_call 19; exact bw_of (Nat.le_refl _) (HTX _).out) | (go_at_call 20; exact bw_of (Nat.le_refl _) (HI1 _).out) | (go_at_call 21; exact bw_of (Nat.le_refl _) (HI2 _).out) | fail))
    refine wpQuiet_nil ?_
    rintro _ ⟨xw, rfl⟩
    clear hk0G hk1G hk2G hk3G hk4G hk0H hk1H hk2H hk3H hk4H hk0J hk1J hk2J hk3J hk4J hk0Y hk1Y hk2Y hk3Y hk4Y hk0Z hk1Z hk2Z hk3Z hk4Z hk0V hk1V hk2V hk3V hk4V HKG HKH HKJ HKY HKZ HKV HLK HTX HI1 HI2
    have HBX : Hid (Below w.heap.size w xw.w) := Lib.hid (HB.out.trans (xw.h.mono HB.out.size))
    have HGX : Hid (CellN xw.w G [t, m, r, s, u]) := Lib.hid (HG.out.next xw.h)
    have HAX : Hid (Rd .i64 xw.w va X.1) := Lib.hid (HOas.out.rd.bw rfl xw)
    go_wp2_with fail
    have h1 := stateFromBits_any va X.1 xw.w HAX.out
    rw [HX1.out] at h1
    simp only [St.val] at h1
    refine h1.mono ?_
    clear h1
    rintro e w12x ⟨rfl, hb12⟩
    have HG2 := Lib.hid (HGX.out.next hb12)
    have HBY := Lib.hid (bthen HBX.out hb12)
    obtain ⟨⟨a0, a1, a2, a3, a4⟩, ⟨g0, g1, g2, g3, g4⟩⟩ := HG2.out.five
    have ka0 := keepA a0
    have ka1 := keepA a1
    have ka2 := keepA a2
    have ka3 := keepA a3
    have ka4 := keepA a4
    clear hb12
    go_wp2_with fail
    go_ret
    exact ⟨rfl, HBY.out.alloc HBY.out.size _⟩
end Go.Proofs.YtkhmnkpdlodepaaDoor