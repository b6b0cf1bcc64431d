/- Contracts: ReadState (program and reference). -/
import Derived.Test.YtkhmnkpdlodepaaDoorNums4
import Derived.Test.YtkhmnkpdlodepaaDoorSpl
import Derived.Test.YtkhmnkpdlodepaaDoorSt
import Derived.Deep.RegionHeld3
namespace Go.Proofs.YtkhmnkpdlodepaaDoor
open Go.RowKit
set_option linter.unusedVariables false
set_option linter.unusedSimpArgs false

/-- A state that was read, or none. -/
def rdOf : Option (Int × Int × Int × Int × Int) → St × Bool
  | some (t, m, r, s, v) => (⟨t, m, r, s, v⟩, true)
  | none => (⟨0, 0, 0, 0, 0⟩, false)
/-- ReadState's answer. -/
def rdSt (s : ByteArray) : St × Bool := rdOf (readB (okNs (partsS s slashS)))
theorem rdOf_len (ns : List Int) (h : ns.length ≠ 5) : rdOf (readB (some ns)) = (⟨0, 0, 0, 0, 0⟩, false) := by
  match ns, h with
  | [], _ => rfl
  | [_], _ => rfl
  | [_, _], _ => rfl
  | [_, _, _], _ => rfl
  | [_, _, _, _], _ => rfl
  | [_, _, _, _, _], h => exact absurd rfl h
  | _ :: _ :: _ :: _ :: _ :: _ :: _, _ => rfl
theorem list5 (ns : List Int) (h : ns.length = 5) : ∃ a b c d e, ns = [a, b, c, d, e] := by
  match ns, h with
  | [a, b, c, d, e], _ => exact ⟨a, b, c, d, e, rfl⟩
theorem zero5 {w w1 : World} {T : TypeId} (hb : Below (w.heap.size + 1) (w.alloc (.cells #[.int .i64 0, .int .i64 0, .int .i64 0, .int .i64 0, .int .i64 0] T)) w1) :
    w1.cell? ⟨w.heap.size, 0, none⟩ = some (.int .i64 0) ∧ w1.cell? ⟨w.heap.size, 1, none⟩ = some (.int .i64 0) ∧ w1.cell? ⟨w.heap.size, 2, none⟩ = some (.int .i64 0) ∧ w1.cell? ⟨w.heap.size, 3, none⟩ = some (.int .i64 0) ∧ w1.cell? ⟨w.heap.size, 4, none⟩ = some (.int .i64 0) ∧
    w1.frozen? ⟨w.heap.size, 0, none⟩ = false ∧ w1.frozen? ⟨w.heap.size, 1, none⟩ = false ∧ w1.frozen? ⟨w.heap.size, 2, none⟩ = false ∧ w1.frozen? ⟨w.heap.size, 3, none⟩ = false ∧ w1.frozen? ⟨w.heap.size, 4, none⟩ = false := by
  obtain ⟨x0, x1, x2, x3, x4⟩ := box5 hb
  have hf : ∀ j, w1.frozen? ⟨w.heap.size, j, none⟩ = false := fun j => (hb.frozen (p := ⟨w.heap.size, j, none⟩) (Nat.lt_succ_self _)).trans (by simp)
  exact ⟨x0, x1, x2, x3, x4, hf 0, hf 1, hf 2, hf 3, hf 4⟩
theorem new5 (w : World) (a b c d e : Int) (T : TypeId) : ∀ j, j < 5 → (w.alloc (.cells #[.int .i64 a, .int .i64 b, .int .i64 c, .int .i64 d, .int .i64 e] T)).drew.cell? ⟨w.heap.size, j, none⟩ = #[Value.int .i64 a, .int .i64 b, .int .i64 c, .int .i64 d, .int .i64 e][j]? := by
  intro j hj
  match j, hj with
  | 0, _ => simp
  | 1, _ => simp
  | 2, _ => simp
  | 3, _ => simp
  | 4, _ => simp
set_option maxRecDepth 100000 in
set_option maxHeartbeats 4000000 in
theorem readState_any (s : ByteArray) (w : World) (hs : s.size ≤ 1048576) (hw : RdP w) : Calls Tryd.prog 7 #[.string s] w fun e w' => e = .returned (.tuple #[(rdSt s).1.val, .bool (rdSt s).2]) ∧ Below w.heap.size w w' := by
  have HB0 := Lib.hid ((Below.refl w.heap.size w).alloc (Nat.le_refl _) (.cells #[.int .i64 0, .int .i64 0, .int .i64 0, .int .i64 0, .int .i64 0] 23))
  have HW := Lib.hid (hw.below HB0.out)
  clear hw
  obtain ⟨R, hR⟩ : ∃ R, R = rdSt s := ⟨_, rfl⟩
  rw [← hR]
  obtain ⟨r, hr⟩ : ∃ r, r = okNs (partsS s slashS) := ⟨_, rfl⟩
  have HR : Hid (R = rdOf (readB r)) := Lib.hid (by rw [hR, hr]; exact rfl)
  have HRR := Lib.hid hr
  clear hR hr
  go_enter Tryd.func7, Tryd.ntmps7
  go_wp2_with fail
  refine (numbersIn_any s slashS _ hs (by decide) HW.out).mono ?_
  rw [← HRR.out]
  rintro e w1 ⟨v, rfl, hv, hb⟩
  have HB1 : Hid (Below (w.heap.size + 1) (w.alloc (.cells #[.int .i64 0, .int .i64 0, .int .i64 0, .int .i64 0, .int .i64 0] 23)) w1) := Lib.hid (hb.mono (by simp))
  have HV := Lib.hid hv
  have hz1 : w.heap.size + 1 ≤ w1.heap.size := by have := HB1.out.size; simpa using this
  have HZ := Lib.hid (zero5 HB1.out)
  have HBW := Lib.hid (HB0.out.trans (HB1.out.mono (Nat.le_succ _)))
  clear hv hb
  cases hc : r with
  | none =>
    have HE : Hid (R = (⟨0, 0, 0, 0, 0⟩, false)) := Lib.hid (by rw [HR.out, hc]; rfl)
    clear hc
    obtain ⟨x0, x1, x2, x3, x4, y0, y1, y2, y3, y4⟩ := HZ.out
    go_wp2_with fail
    try simp only [Exit.inBlock, Exit.then]
    refine bodyPost_ret (by simp [results, Tryd.results7, go_sem, x0, x1, x2, x3, x4]; try rfl) rfl ?_
    exact ⟨by rw [HE.out]; rfl, HBW.out.trans (by go_grown)⟩
  | some ns =>
    obtain hO := HV.out ns hc
    have HO := Lib.hid hO
    clear hO
    by_cases h5 : ns.length = 5
    rotate_left
    · have HE : Hid (R = (⟨0, 0, 0, 0, 0⟩, false)) := Lib.hid (by rw [HR.out, hc]; exact rdOf_len ns h5)
      have hne : ((ns.length : Int) != 5) = true := by simp; omega
      obtain ⟨a, cap, rfl, hcap, hm, hn, hcl⟩ := HO.out.rd
      clear hc hcl hn
      obtain ⟨x0, x1, x2, x3, x4, y0, y1, y2, y3, y4⟩ := HZ.out
      go_wp2_with fail
      try simp only [Exit.inBlock, Exit.then]
      refine bodyPost_ret (by simp [results, Tryd.results7, go_sem, x0, x1, x2, x3, x4]; try rfl) rfl ?_
      exact ⟨by rw [HE.out]; rfl, HBW.out.trans (by go_grown)⟩
    obtain ⟨t, m, ro, sl, me, rfl⟩ := list5 ns h5
    have HE : Hid (R = rdOf (readB (some [t, m, ro, sl, me]))) := Lib.hid (by rw [HR.out, hc])
    obtain ⟨g, cap, rfl, hg0, hg1, hcap, hm⟩ : ∃ g cap, v = .slice (some ⟨g, 0, none⟩) 5 cap ∧ w.heap.size < g ∧ g < w1.heap.size ∧ 5 ≤ cap ∧ cap ≤ maxLen := by
      rcases HO.out.shape with ⟨_, h⟩ | ⟨g, cap, h1, h2, h3, h4, h5⟩
      · cases h
      · exact ⟨g, cap, h1, by have := h2; simp at this; omega, h3, h4, h5⟩
    have c0 : w1.cell? ⟨g, 0, none⟩ = some (.int .i64 t) := HO.out.cell 0 (by simp)
    have c1 : w1.cell? ⟨g, 1, none⟩ = some (.int .i64 m) := HO.out.cell 1 (by simp)
    have c2 : w1.cell? ⟨g, 2, none⟩ = some (.int .i64 ro) := HO.out.cell 2 (by simp)
    have c3 : w1.cell? ⟨g, 3, none⟩ = some (.int .i64 sl) := HO.out.cell 3 (by simp)
    have c4 : w1.cell? ⟨g, 4, none⟩ = some (.int .i64 me) := HO.out.cell 4 (by simp)
    unfold maxLen at hm
    clear hc h5
    go_wp2_with fail
    go_region_held3 (fun w' => w'.cell? ⟨g, 0, none⟩ = some (.int .i64 t) ∧ w'.cell? ⟨g, 1, none⟩ = some (.int .i64 m) ∧ w'.cell? ⟨g, 2, none⟩ = some (.int .i64 ro) ∧ w'.cell? ⟨g, 3, none⟩ = some (.int .i64 sl) ∧ w'.cell? ⟨g, 4, none⟩ = some (.int .i64 me)) (go_keep) ((fail))
    clear c0 c1 c2 c3 c4
    have HX : Hid (∀ j, j < 5 → (w1.alloc (.cells #[.int .i64 t, .int .i64 m, .int .i64 ro, .int .i64 sl, .int .i64 me] 23)).drew.cell? ⟨w1.heap.size, j, none⟩ = #[Value.int .i64 t, .int .i64 m, .int .i64 ro, .int .i64 sl, .int .i64 me][j]?) := Lib.hid (new5 w1 t m ro sl me 23)
    have HB2 : Hid (Below (w.heap.size + 1) (w.alloc (.cells #[.int .i64 0, .int .i64 0, .int .i64 0, .int .i64 0, .int .i64 0] 23)) (w1.alloc (.cells #[.int .i64 t, .int .i64 m, .int .i64 ro, .int .i64 sl, .int .i64 me] 23)).drew) := Lib.hid (HB1.out.alloc hz1 _).drew
    obtain ⟨W, hW⟩ : ∃ W, W = (w1.alloc (.cells #[.int .i64 t, .int .i64 m, .int .i64 ro, .int .i64 sl, .int .i64 me] 23)).drew := ⟨_, rfl⟩
    have hzW : W.heap.size = w1.heap.size + 1 := by rw [hW]; simp
    rw [← hW] at HX HB2 ⊢
    clear hW
    have a0 : W.cell? ⟨w1.heap.size, 0, none⟩ = some (.int .i64 t) := HX.out 0 (by decide)
    have a1 : W.cell? ⟨w1.heap.size, 1, none⟩ = some (.int .i64 m) := HX.out 1 (by decide)
    have a2 : W.cell? ⟨w1.heap.size, 2, none⟩ = some (.int .i64 ro) := HX.out 2 (by decide)
    have a3 : W.cell? ⟨w1.heap.size, 3, none⟩ = some (.int .i64 sl) := HX.out 3 (by decide)
    have a4 : W.cell? ⟨w1.heap.size, 4, none⟩ = some (.int .i64 me) := HX.out 4 (by decide)
    go_wp2_with fail
    refine (isState_any _ _ _ _ _ _).mono ?_
    cases hst : stB t m ro sl me with
    | false =>
      have HE2 : Hid (R = (⟨0, 0, 0, 0, 0⟩, false)) := Lib.hid (by rw [HE.out]; simp [readB, rdOf, hst])
      rintro e w3 ⟨rfl, hb3⟩
      have HB3 := Lib.hid (HB2.out.trans (hb3.mono (by omega)))
      clear hb3 hst a0 a1 a2 a3 a4
      obtain ⟨x0, x1, x2, x3, x4, y0, y1, y2, y3, y4⟩ := zero5 HB3.out
      go_wp2_with fail
      try simp only [Exit.inBlock, Exit.then]
      refine bodyPost_ret (by simp [results, Tryd.results7, go_sem, x0, x1, x2, x3, x4]; try rfl) rfl ?_
      exact ⟨by rw [HE2.out]; rfl, (HB0.out.trans (HB3.out.mono (Nat.le_succ _))).trans (by go_grown)⟩
    | true =>
      have HE2 : Hid (R = (⟨t, m, ro, sl, me⟩, true)) := Lib.hid (by rw [HE.out]; simp [readB, rdOf, hst])
      rintro e w3 ⟨rfl, hb3⟩
      have HB3 := Lib.hid (HB2.out.trans (hb3.mono (by omega)))
      have b0 : w3.cell? ⟨w1.heap.size, 0, none⟩ = some (.int .i64 t) := (hb3.cell (p := ⟨w1.heap.size, 0, none⟩) (by simp; omega)).trans a0
      have b1 : w3.cell? ⟨w1.heap.size, 1, none⟩ = some (.int .i64 m) := (hb3.cell (p := ⟨w1.heap.size, 1, none⟩) (by simp; omega)).trans a1
      have b2 : w3.cell? ⟨w1.heap.size, 2, none⟩ = some (.int .i64 ro) := (hb3.cell (p := ⟨w1.heap.size, 2, none⟩) (by simp; omega)).trans a2
      have b3 : w3.cell? ⟨w1.heap.size, 3, none⟩ = some (.int .i64 sl) := (hb3.cell (p := ⟨w1.heap.size, 3, none⟩) (by simp; omega)).trans a3
      have b4 : w3.cell? ⟨w1.heap.size, 4, none⟩ = some (.int .i64 me) := (hb3.cell (p := ⟨w1.heap.size, 4, none⟩) (by simp; omega)).trans a4
      clear hb3 hst a0 a1 a2 a3 a4
      obtain ⟨x0, x1, x2, x3, x4, y0, y1, y2, y3, y4⟩ := zero5 HB3.out
      go_wp2_with fail
      try simp only [Exit.inBlock, Exit.then]
      refine bodyPost_ret (by simp [results, Tryd.results7, go_sem, x0, x1, x2, x3, x4]; try rfl) rfl ?_
      exact ⟨by rw [HE2.out]; rfl, (HB0.out.trans (HB3.out.mono (Nat.le_succ _))).trans (by go_grown)⟩

set_option maxRecDepth 100000 in
set_option maxHeartbeats 4000000 in
theorem sReadState_any (s : ByteArray) (w : World) (hs : s.size ≤ 1048576) : Calls Tryd.prog 6 #[.string s] w fun e w' => e = .returned (.tuple #[(rdSt s).1.val, .bool (rdSt s).2]) ∧ Below w.heap.size w w' := by
  have HB0 := Lib.hid ((Below.refl w.heap.size w).alloc (Nat.le_refl _) (.cells #[.int .i64 0, .int .i64 0, .int .i64 0, .int .i64 0, .int .i64 0] 23))
  obtain ⟨R, hR⟩ : ∃ R, R = rdSt s := ⟨_, rfl⟩
  rw [← hR]
  obtain ⟨r, hr⟩ : ∃ r, r = okMs (partsS s slashS) := ⟨_, rfl⟩
  have HR : Hid (R = rdOf (readB r)) := Lib.hid (by rw [hR, hr]; exact (congrArg rdOf (readB_same _)).symm)
  have HRR := Lib.hid hr
  clear hR hr
  go_enter Tryd.func6, Tryd.ntmps6
  go_wp2_with fail
  refine (l01Split_any s 47 _ hs).mono ?_
  rintro e wp ⟨vp, ps, rfl, hO, hps, hlp, hbp⟩
  have hpe : ps = partsS s slashS := map_data_inj _ _ (hps.trans (parts_data s).symm)
  have HOP := Lib.hid hO
  have HBP := Lib.hid hbp
  have HPE := Lib.hid hpe
  clear hO hbp hps hpe
  go_wp2_with fail
  refine (l04Numbers_any vp ps _ wp HOP.out hlp).mono ?_
  rw [HPE.out, ← HRR.out]
  rintro e w1 ⟨v, rfl, hv, hb⟩
  have HB1 : Hid (Below (w.heap.size + 1) (w.alloc (.cells #[.int .i64 0, .int .i64 0, .int .i64 0, .int .i64 0, .int .i64 0] 23)) w1) := Lib.hid ((bthen HBP.out hb).mono (by simp))
  have hzp : w.heap.size + 1 ≤ wp.heap.size := by have := HBP.out.size; simpa using this
  have HV := Lib.hid hv
  have hz1 : w.heap.size + 1 ≤ w1.heap.size := by have := HB1.out.size; simpa using this
  have HZ := Lib.hid (zero5 HB1.out)
  have HBW := Lib.hid (HB0.out.trans (HB1.out.mono (Nat.le_succ _)))
  clear hv hb
  cases hc : r with
  | none =>
    have HE : Hid (R = (⟨0, 0, 0, 0, 0⟩, false)) := Lib.hid (by rw [HR.out, hc]; rfl)
    clear hc
    obtain ⟨x0, x1, x2, x3, x4, y0, y1, y2, y3, y4⟩ := HZ.out
    go_wp2_with fail
    try simp only [Exit.inBlock, Exit.then]
    refine bodyPost_ret (by simp [results, Tryd.results6, go_sem, x0, x1, x2, x3, x4]; try rfl) rfl ?_
    exact ⟨by rw [HE.out]; rfl, HBW.out.trans (by go_grown)⟩
  | some ns =>
    obtain hO := HV.out ns hc
    have HO := Lib.hid hO
    clear hO
    by_cases h5 : ns.length = 5
    rotate_left
    · have HE : Hid (R = (⟨0, 0, 0, 0, 0⟩, false)) := Lib.hid (by rw [HR.out, hc]; exact rdOf_len ns h5)
      have hne : ((ns.length : Int) != 5) = true := by simp; omega
      obtain ⟨a, cap, rfl, hcap, hm, hn, hcl⟩ := HO.out.rd
      clear hc hcl hn
      obtain ⟨x0, x1, x2, x3, x4, y0, y1, y2, y3, y4⟩ := HZ.out
      go_wp2_with fail
      try simp only [Exit.inBlock, Exit.then]
      refine bodyPost_ret (by simp [results, Tryd.results6, go_sem, x0, x1, x2, x3, x4]; try rfl) rfl ?_
      exact ⟨by rw [HE.out]; rfl, HBW.out.trans (by go_grown)⟩
    obtain ⟨t, m, ro, sl, me, rfl⟩ := list5 ns h5
    have HE : Hid (R = rdOf (readB (some [t, m, ro, sl, me]))) := Lib.hid (by rw [HR.out, hc])
    obtain ⟨g, cap, rfl, hg0, hg1, hcap, hm⟩ : ∃ g cap, v = .slice (some ⟨g, 0, none⟩) 5 cap ∧ w.heap.size < g ∧ g < w1.heap.size ∧ 5 ≤ cap ∧ cap ≤ maxLen := by
      rcases HO.out.shape with ⟨_, h⟩ | ⟨g, cap, h1, h2, h3, h4, h5⟩
      · cases h
      · exact ⟨g, cap, h1, by omega, h3, h4, h5⟩
    have c0 : w1.cell? ⟨g, 0, none⟩ = some (.int .i64 t) := HO.out.cell 0 (by simp)
    have c1 : w1.cell? ⟨g, 1, none⟩ = some (.int .i64 m) := HO.out.cell 1 (by simp)
    have c2 : w1.cell? ⟨g, 2, none⟩ = some (.int .i64 ro) := HO.out.cell 2 (by simp)
    have c3 : w1.cell? ⟨g, 3, none⟩ = some (.int .i64 sl) := HO.out.cell 3 (by simp)
    have c4 : w1.cell? ⟨g, 4, none⟩ = some (.int .i64 me) := HO.out.cell 4 (by simp)
    unfold maxLen at hm
    clear hc h5
    go_wp2_with fail
    go_region_held3 (fun w' => w'.cell? ⟨g, 0, none⟩ = some (.int .i64 t) ∧ w'.cell? ⟨g, 1, none⟩ = some (.int .i64 m) ∧ w'.cell? ⟨g, 2, none⟩ = some (.int .i64 ro) ∧ w'.cell? ⟨g, 3, none⟩ = some (.int .i64 sl) ∧ w'.cell? ⟨g, 4, none⟩ = some (.int .i64 me)) (go_keep) ((fail))
    clear c0 c1 c2 c3 c4
    have HX : Hid (∀ j, j < 5 → (w1.alloc (.cells #[.int .i64 t, .int .i64 m, .int .i64 ro, .int .i64 sl, .int .i64 me] 23)).drew.cell? ⟨w1.heap.size, j, none⟩ = #[Value.int .i64 t, .int .i64 m, .int .i64 ro, .int .i64 sl, .int .i64 me][j]?) := Lib.hid (new5 w1 t m ro sl me 23)
    have HB2 : Hid (Below (w.heap.size + 1) (w.alloc (.cells #[.int .i64 0, .int .i64 0, .int .i64 0, .int .i64 0, .int .i64 0] 23)) (w1.alloc (.cells #[.int .i64 t, .int .i64 m, .int .i64 ro, .int .i64 sl, .int .i64 me] 23)).drew) := Lib.hid (HB1.out.alloc hz1 _).drew
    obtain ⟨W, hW⟩ : ∃ W, W = (w1.alloc (.cells #[.int .i64 t, .int .i64 m, .int .i64 ro, .int .i64 sl, .int .i64 me] 23)).drew := ⟨_, rfl⟩
    have hzW : W.heap.size = w1.heap.size + 1 := by rw [hW]; simp
    rw [← hW] at HX HB2 ⊢
    clear hW
    have a0 : W.cell? ⟨w1.heap.size, 0, none⟩ = some (.int .i64 t) := HX.out 0 (by decide)
    have a1 : W.cell? ⟨w1.heap.size, 1, none⟩ = some (.int .i64 m) := HX.out 1 (by decide)
    have a2 : W.cell? ⟨w1.heap.size, 2, none⟩ = some (.int .i64 ro) := HX.out 2 (by decide)
    have a3 : W.cell? ⟨w1.heap.size, 3, none⟩ = some (.int .i64 sl) := HX.out 3 (by decide)
    have a4 : W.cell? ⟨w1.heap.size, 4, none⟩ = some (.int .i64 me) := HX.out 4 (by decide)
    go_wp2_with fail
    refine (sIsState_any _ _ _ _ _ _).mono ?_
    cases hst : stB t m ro sl me with
    | false =>
      have HE2 : Hid (R = (⟨0, 0, 0, 0, 0⟩, false)) := Lib.hid (by rw [HE.out]; simp [readB, rdOf, hst])
      rintro e w3 ⟨rfl, hb3⟩
      have HB3 := Lib.hid (HB2.out.trans (hb3.mono (by omega)))
      clear hb3 hst a0 a1 a2 a3 a4
      obtain ⟨x0, x1, x2, x3, x4, y0, y1, y2, y3, y4⟩ := zero5 HB3.out
      go_wp2_with fail
      try simp only [Exit.inBlock, Exit.then]
      refine bodyPost_ret (by simp [results, Tryd.results6, go_sem, x0, x1, x2, x3, x4]; try rfl) rfl ?_
      exact ⟨by rw [HE2.out]; rfl, (HB0.out.trans (HB3.out.mono (Nat.le_succ _))).trans (by go_grown)⟩
    | true =>
      have HE2 : Hid (R = (⟨t, m, ro, sl, me⟩, true)) := Lib.hid (by rw [HE.out]; simp [readB, rdOf, hst])
      rintro e w3 ⟨rfl, hb3⟩
      have HB3 := Lib.hid (HB2.out.trans (hb3.mono (by omega)))
      have b0 : w3.cell? ⟨w1.heap.size, 0, none⟩ = some (.int .i64 t) := (hb3.cell (p := ⟨w1.heap.size, 0, none⟩) (by simp; omega)).trans a0
      have b1 : w3.cell? ⟨w1.heap.size, 1, none⟩ = some (.int .i64 m) := (hb3.cell (p := ⟨w1.heap.size, 1, none⟩) (by simp; omega)).trans a1
      have b2 : w3.cell? ⟨w1.heap.size, 2, none⟩ = some (.int .i64 ro) := (hb3.cell (p := ⟨w1.heap.size, 2, none⟩) (by simp; omega)).trans a2
      have b3 : w3.cell? ⟨w1.heap.size, 3, none⟩ = some (.int .i64 sl) := (hb3.cell (p := ⟨w1.heap.size, 3, none⟩) (by simp; omega)).trans a3
      have b4 : w3.cell? ⟨w1.heap.size, 4, none⟩ = some (.int .i64 me) := (hb3.cell (p := ⟨w1.heap.size, 4, none⟩) (by simp; omega)).trans a4
      clear hb3 hst a0 a1 a2 a3 a4
      obtain ⟨x0, x1, x2, x3, x4, y0, y1, y2, y3, y4⟩ := zero5 HB3.out
      go_wp2_with fail
      try simp only [Exit.inBlock, Exit.then]
      refine bodyPost_ret (by simp [results, Tryd.results6, go_sem, x0, x1, x2, x3, x4]; try rfl) rfl ?_
      exact ⟨by rw [HE2.out]; rfl, (HB0.out.trans (HB3.out.mono (Nat.le_succ _))).trans (by go_grown)⟩

end Go.Proofs.YtkhmnkpdlodepaaDoor
