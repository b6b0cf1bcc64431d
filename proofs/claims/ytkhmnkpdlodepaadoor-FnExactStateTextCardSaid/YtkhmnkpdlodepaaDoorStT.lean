/- Contracts: StateText (program and reference). -/
import Derived.Test.YtkhmnkpdlodepaaDoorDec
import Derived.Test.YtkhmnkpdlodepaaDoorStB
import Derived.Test.YtkhmnkpdlodepaaDoorQuiet
namespace Go.Proofs.YtkhmnkpdlodepaaDoor
open Go.RowKit
set_option linter.unusedVariables false
set_option linter.unusedSimpArgs false

def slashS : ByteArray := ⟨#[47]⟩
/-- A state's text. -/
def stT (t m r s v : Int) : ByteArray := if stB t m r s v = true then decS t.toNat ++ slashS ++ decS m.toNat ++ slashS ++ decS r.toNat ++ slashS ++ decS s.toNat ++ slashS ++ decS v.toNat else ⟨#[]⟩
theorem size_app (a b : ByteArray) : (a ++ b).size = a.size + b.size := ByteArray.size_append

set_option maxRecDepth 100000 in
set_option maxHeartbeats 2000000 in
theorem stateText_any (t m r s v : Int) (w : World) (ht : TabP w) : Calls Tryd.prog 16 #[.agg #[.int .i64 t, .int .i64 m, .int .i64 r, .int .i64 s, .int .i64 v]] w fun e w' => e = .returned (.string (stT t m r s v)) ∧ Below w.heap.size w w' := by
  have HB0 := Lib.hid ((Below.refl w.heap.size w).alloc (Nat.le_refl _) (.cells #[.int .i64 t, .int .i64 m, .int .i64 r, .int .i64 s, .int .i64 v] 23))
  cases h : stB t m r s v
  · have e : stT t m r s v = ⟨#[]⟩ := by simp [stT, h]
    rw [e]; clear e
    go_enter Tryd.func16, Tryd.ntmps16
    go_wp2_with fail
    refine (isState_any _ _ _ _ _ _).mono ?_
    rw [h]
    rintro e w1 ⟨rfl, hb⟩
    have HB := Lib.hid (bthen HB0.out hb)
    clear hb
    go_wp2_with fail
    go_ret
    exact ⟨rfl, HB.out⟩
  obtain ⟨⟨ht1, ht2⟩, ⟨hm1, hm2⟩, ⟨hr1, hr2⟩, ⟨hs1, hs2⟩, ⟨hv1, hv2⟩⟩ := stB_bounds h
  obtain ⟨t, rfl⟩ := Int.eq_ofNat_of_zero_le ht1
  obtain ⟨m, rfl⟩ := Int.eq_ofNat_of_zero_le hm1
  obtain ⟨r, rfl⟩ := Int.eq_ofNat_of_zero_le hr1
  obtain ⟨s, rfl⟩ := Int.eq_ofNat_of_zero_le hs1
  obtain ⟨v, rfl⟩ := Int.eq_ofNat_of_zero_le hv1
  have nt : t ≤ 4294967296 := by omega
  have nm : m ≤ 4294967296 := by omega
  have nr : r ≤ 4294967296 := by omega
  have ns : s ≤ 4294967296 := by omega
  have nv : v ≤ 4294967296 := by omega
  have e : stT t m r s v = decS t ++ slashS ++ decS m ++ slashS ++ decS r ++ slashS ++ decS s ++ slashS ++ decS v := by simp [stT, h]
  rw [e]; clear e ht1 ht2 hm1 hm2 hr1 hr2 hs1 hs2 hv1 hv2
  have zt := decS_size t nt
  have Ct : Hid (∀ w : World, TabP w → Calls Tryd.prog 36 #[.int .i64 (t : Int)] w fun e w' => e = .returned (.string (decS t)) ∧ Below w.heap.size w w') := Lib.hid fun w ht => text_any t w nt ht
  obtain ⟨St, hSt⟩ : ∃ x, x = decS t := ⟨_, rfl⟩
  rw [← hSt] at zt Ct ⊢
  clear hSt nt
  have zm := decS_size m nm
  have Cm : Hid (∀ w : World, TabP w → Calls Tryd.prog 36 #[.int .i64 (m : Int)] w fun e w' => e = .returned (.string (decS m)) ∧ Below w.heap.size w w') := Lib.hid fun w ht => text_any m w nm ht
  obtain ⟨Sm, hSm⟩ : ∃ x, x = decS m := ⟨_, rfl⟩
  rw [← hSm] at zm Cm ⊢
  clear hSm nm
  have zr := decS_size r nr
  have Cr : Hid (∀ w : World, TabP w → Calls Tryd.prog 36 #[.int .i64 (r : Int)] w fun e w' => e = .returned (.string (decS r)) ∧ Below w.heap.size w w') := Lib.hid fun w ht => text_any r w nr ht
  obtain ⟨Sr, hSr⟩ : ∃ x, x = decS r := ⟨_, rfl⟩
  rw [← hSr] at zr Cr ⊢
  clear hSr nr
  have zs := decS_size s ns
  have Cs : Hid (∀ w : World, TabP w → Calls Tryd.prog 36 #[.int .i64 (s : Int)] w fun e w' => e = .returned (.string (decS s)) ∧ Below w.heap.size w w') := Lib.hid fun w ht => text_any s w ns ht
  obtain ⟨Ss, hSs⟩ : ∃ x, x = decS s := ⟨_, rfl⟩
  rw [← hSs] at zs Cs ⊢
  clear hSs ns
  have zv := decS_size v nv
  have Cv : Hid (∀ w : World, TabP w → Calls Tryd.prog 36 #[.int .i64 (v : Int)] w fun e w' => e = .returned (.string (decS v)) ∧ Below w.heap.size w w') := Lib.hid fun w ht => text_any v w nv ht
  obtain ⟨Sv, hSv⟩ : ∃ x, x = decS v := ⟨_, rfl⟩
  rw [← hSv] at zv Cv ⊢
  clear hSv nv
  obtain ⟨b1, hb1⟩ : ∃ x : ByteArray, x = ⟨#[47]⟩ := ⟨_, rfl⟩
  have hsl : slashS = b1 := hb1.symm
  rw [hsl]
  have zb : b1.size = 1 := by rw [hb1]; rfl
  have a1 : ∀ W : World, (Op.stringOp .add St b1).run Tryd.prog W = .ok (.string (St ++ b1)) W := fun W => run_string_add_sum W _ _ (by omega)
  obtain ⟨U1, hU1⟩ : ∃ x, x = St ++ b1 := ⟨_, rfl⟩
  have zU1 : U1.size = St.size + b1.size := by rw [hU1]; exact size_app _ _
  rw [← hU1] at a1 ⊢
  clear hU1
  have a2 : ∀ W : World, (Op.stringOp .add U1 Sm).run Tryd.prog W = .ok (.string (U1 ++ Sm)) W := fun W => run_string_add_sum W _ _ (by omega)
  obtain ⟨U2, hU2⟩ : ∃ x, x = U1 ++ Sm := ⟨_, rfl⟩
  have zU2 : U2.size = U1.size + Sm.size := by rw [hU2]; exact size_app _ _
  rw [← hU2] at a2 ⊢
  clear hU2
  have a3 : ∀ W : World, (Op.stringOp .add U2 b1).run Tryd.prog W = .ok (.string (U2 ++ b1)) W := fun W => run_string_add_sum W _ _ (by omega)
  obtain ⟨U3, hU3⟩ : ∃ x, x = U2 ++ b1 := ⟨_, rfl⟩
  have zU3 : U3.size = U2.size + b1.size := by rw [hU3]; exact size_app _ _
  rw [← hU3] at a3 ⊢
  clear hU3
  have a4 : ∀ W : World, (Op.stringOp .add U3 Sr).run Tryd.prog W = .ok (.string (U3 ++ Sr)) W := fun W => run_string_add_sum W _ _ (by omega)
  obtain ⟨U4, hU4⟩ : ∃ x, x = U3 ++ Sr := ⟨_, rfl⟩
  have zU4 : U4.size = U3.size + Sr.size := by rw [hU4]; exact size_app _ _
  rw [← hU4] at a4 ⊢
  clear hU4
  have a5 : ∀ W : World, (Op.stringOp .add U4 b1).run Tryd.prog W = .ok (.string (U4 ++ b1)) W := fun W => run_string_add_sum W _ _ (by omega)
  obtain ⟨U5, hU5⟩ : ∃ x, x = U4 ++ b1 := ⟨_, rfl⟩
  have zU5 : U5.size = U4.size + b1.size := by rw [hU5]; exact size_app _ _
  rw [← hU5] at a5 ⊢
  clear hU5
  have a6 : ∀ W : World, (Op.stringOp .add U5 Ss).run Tryd.prog W = .ok (.string (U5 ++ Ss)) W := fun W => run_string_add_sum W _ _ (by omega)
  obtain ⟨U6, hU6⟩ : ∃ x, x = U5 ++ Ss := ⟨_, rfl⟩
  have zU6 : U6.size = U5.size + Ss.size := by rw [hU6]; exact size_app _ _
  rw [← hU6] at a6 ⊢
  clear hU6
  have a7 : ∀ W : World, (Op.stringOp .add U6 b1).run Tryd.prog W = .ok (.string (U6 ++ b1)) W := fun W => run_string_add_sum W _ _ (by omega)
  obtain ⟨U7, hU7⟩ : ∃ x, x = U6 ++ b1 := ⟨_, rfl⟩
  have zU7 : U7.size = U6.size + b1.size := by rw [hU7]; exact size_app _ _
  rw [← hU7] at a7 ⊢
  clear hU7
  have a8 : ∀ W : World, (Op.stringOp .add U7 Sv).run Tryd.prog W = .ok (.string (U7 ++ Sv)) W := fun W => run_string_add_sum W _ _ (by omega)
  obtain ⟨U8, hU8⟩ : ∃ x, x = U7 ++ Sv := ⟨_, rfl⟩
  have zU8 : U8.size = U7.size + Sv.size := by rw [hU8]; exact size_app _ _
  rw [← hU8] at a8 ⊢
  clear hU8
  rw [hb1] at a1
  rw [hb1] at a3
  rw [hb1] at a5
  rw [hb1] at a7
  clear zU8 zU7 zU6 zU5 zU4 zU3 zU2 zU1 zb hsl hb1 b1 zt zm zr zs zv
  have HBX : ∀ x : BW (w.heap.size + 1) (w.alloc (.cells #[.int .i64 (t : Int), .int .i64 (m : Int), .int .i64 (r : Int), .int .i64 (s : Int), .int .i64 (v : Int)] 23)), Hid (Below w.heap.size w x.w) := fun x => Lib.hid (HB0.out.trans (x.h.mono (Nat.le_succ _)))
  have HB1 : Hid (w.heap.size + 1 ≤ (w.alloc (.cells #[.int .i64 (t : Int), .int .i64 (m : Int), .int .i64 (r : Int), .int .i64 (s : Int), .int .i64 (v : Int)] 23)).heap.size) := Lib.hid (by simp)
  have HTX : ∀ x : BW (w.heap.size + 1) (w.alloc (.cells #[.int .i64 (t : Int), .int .i64 (m : Int), .int .i64 (r : Int), .int .i64 (s : Int), .int .i64 (v : Int)] 23)), Hid (TabP x.w) := fun x => Lib.hid (ht.below (HBX x).out)
  clear ht
  have ca0 : ∀ x : BW (w.heap.size + 1) (w.alloc (.cells #[.int .i64 (t : Int), .int .i64 (m : Int), .int .i64 (r : Int), .int .i64 (s : Int), .int .i64 (v : Int)] 23)), x.w.cell? ⟨w.heap.size, 0, none⟩ = some (.int .i64 (t : Int)) := fun x => (box5 x.h).1
  have ca1 : ∀ x : BW (w.heap.size + 1) (w.alloc (.cells #[.int .i64 (t : Int), .int .i64 (m : Int), .int .i64 (r : Int), .int .i64 (s : Int), .int .i64 (v : Int)] 23)), x.w.cell? ⟨w.heap.size, 1, none⟩ = some (.int .i64 (m : Int)) := fun x => (box5 x.h).2.1
  have ca2 : ∀ x : BW (w.heap.size + 1) (w.alloc (.cells #[.int .i64 (t : Int), .int .i64 (m : Int), .int .i64 (r : Int), .int .i64 (s : Int), .int .i64 (v : Int)] 23)), x.w.cell? ⟨w.heap.size, 2, none⟩ = some (.int .i64 (r : Int)) := fun x => (box5 x.h).2.2.1
  have ca3 : ∀ x : BW (w.heap.size + 1) (w.alloc (.cells #[.int .i64 (t : Int), .int .i64 (m : Int), .int .i64 (r : Int), .int .i64 (s : Int), .int .i64 (v : Int)] 23)), x.w.cell? ⟨w.heap.size, 3, none⟩ = some (.int .i64 (s : Int)) := fun x => (box5 x.h).2.2.2.1
  have ca4 : ∀ x : BW (w.heap.size + 1) (w.alloc (.cells #[.int .i64 (t : Int), .int .i64 (m : Int), .int .i64 (r : Int), .int .i64 (s : Int), .int .i64 (v : Int)] 23)), x.w.cell? ⟨w.heap.size, 4, none⟩ = some (.int .i64 (v : Int)) := fun x => (box5 x.h).2.2.2.2
  go_enter Tryd.func16, Tryd.ntmps16
  go_wp2_with fail
  refine (isState_any _ _ _ _ _ _).mono ?_
  rw [h]
  rintro e w1 ⟨rfl, hb⟩
  have hw1 : Below (w.heap.size + 1) (w.alloc (.cells #[.int .i64 (t : Int), .int .i64 (m : Int), .int .i64 (r : Int), .int .i64 (s : Int), .int .i64 (v : Int)] 23)) w1 := hb.mono (by simp)
  clear hb h
  go_wp2_with fail
  refine wp_region_bw (w.heap.size + 1) (w.alloc (.cells #[.int .i64 (t : Int), .int .i64 (m : Int), .int .i64 (r : Int), .int .i64 (s : Int), .int .i64 (v : Int)] 23)) hw1 (by kernel_rfl) (by kernel_rfl) ?_
  clear hw1
  repeat (first | go_big_quiet_step (first | (go_at_call 36; with_reducible exact bw_of HB1.out (Ct.out _ (HTX _).out)) | (go_at_call 36; with_reducible exact bw_of HB1.out (Cm.out _ (HTX _).out)) | (go_at_call 36; with_reducible exact bw_of HB1.out (Cr.out _ (HTX _).out)) | (go_at_call 36; with_reducible exact bw_of HB1.out (Cs.out _ (HTX _).out)) | (go_at_call 36; with_reducible exact bw_of HB1.out (Cv.out _ (HTX _).out)) | fail))
  refine wpQuiet_nil ?_
  rintro _ ⟨xw, rfl⟩
  go_wp2
  go_ret
  exact ⟨rfl, (HBX xw).out⟩
set_option maxRecDepth 100000 in
set_option maxHeartbeats 2000000 in
theorem sStateText_any (t m r s v : Int) (w : World) : Calls Tryd.prog 19 #[.agg #[.int .i64 t, .int .i64 m, .int .i64 r, .int .i64 s, .int .i64 v]] w fun e w' => e = .returned (.string (stT t m r s v)) ∧ Below w.heap.size w w' := by
  have HB0 := Lib.hid ((Below.refl w.heap.size w).alloc (Nat.le_refl _) (.cells #[.int .i64 t, .int .i64 m, .int .i64 r, .int .i64 s, .int .i64 v] 23))
  cases h : stB t m r s v
  · have e : stT t m r s v = ⟨#[]⟩ := by simp [stT, h]
    rw [e]; clear e
    go_enter Tryd.func19, Tryd.ntmps19
    go_wp2_with fail
    refine (sIsState_any _ _ _ _ _ _).mono ?_
    rw [h]
    rintro e w1 ⟨rfl, hb⟩
    have HB := Lib.hid (bthen HB0.out hb)
    clear hb
    go_wp2_with fail
    go_ret
    exact ⟨rfl, HB.out⟩
  obtain ⟨⟨ht1, ht2⟩, ⟨hm1, hm2⟩, ⟨hr1, hr2⟩, ⟨hs1, hs2⟩, ⟨hv1, hv2⟩⟩ := stB_bounds h
  obtain ⟨t, rfl⟩ := Int.eq_ofNat_of_zero_le ht1
  obtain ⟨m, rfl⟩ := Int.eq_ofNat_of_zero_le hm1
  obtain ⟨r, rfl⟩ := Int.eq_ofNat_of_zero_le hr1
  obtain ⟨s, rfl⟩ := Int.eq_ofNat_of_zero_le hs1
  obtain ⟨v, rfl⟩ := Int.eq_ofNat_of_zero_le hv1
  have nt : t ≤ 4294967296 := by omega
  have nm : m ≤ 4294967296 := by omega
  have nr : r ≤ 4294967296 := by omega
  have ns : s ≤ 4294967296 := by omega
  have nv : v ≤ 4294967296 := by omega
  have e : stT t m r s v = decS t ++ slashS ++ decS m ++ slashS ++ decS r ++ slashS ++ decS s ++ slashS ++ decS v := by simp [stT, h]
  rw [e]; clear e ht1 ht2 hm1 hm2 hr1 hr2 hs1 hs2 hv1 hv2
  have zt := decS_size t nt
  have Ct : Hid (∀ w : World, Calls Tryd.prog 38 #[.int .i64 (t : Int)] w fun e w' => e = .returned (.string (decS t)) ∧ Below w.heap.size w w') := Lib.hid fun w => l01Dec_any t w nt
  obtain ⟨St, hSt⟩ : ∃ x, x = decS t := ⟨_, rfl⟩
  rw [← hSt] at zt Ct ⊢
  clear hSt nt
  have zm := decS_size m nm
  have Cm : Hid (∀ w : World, Calls Tryd.prog 38 #[.int .i64 (m : Int)] w fun e w' => e = .returned (.string (decS m)) ∧ Below w.heap.size w w') := Lib.hid fun w => l01Dec_any m w nm
  obtain ⟨Sm, hSm⟩ : ∃ x, x = decS m := ⟨_, rfl⟩
  rw [← hSm] at zm Cm ⊢
  clear hSm nm
  have zr := decS_size r nr
  have Cr : Hid (∀ w : World, Calls Tryd.prog 38 #[.int .i64 (r : Int)] w fun e w' => e = .returned (.string (decS r)) ∧ Below w.heap.size w w') := Lib.hid fun w => l01Dec_any r w nr
  obtain ⟨Sr, hSr⟩ : ∃ x, x = decS r := ⟨_, rfl⟩
  rw [← hSr] at zr Cr ⊢
  clear hSr nr
  have zs := decS_size s ns
  have Cs : Hid (∀ w : World, Calls Tryd.prog 38 #[.int .i64 (s : Int)] w fun e w' => e = .returned (.string (decS s)) ∧ Below w.heap.size w w') := Lib.hid fun w => l01Dec_any s w ns
  obtain ⟨Ss, hSs⟩ : ∃ x, x = decS s := ⟨_, rfl⟩
  rw [← hSs] at zs Cs ⊢
  clear hSs ns
  have zv := decS_size v nv
  have Cv : Hid (∀ w : World, Calls Tryd.prog 38 #[.int .i64 (v : Int)] w fun e w' => e = .returned (.string (decS v)) ∧ Below w.heap.size w w') := Lib.hid fun w => l01Dec_any v w nv
  obtain ⟨Sv, hSv⟩ : ∃ x, x = decS v := ⟨_, rfl⟩
  rw [← hSv] at zv Cv ⊢
  clear hSv nv
  obtain ⟨b1, hb1⟩ : ∃ x : ByteArray, x = ⟨#[47]⟩ := ⟨_, rfl⟩
  have hsl : slashS = b1 := hb1.symm
  rw [hsl]
  have zb : b1.size = 1 := by rw [hb1]; rfl
  have a1 : ∀ W : World, (Op.stringOp .add St b1).run Tryd.prog W = .ok (.string (St ++ b1)) W := fun W => run_string_add_sum W _ _ (by omega)
  obtain ⟨U1, hU1⟩ : ∃ x, x = St ++ b1 := ⟨_, rfl⟩
  have zU1 : U1.size = St.size + b1.size := by rw [hU1]; exact size_app _ _
  rw [← hU1] at a1 ⊢
  clear hU1
  have a2 : ∀ W : World, (Op.stringOp .add U1 Sm).run Tryd.prog W = .ok (.string (U1 ++ Sm)) W := fun W => run_string_add_sum W _ _ (by omega)
  obtain ⟨U2, hU2⟩ : ∃ x, x = U1 ++ Sm := ⟨_, rfl⟩
  have zU2 : U2.size = U1.size + Sm.size := by rw [hU2]; exact size_app _ _
  rw [← hU2] at a2 ⊢
  clear hU2
  have a3 : ∀ W : World, (Op.stringOp .add U2 b1).run Tryd.prog W = .ok (.string (U2 ++ b1)) W := fun W => run_string_add_sum W _ _ (by omega)
  obtain ⟨U3, hU3⟩ : ∃ x, x = U2 ++ b1 := ⟨_, rfl⟩
  have zU3 : U3.size = U2.size + b1.size := by rw [hU3]; exact size_app _ _
  rw [← hU3] at a3 ⊢
  clear hU3
  have a4 : ∀ W : World, (Op.stringOp .add U3 Sr).run Tryd.prog W = .ok (.string (U3 ++ Sr)) W := fun W => run_string_add_sum W _ _ (by omega)
  obtain ⟨U4, hU4⟩ : ∃ x, x = U3 ++ Sr := ⟨_, rfl⟩
  have zU4 : U4.size = U3.size + Sr.size := by rw [hU4]; exact size_app _ _
  rw [← hU4] at a4 ⊢
  clear hU4
  have a5 : ∀ W : World, (Op.stringOp .add U4 b1).run Tryd.prog W = .ok (.string (U4 ++ b1)) W := fun W => run_string_add_sum W _ _ (by omega)
  obtain ⟨U5, hU5⟩ : ∃ x, x = U4 ++ b1 := ⟨_, rfl⟩
  have zU5 : U5.size = U4.size + b1.size := by rw [hU5]; exact size_app _ _
  rw [← hU5] at a5 ⊢
  clear hU5
  have a6 : ∀ W : World, (Op.stringOp .add U5 Ss).run Tryd.prog W = .ok (.string (U5 ++ Ss)) W := fun W => run_string_add_sum W _ _ (by omega)
  obtain ⟨U6, hU6⟩ : ∃ x, x = U5 ++ Ss := ⟨_, rfl⟩
  have zU6 : U6.size = U5.size + Ss.size := by rw [hU6]; exact size_app _ _
  rw [← hU6] at a6 ⊢
  clear hU6
  have a7 : ∀ W : World, (Op.stringOp .add U6 b1).run Tryd.prog W = .ok (.string (U6 ++ b1)) W := fun W => run_string_add_sum W _ _ (by omega)
  obtain ⟨U7, hU7⟩ : ∃ x, x = U6 ++ b1 := ⟨_, rfl⟩
  have zU7 : U7.size = U6.size + b1.size := by rw [hU7]; exact size_app _ _
  rw [← hU7] at a7 ⊢
  clear hU7
  have a8 : ∀ W : World, (Op.stringOp .add U7 Sv).run Tryd.prog W = .ok (.string (U7 ++ Sv)) W := fun W => run_string_add_sum W _ _ (by omega)
  obtain ⟨U8, hU8⟩ : ∃ x, x = U7 ++ Sv := ⟨_, rfl⟩
  have zU8 : U8.size = U7.size + Sv.size := by rw [hU8]; exact size_app _ _
  rw [← hU8] at a8 ⊢
  clear hU8
  rw [hb1] at a1
  rw [hb1] at a3
  rw [hb1] at a5
  rw [hb1] at a7
  clear zU8 zU7 zU6 zU5 zU4 zU3 zU2 zU1 zb hsl hb1 b1 zt zm zr zs zv
  have HBX : ∀ x : BW (w.heap.size + 1) (w.alloc (.cells #[.int .i64 (t : Int), .int .i64 (m : Int), .int .i64 (r : Int), .int .i64 (s : Int), .int .i64 (v : Int)] 23)), Hid (Below w.heap.size w x.w) := fun x => Lib.hid (HB0.out.trans (x.h.mono (Nat.le_succ _)))
  have HB1 : Hid (w.heap.size + 1 ≤ (w.alloc (.cells #[.int .i64 (t : Int), .int .i64 (m : Int), .int .i64 (r : Int), .int .i64 (s : Int), .int .i64 (v : Int)] 23)).heap.size) := Lib.hid (by simp)
  have ca0 : ∀ x : BW (w.heap.size + 1) (w.alloc (.cells #[.int .i64 (t : Int), .int .i64 (m : Int), .int .i64 (r : Int), .int .i64 (s : Int), .int .i64 (v : Int)] 23)), x.w.cell? ⟨w.heap.size, 0, none⟩ = some (.int .i64 (t : Int)) := fun x => (box5 x.h).1
  have ca1 : ∀ x : BW (w.heap.size + 1) (w.alloc (.cells #[.int .i64 (t : Int), .int .i64 (m : Int), .int .i64 (r : Int), .int .i64 (s : Int), .int .i64 (v : Int)] 23)), x.w.cell? ⟨w.heap.size, 1, none⟩ = some (.int .i64 (m : Int)) := fun x => (box5 x.h).2.1
  have ca2 : ∀ x : BW (w.heap.size + 1) (w.alloc (.cells #[.int .i64 (t : Int), .int .i64 (m : Int), .int .i64 (r : Int), .int .i64 (s : Int), .int .i64 (v : Int)] 23)), x.w.cell? ⟨w.heap.size, 2, none⟩ = some (.int .i64 (r : Int)) := fun x => (box5 x.h).2.2.1
  have ca3 : ∀ x : BW (w.heap.size + 1) (w.alloc (.cells #[.int .i64 (t : Int), .int .i64 (m : Int), .int .i64 (r : Int), .int .i64 (s : Int), .int .i64 (v : Int)] 23)), x.w.cell? ⟨w.heap.size, 3, none⟩ = some (.int .i64 (s : Int)) := fun x => (box5 x.h).2.2.2.1
  have ca4 : ∀ x : BW (w.heap.size + 1) (w.alloc (.cells #[.int .i64 (t : Int), .int .i64 (m : Int), .int .i64 (r : Int), .int .i64 (s : Int), .int .i64 (v : Int)] 23)), x.w.cell? ⟨w.heap.size, 4, none⟩ = some (.int .i64 (v : Int)) := fun x => (box5 x.h).2.2.2.2
  go_enter Tryd.func19, Tryd.ntmps19
  go_wp2_with fail
  refine (sIsState_any _ _ _ _ _ _).mono ?_
  rw [h]
  rintro e w1 ⟨rfl, hb⟩
  have hw1 : Below (w.heap.size + 1) (w.alloc (.cells #[.int .i64 (t : Int), .int .i64 (m : Int), .int .i64 (r : Int), .int .i64 (s : Int), .int .i64 (v : Int)] 23)) w1 := hb.mono (by simp)
  clear hb h
  go_wp2_with fail
  refine wp_region_bw (w.heap.size + 1) (w.alloc (.cells #[.int .i64 (t : Int), .int .i64 (m : Int), .int .i64 (r : Int), .int .i64 (s : Int), .int .i64 (v : Int)] 23)) hw1 (by kernel_rfl) (by kernel_rfl) ?_
  clear hw1
  repeat (first | go_big_quiet_step (first | (go_at_call 38; with_reducible exact bw_of HB1.out (Ct.out _)) | (go_at_call 38; with_reducible exact bw_of HB1.out (Cm.out _)) | (go_at_call 38; with_reducible exact bw_of HB1.out (Cr.out _)) | (go_at_call 38; with_reducible exact bw_of HB1.out (Cs.out _)) | (go_at_call 38; with_reducible exact bw_of HB1.out (Cv.out _)) | fail))
  refine wpQuiet_nil ?_
  rintro _ ⟨xw, rfl⟩
  go_wp2
  go_ret
  exact ⟨rfl, (HBX xw).out⟩
end Go.Proofs.YtkhmnkpdlodepaaDoor
