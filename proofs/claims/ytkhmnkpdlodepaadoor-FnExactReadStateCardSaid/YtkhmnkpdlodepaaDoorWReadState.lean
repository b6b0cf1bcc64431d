/- The walk of the law FnExactReadState: it returns true, and nothing that was there is written. -/
import Derived.Test.YtkhmnkpdlodepaaDoorRdSt
import Derived.Test.YtkhmnkpdlodepaaDoorEqSt
namespace Go.Proofs.YtkhmnkpdlodepaaDoor
open Go.RowKit
set_option linter.unusedVariables false

set_option maxRecDepth 100000 in
set_option maxHeartbeats 1000000 in
theorem fnExactReadState_walk {w : World} (hw : RdP w) (s : ByteArray) (_hm : s.size ≤ maxLen) : Calls Tryd.prog 3 #[.string s] w fun e w' => e = .returned (.bool true) ∧ Below w.heap.size w w' := by
  clear _hm
  by_cases hs : 1048576 < s.size
  · have hd : decide ((1048576 : Int) < (s.size : Int)) = true := decide_eq_true (by omega)
    go_enter Tryd.func3, Tryd.ntmps3
    go_wp2_with fail
    go_ret
    exact ⟨rfl, Below.refl _ _⟩
  have hd : decide ((1048576 : Int) < (s.size : Int)) = false := decide_eq_false (by omega)
  have hs2 : s.size ≤ 1048576 := by omega
  have HW := Lib.hid hw
  obtain ⟨⟨⟨t, m, ro, sl, me⟩, ok⟩, hR⟩ : ∃ R, R = rdSt s := ⟨_, rfl⟩
  have HR := Lib.hid hR
  clear hR hw
  go_enter Tryd.func3, Tryd.ntmps3
  go_wp2_with fail
  refine (sReadState_any s _ hs2).mono ?_
  rw [← HR.out]
  unfold St.val
  rintro e w1 ⟨rfl, hb1⟩
  have HB1 := Lib.hid hb1
  have HX := Lib.hid (Below.refl (w1.heap.size + 1) (w1.alloc (.cells #[.int .i64 t, .int .i64 m, .int .i64 ro, .int .i64 sl, .int .i64 me] 23)))
  have HA := Lib.hid (hb1.alloc hb1.size (.cells #[.int .i64 t, .int .i64 m, .int .i64 ro, .int .i64 sl, .int .i64 me] 23))
  clear hb1
  go_wp2_with fail
  refine (readState_any s _ hs2 (HW.out.below HA.out)).mono ?_
  rw [← HR.out]
  unfold St.val
  rintro e w2 ⟨rfl, hb2⟩
  replace HX := Lib.hid (HX.out.trans (hb2.mono (by simp)))
  have HB2 := Lib.hid (bthen HA.out hb2)
  have hz2 := hb2.size
  have hz2' : w1.heap.size + 1 ≤ w2.heap.size := by simpa using hz2
  replace HX := Lib.hid (HX.out.alloc hz2' (.cells #[.int .i64 t, .int .i64 m, .int .i64 ro, .int .i64 sl, .int .i64 me] 23))
  obtain ⟨c0, c1, c2, c3, c4⟩ := box5 HX.out
  have hne : (ok != ok) = false := by cases ok <;> rfl
  clear hb2 hz2
  go_wp2_with fail
  refine (eqState_self ⟨t, m, ro, sl, me⟩ _).mono ?_
  rintro e w3 ⟨rfl, hb3⟩
  have HB3 : Hid (Below w.heap.size w w3) := Lib.hid (bthen (HB2.out.alloc HB2.out.size _) hb3)
  clear hb3 c0 c1 c2 c3 c4
  go_wp2_with fail
  go_ret
  exact ⟨rfl, HB3.out⟩
end Go.Proofs.YtkhmnkpdlodepaaDoor
