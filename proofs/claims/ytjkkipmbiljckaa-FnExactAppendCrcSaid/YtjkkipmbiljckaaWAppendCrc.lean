/- The walk of the law AppendCrc: it returns true, and nothing that was there is written. -/
import Derived.Test.YtjkkipmbiljckaaCrcApp
import Derived.Test.YtjkkipmbiljckaaCopies
namespace Go.Proofs.Ytjkkipmbiljckaa
open Go.RowKit
set_option linter.unusedVariables false

set_option maxHeartbeats 1000000 in
theorem fnExactAppendCrc_walk {w : World} (a00 a01 : Int) (w00 : (Lit.int .i64 a00).wf = true) (w01 : (Lit.int .i64 a01).wf = true) (a1 : Int) (w1 : (Lit.int .i64 a1).wf = true) (a2 : Option Addr) (len2 cap2 : Nat) (z2 : List Int) (w2 : IsRow .i64 w a2 len2 cap2 z2) :
    Calls Try.prog 10 #[.agg #[.int .i64 a00, .int .i64 a01], .int .i64 a1, .slice a2 len2 cap2] w fun e w' => e = .returned (.bool true) ∧ Below w.heap.size w w' := by
  obtain ⟨hl2, hr2⟩ := w2.rd
  obtain ⟨xs2, hx2⟩ : ∃ xs, xs = z2.take len2 := ⟨_, rfl⟩
  rw [← hx2] at hl2 hr2
  clear hx2 w2
  subst hl2
  have HA2 := Lib.hid hr2
  clear hr2
  by_cases hbig2 : 1048576 < xs2.length
  · go_enter Try.func10, Try.ntmps10
    go_wp2
    go_ret
    exact ⟨rfl, by go_grown⟩
  have heqB := eqB_self
  have HBOX := Lib.hid ((Below.refl w.heap.size w).alloc (by simp) (.cells #[.int .i64 a00, .int .i64 a01] 23))
  go_enter Try.func10, Try.ntmps10
  go_wp2_with fail
  refine (toCrc_any _ _ _).mono ?_
  rintro e w1x ⟨rfl, hb1⟩
  have HBW := Lib.hid hb1
  obtain ⟨hc1, hf1⟩ := bcell HBW.out
  have hzb1 := HBW.out.size
  have hz1 := hb1.size
  clear hb1
  go_wp2_with fail
  refine (toInt64S_any _ xs2 _ ((HA2.out.below HBOX.out).below HBW.out) (by omega)).mono ?_
  rintro e w2x ⟨v2, rfl, hO2, hb2⟩
  replace HBW := Lib.hid (bthen HBW.out hb2)
  have HOs2 := Lib.hid hO2
  have HQs2 := Lib.hid (Own.between hO2)
  clear hO2
  clear hc1 hf1
  obtain ⟨hc2, hf2⟩ := bcell HBW.out
  have hzb2 := HBW.out.size
  have hz2 := hb2.size
  clear hb2
  go_wp2_with fail
  refine (sAppendCrc_any _ _ _ _ _ _ HOs2.out.rd).mono ?_
  rintro e w3x ⟨v3, rfl, hO3, hb3⟩
  replace HBW := Lib.hid (bthen HBW.out hb3)
  replace HOs2 := Lib.hid (HOs2.out.below hb3)
  have HOW := Lib.hid hO3
  have HQW := Lib.hid (Own.between hO3)
  clear hO3
  clear hc2 hf2
  obtain ⟨hc3, hf3⟩ := bcell HBW.out
  have hzb3 := HBW.out.size
  have hz3 := hb3.size
  clear hb3
  clear HOs2 HQs2
  go_wp2_with fail
  refine (toInt64S_any _ xs2 _ ((HA2.out.below HBOX.out).below HBW.out) (by omega)).mono ?_
  rintro e w4x ⟨v4, rfl, hO4, hb4⟩
  replace HBW := Lib.hid (bthen HBW.out hb4)
  replace HOW := Lib.hid (HOW.out.below hb4)
  have HOx2 := Lib.hid hO4
  have HQx2 := Lib.hid (Own.between hO4)
  clear hO4
  clear hc3 hf3
  obtain ⟨hc4, hf4⟩ := bcell HBW.out
  have hzb4 := HBW.out.size
  have hz4 := hb4.size
  clear hb4
  go_wp2_with fail
  refine (toCrc_any _ _ _).mono ?_
  rintro e w5x ⟨rfl, hb5⟩
  replace HBW := Lib.hid (bthen HBW.out hb5)
  replace HOW := Lib.hid (HOW.out.below hb5)
  replace HOx2 := Lib.hid (HOx2.out.below hb5)
  clear hc4 hf4
  obtain ⟨hc5, hf5⟩ := bcell HBW.out
  have hzb5 := HBW.out.size
  have hz5 := hb5.size
  clear hb5
  go_wp2_with fail
  refine (appendCrc_any _ _ _ _ _ _ HOx2.out.rd).mono ?_
  rintro e w6x ⟨v6, rfl, hO6, hb6⟩
  replace HBW := Lib.hid (bthen HBW.out hb6)
  replace HOW := Lib.hid (HOW.out.below hb6)
  replace HOx2 := Lib.hid (HOx2.out.below hb6)
  have HOG := Lib.hid hO6
  have HQG := Lib.hid (Own.between hO6)
  clear hO6
  clear hc5 hf5
  obtain ⟨hc6, hf6⟩ := bcell HBW.out
  have hzb6 := HBW.out.size
  have hz6 := hb6.size
  clear hb6
  go_wp2_with fail
  refine (eqInt64S_any _ _ _ _ _ HOG.out.rd HOW.out.rd).mono ?_
  rintro e w7x ⟨rfl, hb7⟩
  replace HBW := Lib.hid (bthen HBW.out hb7)
  replace HOW := Lib.hid (HOW.out.below hb7)
  replace HOx2 := Lib.hid (HOx2.out.below hb7)
  replace HOG := Lib.hid (HOG.out.below hb7)
  clear hc6 hf6
  obtain ⟨hc7, hf7⟩ := bcell HBW.out
  have hzb7 := HBW.out.size
  have hz7 := hb7.size
  clear hb7
  go_wp2_with fail
  refine (toInt64S_any _ xs2 _ ((HA2.out.below HBOX.out).below HBW.out) (by omega)).mono ?_
  rintro e w8x ⟨v8, rfl, hO8, hb8⟩
  replace HBW := Lib.hid (bthen HBW.out hb8)
  replace HOW := Lib.hid (HOW.out.below hb8)
  replace HOx2 := Lib.hid (HOx2.out.below hb8)
  replace HOG := Lib.hid (HOG.out.below hb8)
  have HOt2 := Lib.hid hO8
  have HQt2 := Lib.hid (Own.between hO8)
  clear hO8
  clear hc7 hf7
  obtain ⟨hc8, hf8⟩ := bcell HBW.out
  have hzb8 := HBW.out.size
  have hz8 := hb8.size
  clear hb8
  go_wp2_with fail
  refine (eqInt64S_any _ _ _ _ _ HOx2.out.rd HOt2.out.rd).mono ?_
  rintro e w9x ⟨rfl, hb9⟩
  replace HBW := Lib.hid (bthen HBW.out hb9)
  replace HOW := Lib.hid (HOW.out.below hb9)
  replace HOx2 := Lib.hid (HOx2.out.below hb9)
  replace HOG := Lib.hid (HOG.out.below hb9)
  replace HOt2 := Lib.hid (HOt2.out.below hb9)
  clear hc8 hf8
  obtain ⟨hc9, hf9⟩ := bcell HBW.out
  have hzb9 := HBW.out.size
  have hz9 := hb9.size
  clear hb9
  clear HOt2 HQt2
  go_wp2_with fail
  refine (markInt64S_any _ _ _ _ _ HOx2.out (by omega) (by omega) (by omega)).mono ?_
  rintro e w10x ⟨rfl, hO10, hg10⟩
  have hb10 := below_of_grown hg10 HBW.out.size (fun k hk => Nat.le_trans (by omega) (HQx2.out k hk).1)
  replace HBW := Lib.hid (HBW.out.trans hb10)
  replace HOW := Lib.hid (HOW.out.kept hg10 (Between.ne HQW.out HQx2.out (by omega)))
  replace HOG := Lib.hid (HOG.out.kept hg10 (Between.ne HQG.out HQx2.out (by omega)))
  replace HOx2 := Lib.hid hO10
  clear hc9 hf9
  obtain ⟨hc10, hf10⟩ := bcell HBW.out
  have hzb10 := HBW.out.size
  have hz10 := hg10.size
  clear hO10 hg10 hb10
  go_wp2_with fail
  refine (eqInt64S_any _ _ _ _ _ HOG.out.rd HOW.out.rd).mono ?_
  rintro e w11x ⟨rfl, hb11⟩
  replace HBW := Lib.hid (bthen HBW.out hb11)
  replace HOW := Lib.hid (HOW.out.below hb11)
  replace HOx2 := Lib.hid (HOx2.out.below hb11)
  replace HOG := Lib.hid (HOG.out.below hb11)
  clear hc10 hf10
  obtain ⟨hc11, hf11⟩ := bcell HBW.out
  have hzb11 := HBW.out.size
  have hz11 := hb11.size
  clear hb11
  go_wp2_with fail
  refine (markInt64S_any _ _ _ _ _ HOG.out (by omega) (by omega) (Nat.le_trans (appCrc_len _ _ _ _) (by decide))).mono ?_
  rintro e w12x ⟨rfl, hO12, hg12⟩
  have hb12 := below_of_grown hg12 HBW.out.size (fun k hk => Nat.le_trans (by omega) (HQG.out k hk).1)
  replace HBW := Lib.hid (HBW.out.trans hb12)
  replace HOW := Lib.hid (HOW.out.kept hg12 (Between.ne HQW.out HQG.out (by omega)))
  replace HOx2 := Lib.hid (HOx2.out.kept hg12 (Between.ne HQx2.out HQG.out (by omega)))
  replace HOG := Lib.hid hO12
  clear hc11 hf11
  obtain ⟨hc12, hf12⟩ := bcell HBW.out
  have hzb12 := HBW.out.size
  have hz12 := hg12.size
  clear hO12 hg12 hb12
  go_wp2_with fail
  refine (heldInt64S_any _ _ _ _ HOG.out.rd (by omega) (by omega) (Nat.le_trans (appCrc_len _ _ _ _) (by decide))).mono ?_
  rintro e wn ⟨rfl, rfl⟩
  go_wp2_with fail
  refine (toCrc_any _ _ _).mono ?_
  rintro e w14x ⟨rfl, hb14⟩
  replace HBW := Lib.hid (bthen HBW.out hb14)
  replace HOW := Lib.hid (HOW.out.below hb14)
  replace HOx2 := Lib.hid (HOx2.out.below hb14)
  replace HOG := Lib.hid (HOG.out.below hb14)
  clear hc12 hf12
  obtain ⟨hc14, hf14⟩ := bcell HBW.out
  have hzb14 := HBW.out.size
  have hz14 := hb14.size
  clear hb14
  go_wp2_with fail
  refine (toInt64S_any _ xs2 _ ((HA2.out.below HBOX.out).below HBW.out) (by omega)).mono ?_
  rintro e w15x ⟨v15, rfl, hO15, hb15⟩
  replace HBW := Lib.hid (bthen HBW.out hb15)
  replace HOW := Lib.hid (HOW.out.below hb15)
  replace HOx2 := Lib.hid (HOx2.out.below hb15)
  replace HOG := Lib.hid (HOG.out.below hb15)
  have HOh2 := Lib.hid hO15
  have HQh2 := Lib.hid (Own.between hO15)
  clear hO15
  clear hc14 hf14
  obtain ⟨hc15, hf15⟩ := bcell HBW.out
  have hzb15 := HBW.out.size
  have hz15 := hb15.size
  clear hb15
  go_wp2_with fail
  refine (appendCrc_any _ _ _ _ _ _ HOh2.out.rd).mono ?_
  rintro e w16x ⟨v16, rfl, hO16, hb16⟩
  replace HBW := Lib.hid (bthen HBW.out hb16)
  replace HOW := Lib.hid (HOW.out.below hb16)
  replace HOx2 := Lib.hid (HOx2.out.below hb16)
  replace HOG := Lib.hid (HOG.out.below hb16)
  replace HOh2 := Lib.hid (HOh2.out.below hb16)
  have HOH := Lib.hid hO16
  have HQH := Lib.hid (Own.between hO16)
  clear hO16
  clear hc15 hf15
  obtain ⟨hc16, hf16⟩ := bcell HBW.out
  have hzb16 := HBW.out.size
  have hz16 := hb16.size
  clear hb16
  go_wp2_with fail
  refine (eqInt64S_any _ _ _ _ _ HOH.out.rd HOW.out.rd).mono ?_
  rintro e w17x ⟨rfl, hb17⟩
  replace HBW := Lib.hid (bthen HBW.out hb17)
  replace HOW := Lib.hid (HOW.out.below hb17)
  replace HOx2 := Lib.hid (HOx2.out.below hb17)
  replace HOG := Lib.hid (HOG.out.below hb17)
  replace HOh2 := Lib.hid (HOh2.out.below hb17)
  replace HOH := Lib.hid (HOH.out.below hb17)
  clear hc16 hf16
  obtain ⟨hc17, hf17⟩ := bcell HBW.out
  have hzb17 := HBW.out.size
  have hz17 := hb17.size
  clear hb17
  go_wp2_with fail
  refine (heldInt64S_any _ _ _ _ HOG.out.rd (by omega) (by omega) (Nat.le_trans (appCrc_len _ _ _ _) (by decide))).mono ?_
  rintro e wn ⟨rfl, rfl⟩
  go_wp2_with fail
  go_ret
  exact ⟨rfl, (show Below w.heap.size w _ from (by go_grown)).trans (HBW.out.mono (by simp))⟩
end Go.Proofs.Ytjkkipmbiljckaa
