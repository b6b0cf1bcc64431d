/- Contract: number (strconv.ParseInt, and the text again). -/
import Derived.Test.YtkhmnkpdlodepaaDoorDec
import Derived.Test.YtkhmnkpdlodepaaDoorShelfP
import Derived.Lib.AtoiBound
import Derived.Lib.ParseIntBTie
namespace Go.Proofs.YtkhmnkpdlodepaaDoor
open Go.RowKit
set_option linter.unusedVariables false
set_option linter.unusedSimpArgs false

/-- An integer's text. -/
def itoaS (n : Int) : ByteArray := ⟨(Lib.itoa n).toArray⟩
/-- The number that a text is, as the program reads it. -/
def okN (s : ByteArray) : Option Int := match Lib.parseIntB 64 s.data.toList with
  | .ok v => if (itoaS v).toList == s.toList then some v else none
  | _ => none
/-- The two sentinels lie as the program's text lays them. -/
def SentP (w : World) : Prop := (∃ tp p, w.var? Tryd.prog "strconv.ErrSyntax" = some #[.iface tp p]) ∧ ∃ tp p, w.var? Tryd.prog "strconv.ErrRange" = some #[.iface tp p]
theorem var_below {w w' : World} {name : String} {cs : Array Value} (h : w.var? Tryd.prog name = some cs) (hb : Below w.heap.size w w') : w'.var? Tryd.prog name = some cs := by
  unfold World.var? at *
  cases hg : Tryd.prog.globalNamed name with
  | none => simp [hg] at h
  | some g =>
    simp only [hg, Option.bind_some] at h ⊢
    have hlt : g < w.heap.size := by
      rcases Nat.lt_or_ge g w.heap.size with h' | h'
      · exact h'
      · rw [Array.getElem?_eq_none h'] at h; simp at h
    rw [hb.block g hlt]
    exact h
theorem SentP.below {w w' : World} (h : SentP w) (hb : Below w.heap.size w w') : SentP w' := by
  obtain ⟨⟨tp, p, h1⟩, tp2, p2, h2⟩ := h
  exact ⟨⟨tp, p, var_below h1 hb⟩, tp2, p2, var_below h2 hb⟩
set_option maxHeartbeats 400000 in
theorem text_all (n : Int) (w : World) (h0 : -9223372036854775808 ≤ n) (h1 : n ≤ 9223372036854775807) (ht : TabP w) : Calls Tryd.prog 36 #[.int .i64 n] w fun e w' => e = .returned (.string (itoaS n)) ∧ Below w.heap.size w w' := by
  have HT := Lib.hid ht
  clear ht
  go_enter Tryd.func36, Tryd.ntmps36
  go_wp2_with fail
  refine (Tryd.strconv_FormatInt_10 n h0 h1 w HT.out).mono ?_
  rintro e w' ⟨rfl, k, os, rfl⟩
  go_wp2_with fail
  go_ret
  exact ⟨rfl, Lib.below_grow _ w (Nat.le_refl _) _ _⟩
set_option maxRecDepth 100000 in
set_option maxHeartbeats 1000000 in
theorem number_any (s : ByteArray) (w : World) (hs : s.size ≤ 281474976710656) (ht : TabP w) (hp : SentP w) :
    Calls Tryd.prog 44 #[.string s] w fun e w' => ∃ n : Int, e = .returned (.tuple #[.int .i64 n, .bool (okN s).isSome]) ∧ (∀ v, okN s = some v → n = v) ∧ Below w.heap.size w w' := by
  obtain ⟨⟨tp, p, hv1⟩, tp2, p2, hv2⟩ := hp
  have HV1 := Lib.hid hv1
  have HV2 := Lib.hid hv2
  have HT := Lib.hid ht
  clear hv1 hv2 ht
  by_cases hok : ∃ v, Lib.parseIntB 64 s.data.toList = .ok v
  rotate_left
  · have hno : ∀ v, Lib.parseIntB 64 s.data.toList ≠ .ok v := fun v h => hok ⟨v, h⟩
    have e : okN s = none := by
      unfold okN
      split
      · rename_i v h; exact absurd h (hno v)
      · rfl
    rw [e]
    have HN := Lib.hid hno
    clear hok hno e
    go_enter Tryd.func44, Tryd.ntmps44
    go_wp2_with fail
    refine (Tryd.parse_bad s hs HN.out tp tp2 p p2 w HV1.out HV2.out).mono ?_
    rintro e w1 ⟨x, N, rfl, hb⟩
    have HB := Lib.hid hb
    clear hb
    go_wp2_with fail
    go_ret2
    exact ⟨x, rfl, (fun v h => nomatch h), HB.out⟩
  · obtain ⟨v, hv⟩ := hok
    obtain ⟨b, hb0⟩ : ∃ b, b = ((itoaS v).toList == s.toList) := ⟨_, rfl⟩
    have e : okN s = if b = true then some v else none := by unfold okN; rw [hv, hb0]
    obtain ⟨hl, hu⟩ := Lib.parseIntB_bounds hv
    have e64 : ((2 ^ (64 - 1) : Nat) : Int) = 9223372036854775808 := by decide
    rw [e64] at hl hu
    have h0 : -9223372036854775808 ≤ v := hl
    have h1 : v ≤ 9223372036854775807 := by omega
    clear e64
    have HE := Lib.hid e
    have HV := Lib.hid hv
    have HBB := Lib.hid hb0
    have hbs : (okN s).isSome = b := by rw [e]; cases b <;> rfl
    rw [hbs]
    have hbq : ((itoaS v).toList == s.toList) = b := hb0.symm
    clear e hv hb0 hl hu hbs
    go_enter Tryd.func44, Tryd.ntmps44
    go_wp2_with fail
    refine (Tryd.strconv_ParseInt_10_at64_ok s (by omega) v HV.out w).mono ?_
    rintro e w1 ⟨rfl, hw⟩
    have HB : Hid (Below w.heap.size w w1) := Lib.hid (by
      rcases hw with rfl | ⟨t, rfl⟩
      · exact Below.refl _ _
      · exact Lib.bytesWorld_below w 5 t)
    clear hw
    go_wp2_with fail
    refine (text_all v w1 h0 h1 (HT.out.below HB.out)).mono ?_
    rintro e w2 ⟨rfl, hb2⟩
    replace HB := Lib.hid (bthen HB.out hb2)
    clear hb2
    go_wp2_with fail
    go_ret2
    refine ⟨v, rfl, fun u h => ?_, HB.out⟩
    rw [HE.out] at h
    split at h
    · exact Option.some.inj h
    · cases h
end Go.Proofs.YtkhmnkpdlodepaaDoor
