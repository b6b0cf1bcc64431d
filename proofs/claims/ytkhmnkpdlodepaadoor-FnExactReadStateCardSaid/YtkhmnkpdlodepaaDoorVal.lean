/- Contract: l01Value (a number of at most twelve digits). -/
import Derived.Test.YtkhmnkpdlodepaaDoorNumT
import Derived.Test.YtkhmnkpdlodepaaDoorDecB
import Derived.WalkSpells
namespace Go.Proofs.YtkhmnkpdlodepaaDoor
open Go.RowKit
set_option linter.unusedVariables false
set_option linter.unusedSimpArgs false

theorem okM_short {s : ByteArray} (h : s.size < 1 ∨ 12 < s.size) : okM s = none := by unfold okM; rw [if_pos h]
theorem okM_stop {s : ByteArray} {k : Nat} {b : UInt8} (hk : s.data.toList[k]? = some b) (hb : b.toNat < 48 ∨ 57 < b.toNat) : okM s = none := by
  unfold okM
  split
  · rfl
  · cases hd : Lib.decFrom 0 s.data.toList with
    | none => rfl
    | some n =>
      obtain ⟨d, h⟩ := Lib.digit_of_decFrom _ _ _ hd k b hk
      have := Lib.digitVal_eq h
      omega
theorem okM_end {s : ByteArray} {m : Nat} (h0 : ¬ s.size < 1) (h1 : ¬ 12 < s.size) (hd : Lib.decFrom 0 s.data.toList = some m) : okM s = if ((decS m).toList == s.toList) = true then some (m : Int) else none := by
  unfold okM
  rw [if_neg (by omega), hd]
theorem dec_bound {l : List UInt8} {k m : Nat} (h : Lib.decFrom 0 (l.take k) = some m) (hk : k ≤ 12) : m < 1000000000000 := by
  have hl := Lib.decFrom_lt _ _ _ h
  have hp : 10 ^ (l.take k).length ≤ 10 ^ 12 := Nat.pow_le_pow_right (by decide) (by rw [List.length_take]; omega)
  omega
theorem dec_step {l : List UInt8} {k m : Nat} {b : UInt8} (h : Lib.decFrom 0 (l.take k) = some m) (hb : l[k]? = some b) (h0 : 48 ≤ b.toNat) (h1 : b.toNat ≤ 57) : Lib.decFrom 0 (l.take (k + 1)) = some (m * 10 + (b.toNat - 48)) := by
  refine Lib.decFrom_take l k 0 m b _ h hb ?_
  unfold Lib.digitVal
  rw [if_pos ⟨h0, h1⟩]
/-- What l01Value hands back. -/
def ValRes (w : World) (r : Option Int) (e : Ending) (w' : World) : Prop := ∃ n : Int, e = .returned (.tuple #[.int .i64 n, .bool r.isSome]) ∧ (∀ v, r = some v → n = v) ∧ Below w.heap.size w w'
theorem valRes_none {w w' : World} {r : Option Int} (n : Int) (h : r = none) (hb : Below w.heap.size w w') : ValRes w r (.returned (.tuple #[.int .i64 n, .bool false])) w' := ⟨n, by rw [h]; rfl, fun v hv => (by rw [h] at hv; exact nomatch hv), hb⟩
theorem valRes_if {w w' : World} {r : Option Int} {b : Bool} (n : Int) (h : r = if b = true then some n else none) (hb : Below w.heap.size w w') : ValRes w r (.returned (.tuple #[.int .i64 n, .bool b])) w' := by
  cases b with
  | false => exact valRes_none n (by rw [h]; rfl) hb
  | true => exact ⟨n, by rw [h]; rfl, fun v hv => by rw [h] at hv; exact Option.some.inj hv, hb⟩
set_option maxRecDepth 100000 in
set_option maxHeartbeats 2000000 in
theorem l01Value_any (s : ByteArray) (w : World) : Calls Tryd.prog 42 #[.string s] w (ValRes w (okM s)) := by
  have hL : s.data.toList.length = s.size := Array.length_toList
  by_cases h0 : s.size < 1
  · have HS := Lib.hid (okM_short (.inl h0))
    have hd0 : decide ((s.size : Int) < 1) = true := decide_eq_true (by omega)
    go_enter Tryd.func42, Tryd.ntmps42
    go_wp2_with fail
    go_ret2
    exact valRes_none 0 HS.out (Below.refl _ _)
  have hd0 : decide ((s.size : Int) < 1) = false := decide_eq_false (by omega)
  by_cases h12 : 12 < s.size
  · have HS := Lib.hid (okM_short (.inr h12))
    have hd1 : decide ((12 : Int) < (s.size : Int)) = true := decide_eq_true (by omega)
    go_enter Tryd.func42, Tryd.ntmps42
    go_wp2_with fail
    go_ret2
    exact valRes_none 0 HS.out (Below.refl _ _)
  have hd1 : decide ((12 : Int) < (s.size : Int)) = false := decide_eq_false (by omega)
  go_enter Tryd.func42, Tryd.ntmps42
  go_wp2_with fail
  go_loopw [4, 5] (fun u i wr => ∃ (k m : Nat), k ≤ s.size ∧ i = .int .i64 k ∧ u = .int .i64 m ∧ Lib.decFrom 0 (s.data.toList.take k) = some m ∧ Below w.heap.size w wr) (fun _ i _ => s.size - (intOf i).toNat)
  case atStart => exact ⟨0, 0, Nat.zero_le _, rfl, rfl, rfl, Below.refl _ _⟩
  case round =>
    obtain ⟨k, m, hk, rfl, rfl, hd, hb⟩ := hrel
    have HB := Lib.hid hb
    have HD := Lib.hid hd
    have hm := dec_bound hd (by omega)
    have hzr := hb.size
    clear hd hb
    by_cases hlt : k < s.size
    · obtain ⟨b, hb0⟩ : ∃ b : UInt8, b = s[k] := ⟨_, rfl⟩
      have hbl : s.data.toList[k]? = some b := by rw [hb0, List.getElem?_eq_getElem (by omega)]; rfl
      have hix : ∀ wx, (Instr.index 9 (.string s) (.int .i64 (k : Int))).run Tryd.prog wx = .ok (.int .u8 (b.toNat : Int)) wx := by
        intro wx
        rw [run_index_string wx 9 s .i64 (k : Int) Tryd.underlying9, dif_pos (by omega), hb0]
        rfl
      obtain ⟨z, hz⟩ : ∃ z, z = b.toNat := ⟨_, rfl⟩
      rw [← hz] at hix
      by_cases hlo : z < 48
      · have HS := Lib.hid (okM_stop hbl (.inl (by omega)))
        have hc0 : decide ((z : Int) < 48) = true := decide_eq_true (by omega)
        clear hb0 hbl
        go_wp2_with fail
        go_ret2
        exact valRes_none 0 HS.out HB.out
      have hc0 : decide ((z : Int) < 48) = false := decide_eq_false (by omega)
      by_cases hhi : 57 < z
      · have HS := Lib.hid (okM_stop hbl (.inr (by omega)))
        have hc1 : decide ((57 : Int) < (z : Int)) = true := decide_eq_true (by omega)
        clear hb0 hbl
        go_wp2_with fail
        go_ret2
        exact valRes_none 0 HS.out HB.out
      have hc1 : decide ((57 : Int) < (z : Int)) = false := decide_eq_false (by omega)
      have HS := Lib.hid (dec_step HD.out hbl (by omega) (by omega))
      rw [← hz] at HS
      have hw1 : IntKind.u8.wrap ((z : Int) - 48) = ((z - 48 : Nat) : Int) := by simp [IntKind.wrap, IntKind.bits, IntKind.signed]; omega
      have hw2 : IntKind.i64.wrap (10 * (m : Int)) = ((m * 10 : Nat) : Int) := by rw [IntWalk.i64_in _ (by omega)]; omega
      have hw3 : IntKind.i64.wrap (((m * 10 : Nat) : Int) + ((z - 48 : Nat) : Int)) = ((m * 10 + (z - 48) : Nat) : Int) := by rw [IntWalk.i64_in _ (by omega)]; omega
      clear hb0 hbl
      go_wp2_with fail
      go_round
      case rel => exact ⟨k + 1, m * 10 + (z - 48), by omega, by go_num, by go_num, HS.out, HB.out⟩
      case measure => simp [intOf]; omega
    · have hkk : k = s.size := by omega
      have hfull : Lib.decFrom 0 s.data.toList = some m := by
        have := HD.out
        rwa [List.take_of_length_le (by omega)] at this
      have HS := Lib.hid (okM_end h0 h12 hfull)
      obtain ⟨q, hq⟩ : ∃ q, q = ((decS m).toList == s.toList) := ⟨_, rfl⟩
      rw [← hq] at HS
      have hbq : ((decS m).toList == s.toList) = q := hq.symm
      clear hfull hq
      go_wp2_with fail
      refine (l01Dec_12 m wr (by omega)).mono ?_
      rintro e w1 ⟨rfl, hb1⟩
      have HB1 := Lib.hid (bthen HB.out hb1)
      clear hb1
      go_wp2_with fail
      go_ret2
      exact valRes_if (m : Int) HS.out HB1.out
end Go.Proofs.YtkhmnkpdlodepaaDoor
