/- Contracts: ReadBits (program and reference). -/
import Derived.Test.YtmmgpgmjphjgnaaLists
import Derived.Test.YtmmgpgmjphjgnaaApps
namespace Go.Proofs.Ytmmgpgmjphjgnaa
open Go.RowKit
set_option linter.unusedVariables false
set_option linter.unusedSimpArgs false

theorem infoR : (Try.prog.info? 2).map (fun i => (i.zero, i.size, i.bytes)) = some (some (.int .i64 0), 1, 8) := by kernel_rfl
/-- The numbers of a text's bytes, less 48. -/
def strL (l : List UInt8) : List Int := l.map fun c => (c.toNat : Int) - 48
theorem strL_snoc (l : List UInt8) (c : UInt8) : strL (l ++ [c]) = strL l ++ [(c.toNat : Int) - 48] := by simp [strL]
theorem length_strL (l : List UInt8) : (strL l).length = l.length := by simp [strL]
theorem take_byte (s : ByteArray) (k : Nat) (h : k < s.size) : s.data.toList.take (k + 1) = s.data.toList.take k ++ [s[k]] := by
  rw [List.take_succ_eq_append_getElem (by simpa using h)]; rfl
/-- ReadBits' answer. -/
def readC (X : List Int) : List Int × Bool := if isBitsB X = true then (X, true) else ([], false)
def readB (s : ByteArray) : List Int × Bool := readC (strL s.data.toList)
theorem readB_len (s : ByteArray) : (readB s).1.length ≤ 16384 := by
  unfold readB readC
  split
  · rename_i h
    have := (isBitsB_yes h).1
    simp only
    omega
  · simp
/-- What a call that makes a list and says whether it could hands back. -/
def OwnResB (E : TypeId) (w : World) (xs : List Int) (ok : Bool) (e : Ending) (w' : World) : Prop := ∃ v, e = .returned (.tuple #[v, .bool ok]) ∧ Own E w' w.heap.size v xs ∧ Below w.heap.size w w'
set_option maxHeartbeats 1000000 in
theorem readBits_any (s : ByteArray) (w : World) (hs : s.size ≤ 1048576) : Calls Try.prog 11 #[.string s] w (OwnResB 2 w (readB s).1 (readB s).2) := by
  obtain ⟨i0, hi, hz0, hz1, hz2⟩ := info_parts infoR
  obtain ⟨X, hX⟩ : ∃ X, X = strL s.data.toList := ⟨_, rfl⟩
  have HX := Lib.hid hX
  have hf : readB s = readC X := by unfold readB; rw [← hX]
  rw [hf]; clear hf hX
  have HM := Lib.hid (Own.made 2 w w.heap.size (Nat.le_refl _))
  have HBM := Lib.hid ((Below.refl w.heap.size w).alloc (Nat.le_refl _) (.cells #[] 2))
  go_enter Try.func11, Try.ntmps11
  go_wp2
  go_loopw [4, 9] (fun u i wr => ∃ (k : Nat) (v0 : Value), k ≤ s.size ∧ v0 = u ∧ i = .int .i64 k ∧ Own 2 wr w.heap.size v0 (strL (s.data.toList.take k)) ∧ Below w.heap.size w wr) (fun _ i _ => s.size - (intOf i).toNat)
  case atStart => exact ⟨0, _, Nat.zero_le _, rfl, rfl, HM.out, HBM.out⟩
  case round =>
    obtain ⟨k, v0, hk, rfl, rfl, hO, hb⟩ := hrel
    have hsz := hb.size
    have HO := Lib.hid hO
    have HB := Lib.hid hb
    by_cases hlt : k < s.size
    · have HS := Lib.hid (show strL (s.data.toList.take (k + 1)) = strL (s.data.toList.take k) ++ [(s[k].toNat : Int) - 48] by rw [take_byte s k hlt, strL_snoc])
      have HLN := Lib.hid (show (strL (s.data.toList.take k)).length ≤ 1099511627776 by
        rw [length_strL, List.length_take]; have := Nat.min_le_left k s.data.toList.length; omega)
      have hx2 : s[k].toNat < 256 := s[k].toNat_lt
      clear hO hb
      go_wp2_with (at_builtin; refine wpList_app1 Try.underlying24 hi hz0 hz1 hz2 rfl _ _ rfl wr ((s[k].toNat : Int) - 48) w.heap.size v0 (strL (s.data.toList.take k)) rfl rfl HO.out HLN.out (by omega) ?_)
      intro v' w1 hO' hb' _
      rw [← HS.out] at hO'
      have HO3 := Lib.hid hO'
      have HB3 := Lib.hid (HB.out.trans hb')
      clear hO' hb'
      go_wp2
      go_roundw
      case rel => exact ⟨k + 1, v', by omega, rfl, by go_num, HO3.out, HB3.out⟩
      case measure => simp [intOf]; omega
    · have : k = s.size := by omega
      subst this
      have e : s.data.toList.take s.size = s.data.toList := List.take_of_length_le (by simp)
      rw [e, ← HX.out] at hO
      have HO2 := Lib.hid hO
      clear hO hb e HO
      cases h1 : isBitsB X
      all_goals
        have H1 := Lib.hid h1
        clear h1
        go_wp2_with fail
        refine (isBits_any _ X _ HO2.out.rd).mono ?_
        rw [H1.out]
        rintro e w' ⟨rfl, rfl⟩
        go_wp2_with fail
        go_ret2
        unfold readC
        rw [H1.out]
        first | exact ⟨_, rfl, HO2.out, HB.out⟩ | exact ⟨_, rfl, Own.nil _ _ _, HB.out⟩
theorem byte_bit (n : Nat) (h : inB ((n : Int) - 48) 0 1 = true) : n = 48 ∨ n = 49 := by
  have := inB_yes h
  omega
theorem readC_bad {l : List UInt8} (k : Nat) (hk : k < l.length) (h : inB ((l[k].toNat : Int) - 48) 0 1 = false) : readC (strL l) = ([], false) := by
  have : isBitsB (strL l) = false := by
    cases e : isBitsB (strL l)
    · rfl
    · have h2 := allIn_at (isBitsB_yes e).2 k (by rw [length_strL]; exact hk)
      have e2 : (strL l).getD k 0 = (l[k].toNat : Int) - 48 := by simp [strL, List.getD, hk]
      rw [e2] at h2
      rw [inB_mk h2] at h
      cases h
  simp [readC, this]
set_option maxHeartbeats 1000000 in
theorem sReadBits_any (s : ByteArray) (w : World) (hs : s.size ≤ 1048576) : Calls Try.prog 13 #[.string s] w (OwnResB 2 w (readB s).1 (readB s).2) := by
  obtain ⟨i0, hi, hz0, hz1, hz2⟩ := info_parts infoR
  by_cases hbig : 8192 < s.size
  · have hf : readB s = ([], false) := by
      unfold readB readC
      rw [if_neg]
      intro e
      have := (isBitsB_yes e).1
      rw [length_strL] at this
      simp at this
      omega
    rw [hf]; clear hf
    go_enter Try.func13, Try.ntmps13
    go_wp2
    go_ret2
    exact ⟨_, rfl, Own.nil _ _ _, Below.refl _ _⟩
  have HM := Lib.hid (Own.made 2 w w.heap.size (Nat.le_refl _))
  have HBM := Lib.hid ((Below.refl w.heap.size w).alloc (Nat.le_refl _) (.cells #[] 2))
  go_enter Try.func13, Try.ntmps13
  go_wp2
  go_loopw [4, 5] (fun u i wr => ∃ (k : Nat) (v0 : Value), k ≤ s.size ∧ v0 = u ∧ i = .int .i64 k ∧ allIn (strL (s.data.toList.take k)) 0 1 = true ∧ Own 2 wr w.heap.size v0 (strL (s.data.toList.take k)) ∧ Below w.heap.size w wr) (fun _ i _ => s.size - (intOf i).toNat)
  case atStart => exact ⟨0, _, Nat.zero_le _, rfl, rfl, rfl, HM.out, HBM.out⟩
  case round =>
    obtain ⟨k, v0, hk, rfl, rfl, hv, hO, hb⟩ := hrel
    have hsz := hb.size
    have HO := Lib.hid hO
    have HB := Lib.hid hb
    have HV := Lib.hid hv
    clear hv
    by_cases hlt : k < s.size
    · have hsn : strL (s.data.toList.take (k + 1)) = strL (s.data.toList.take k) ++ [(s[k].toNat : Int) - 48] := by rw [take_byte s k hlt, strL_snoc]
      have HS := Lib.hid hsn
      have HLN := Lib.hid (show (strL (s.data.toList.take k)).length ≤ 1099511627776 by
        rw [length_strL, List.length_take]; have := Nat.min_le_left k s.data.toList.length; omega)
      have hx2 : s[k].toNat < 256 := s[k].toNat_lt
      clear hO hb hsn
      cases h1 : inB ((s[k].toNat : Int) - 48) 0 1
      · have HF := Lib.hid (show readB s = ([], false) from readC_bad (l := s.data.toList) k (by simpa using hlt) (by show inB ((s[k].toNat : Int) - 48) 0 1 = false; exact h1))
        have hn := inB_no h1
        have e1 : ((s[k].toNat : Int) != 48) = true := by simp; omega
        have e2 : ((s[k].toNat : Int) != 49) = true := by simp; omega
        clear h1
        go_wp2
        go_ret2
        exact ⟨.slice none 0 0, by rw [HF.out]; rfl, by rw [HF.out]; exact Own.nil _ _ _, HB.out⟩
      · have hy := byte_bit _ h1
        have HIN := Lib.hid h1
        have hu1 : IntKind.u8.wrap ((s[k].toNat : Int) - 48) = (s[k].toNat : Int) - 48 := IntWalk.u8_in _ (by omega)
        clear h1
        rcases hy with hy | hy
        · have e1 : ((s[k].toNat : Int) != 48) = false := by simp; omega
          have hk1 : 48 ≤ (s[k].toNat : Int) := by omega
          have hk2 : (s[k].toNat : Int) ≤ 49 := by omega
          clear hy
          go_wp2_with (at_builtin; refine wpList_app1 Try.underlying24 hi hz0 hz1 hz2 rfl _ _ rfl wr ((s[k].toNat : Int) - 48) w.heap.size v0 (strL (s.data.toList.take k)) rfl rfl HO.out HLN.out (by omega) ?_)
          intro v' w1 hO' hb' _
          rw [← HS.out] at hO'
          have HO3 := Lib.hid hO'
          have HB3 := Lib.hid (HB.out.trans hb')
          clear hO' hb'
          go_wp2
          go_roundw
          case rel => exact ⟨k + 1, v', by omega, rfl, by go_num, by rw [HS.out, allIn_snoc, HV.out, HIN.out]; rfl, HO3.out, HB3.out⟩
          case measure => simp [intOf]; omega
        · have e1 : ((s[k].toNat : Int) != 48) = true := by simp; omega
          have e2 : ((s[k].toNat : Int) != 49) = false := by simp; omega
          have hk1 : 48 ≤ (s[k].toNat : Int) := by omega
          have hk2 : (s[k].toNat : Int) ≤ 49 := by omega
          clear hy
          go_wp2_with (at_builtin; refine wpList_app1 Try.underlying24 hi hz0 hz1 hz2 rfl _ _ rfl wr ((s[k].toNat : Int) - 48) w.heap.size v0 (strL (s.data.toList.take k)) rfl rfl HO.out HLN.out (by omega) ?_)
          intro v' w1 hO' hb' _
          rw [← HS.out] at hO'
          have HO3 := Lib.hid hO'
          have HB3 := Lib.hid (HB.out.trans hb')
          clear hO' hb'
          go_wp2
          go_roundw
          case rel => exact ⟨k + 1, v', by omega, rfl, by go_num, by rw [HS.out, allIn_snoc, HV.out, HIN.out]; rfl, HO3.out, HB3.out⟩
          case measure => simp [intOf]; omega
    · have : k = s.size := by omega
      subst this
      have e : s.data.toList.take s.size = s.data.toList := List.take_of_length_le (by simp)
      have hv := HV.out
      rw [e] at hO hv
      have hf : readB s = (strL s.data.toList, true) := by
        unfold readB readC
        rw [if_pos]
        exact isBitsB_mk (by rw [length_strL]; simp; omega) hv
      have HF := Lib.hid hf
      have HO2 := Lib.hid hO
      clear hO hb e HO hv hf
      go_wp2
      go_ret2
      exact ⟨v0, by rw [HF.out]; rfl, by rw [HF.out]; exact HO2.out, HB.out⟩
end Go.Proofs.Ytmmgpgmjphjgnaa
