/- Contract: l01Split (a text cut at every place of one byte). -/
import Derived.Test.YtkhmnkpdlodepaaDoorStrs
import Derived.Test.YtkhmnkpdlodepaaDoorCutL
import Derived.Test.YtkhmnkpdlodepaaDoorLow
import Derived.Lib.Hide
import Derived.WalkKit
import Derived.Handy
import Derived.Deep.QuietTactic
import Derived.BigQuiet
import Derived.WalkSmall
import Derived.WalkSpells
namespace Go.Proofs.YtkhmnkpdlodepaaDoor
open Go.RowKit
set_option linter.unusedVariables false
set_option linter.unusedSimpArgs false

theorem infoS : (Tryd.prog.info? 9).map (fun i => (i.zero, i.size, i.bytes)) = some (some (.string ByteArray.empty), 1, 16) := by kernel_rfl
/-- A piece of a text. -/
def pieceS (s : ByteArray) (f k : Nat) : ByteArray := s.extract f k
theorem piece_data (s : ByteArray) (f k : Nat) : (pieceS s f k).data.toList = (s.data.toList.take k).drop f := by
  unfold pieceS
  rw [ByteArray.data_extract]
  simp [List.drop_take]
theorem cut_piece (s : ByteArray) (f k : Nat) (h1 : f ≤ k) (h2 : k ≤ s.size) : ∀ wx, (Instr.slice 9 (.string s) (some (.int .i64 (f : Int))) (some (.int .i64 (k : Int))) none).run Tryd.prog wx = .ok (.string (pieceS s f k)) wx := by
  intro wx
  have h := run_slice_string (P := Tryd.prog) wx 9 s .i64 .i64 (f : Int) (k : Int) Tryd.underlying9 (by omega) (by omega) (by omega)
  exact h
/-- What the walk of a cut knows at place k: the pieces that are done; the piece from f to k; the rest. -/
def CutAt (c : UInt8) (L : List UInt8) (ps : List ByteArray) (f k : Nat) : Prop :=
  (k ≤ L.length ∧ cutL c L = ps.map (·.data.toList) ++ glue ((L.take k).drop f) (cutL c (L.drop k))) ∨ (k = L.length + 1 ∧ cutL c L = ps.map (·.data.toList))
theorem cutAt_start (c : UInt8) (L : List UInt8) : CutAt c L [] 0 0 := .inl ⟨Nat.zero_le _, by simp [glue_nil (cutL_ne c L)]⟩
theorem cutAt_skip {c : UInt8} {L : List UInt8} {ps : List ByteArray} {f k : Nat} (h : CutAt c L ps f k) (hk : k < L.length) (hf : f ≤ k) (hb : L[k] ≠ c) : CutAt c L ps f (k + 1) := by
  rcases h with ⟨_, h⟩ | ⟨h, _⟩
  · refine .inl ⟨hk, ?_⟩
    rw [h, List.drop_eq_getElem_cons hk, cutL, if_neg hb, glue_glue _ _ _ (cutL_ne _ _), List.take_succ_eq_append_getElem hk, List.drop_append_of_le_length (by rw [List.length_take]; omega)]
  · omega
theorem cutAt_cut {c : UInt8} {s : ByteArray} {ps : List ByteArray} {f k : Nat} (h : CutAt c s.data.toList ps f k) (hk : k < s.data.toList.length) (hf : f ≤ k) (hb : s.data.toList[k] = c) : CutAt c s.data.toList (ps ++ [pieceS s f k]) (k + 1) (k + 1) := by
  rcases h with ⟨_, h⟩ | ⟨h, _⟩
  · refine .inl ⟨hk, ?_⟩
    rw [h, List.drop_eq_getElem_cons hk, cutL, if_pos hb]
    have e : ((s.data.toList.take (k + 1)).drop (k + 1)) = [] := by
      rw [List.drop_eq_nil_iff, List.length_take]; omega
    rw [e, glue_nil (cutL_ne _ _)]
    simp [glue, piece_data]
  · omega
theorem cutAt_end {c : UInt8} {s : ByteArray} {ps : List ByteArray} {f k : Nat} (h : CutAt c s.data.toList ps f k) (hk : k = s.data.toList.length) : CutAt c s.data.toList (ps ++ [pieceS s f k]) (k + 1) (k + 1) := by
  rcases h with ⟨_, h⟩ | ⟨h, _⟩
  · refine .inr ⟨by omega, ?_⟩
    rw [h]
    have e : s.data.toList.drop k = [] := by rw [List.drop_eq_nil_iff]; omega
    rw [e]
    simp [glue, cutL, piece_data]
  · omega
theorem cutAt_done {c : UInt8} {L : List UInt8} {ps : List ByteArray} {f k : Nat} (h : CutAt c L ps f k) (hk : L.length < k) : cutL c L = ps.map (·.data.toList) := by
  rcases h with ⟨h, _⟩ | ⟨_, h⟩
  · omega
  · exact h
set_option maxRecDepth 100000 in
set_option maxHeartbeats 2000000 in
theorem l01Split_any (s : ByteArray) (c : UInt8) (w : World) (hs : s.size ≤ 1048576) : Calls Tryd.prog 24 #[.string s, .int .u8 (c.toNat : Int)] w fun e w' => ∃ v ps, e = .returned v ∧ OwnS 9 w' w.heap.size v ps ∧ ps.map (·.data.toList) = cutL c s.data.toList ∧ ps.length ≤ 1048577 ∧ Below w.heap.size w w' := by
  have HB0 := Lib.hid ((Below.refl w.heap.size w).alloc (Nat.le_refl _) (.cells #[] 9))
  have HM := Lib.hid (OwnS.made 9 w w.heap.size (Nat.le_refl _))
  have hL : s.data.toList.length = s.size := Array.length_toList
  obtain ⟨i0, hi, hz0, hz1, hz8⟩ := info_parts infoS
  go_enter Tryd.func24, Tryd.ntmps24
  go_wp2_with fail
  go_loopw [5, 6, 7] (fun u fr i wr => ∃ (k f : Nat) (ps : List ByteArray), k ≤ s.size + 1 ∧ f ≤ k ∧ i = .int .i64 k ∧ fr = .int .i64 f ∧ OwnS 9 wr w.heap.size u ps ∧ ps.length ≤ k ∧ CutAt c s.data.toList ps f k ∧ Below w.heap.size w wr) (fun _ _ i _ => s.size + 1 - (intOf i).toNat)
  case atStart => exact ⟨0, 0, [], Nat.zero_le _, Nat.le_refl _, rfl, rfl, HM.out, Nat.zero_le _, cutAt_start _ _, HB0.out⟩
  case round =>
    obtain ⟨k, f, ps, hk, hf, rfl, rfl, hO, hpl, hcut, hb⟩ := hrel
    have HO := Lib.hid hO
    have HB := Lib.hid hb
    have HC := Lib.hid hcut
    have hzr := hb.size
    clear hO hb hcut
    by_cases hle : k ≤ s.size
    · by_cases hlt : k < s.size
      · obtain ⟨b, hb0⟩ : ∃ b : UInt8, b = s[k] := ⟨_, rfl⟩
        have hbl : s.data.toList[k]'(by omega) = b := by rw [hb0]; rfl
        have hix : ∀ wx, (Instr.index 9 (.string s) (.int .i64 (k : Int))).run Tryd.prog wx = .ok (.int .u8 (b.toNat : Int)) wx := by
          intro wx
          rw [run_index_string wx 9 s .i64 (k : Int) Tryd.underlying9, dif_pos (by omega), hb0]
          rfl
        have hne : ((k : Int) == (s.size : Int)) = false := by simp; omega
        by_cases hbc : b = c
        · have HS := Lib.hid (cutAt_cut HC.out (by omega) hf (hbl.trans hbc))
          have hsl := cut_piece s f k hf hle
          have hbe : ((b.toNat : Int) == (c.toNat : Int)) = true := by rw [hbc]; simp
          obtain ⟨p, hp⟩ : ∃ p, p = pieceS s f k := ⟨_, rfl⟩
          rw [← hp] at HS hsl
          clear hp hb0 hbl
          go_wp2_with (at_builtin; refine wpList_app1S Tryd.underlying46 hi hz0 hz1 hz8 rfl _ _ rfl wr p w.heap.size u5 ps rfl rfl HO.out (by omega) hzr ?_)
          intro v' w3 hO3 hb3
          have HO3 := Lib.hid hO3
          have HB3 := Lib.hid (HB.out.trans hb3)
          clear hO3 hb3
          go_wp2_with fail
          go_round
          case rel => exact ⟨k + 1, k + 1, ps ++ [p], by omega, Nat.le_refl _, by go_num, by go_num, HO3.out, by simp; omega, HS.out, HB3.out⟩
          case measure => simp [intOf]; omega
        · have HS := Lib.hid (cutAt_skip HC.out (by omega) hf (fun h => hbc (hbl.symm.trans h)))
          have hbe : ((b.toNat : Int) == (c.toNat : Int)) = false := by
            simp
            intro h
            exact hbc (UInt8.toNat_inj.1 (by omega))
          clear hb0 hbl
          go_wp2_with fail
          go_round
          case rel => exact ⟨k + 1, f, ps, by omega, by omega, by go_num, rfl, HO.out, by omega, HS.out, HB.out⟩
          case measure => simp [intOf]; omega
      · have hkk : k = s.size := by omega
        have HS := Lib.hid (cutAt_end HC.out (by omega))
        have hsl := cut_piece s f k hf hle
        obtain ⟨p, hp⟩ : ∃ p, p = pieceS s f k := ⟨_, rfl⟩
        rw [← hp] at HS hsl
        have hne : ((k : Int) == (s.size : Int)) = true := by simp; omega
        clear hp hkk
        go_wp2_with (at_builtin; refine wpList_app1S Tryd.underlying46 hi hz0 hz1 hz8 rfl _ _ rfl wr p w.heap.size u5 ps rfl rfl HO.out (by omega) hzr ?_)
        intro v' w3 hO3 hb3
        have HO3 := Lib.hid hO3
        have HB3 := Lib.hid (HB.out.trans hb3)
        clear hO3 hb3
        go_wp2_with fail
        go_round
        case rel => exact ⟨k + 1, k + 1, ps ++ [p], by omega, Nat.le_refl _, by go_num, by go_num, HO3.out, by simp; omega, HS.out, HB3.out⟩
        case measure => simp [intOf]; omega
    · have HS := Lib.hid (cutAt_done HC.out (by omega))
      go_wp2_with fail
      go_ret
      exact ⟨_, ps, rfl, HO.out, HS.out.symm, by omega, HB.out⟩
end Go.Proofs.YtkhmnkpdlodepaaDoor
