/- Contract: numbersIn (strings.Split and number). -/
import Derived.Test.YtkhmnkpdlodepaaDoorNumR
import Derived.Test.YtkhmnkpdlodepaaDoorApps
import Derived.Test.YtkhmnkpdlodepaaDoorPlainL
import Derived.Test.YtkhmnkpdlodepaaDoorApL
import Derived.Test.YtkhmnkpdlodepaaDoorLow
import Derived.Lib.SplitLaws
namespace Go.Proofs.YtkhmnkpdlodepaaDoor
open Go.RowKit
set_option linter.unusedVariables false
set_option linter.unusedSimpArgs false

/-- The numbers that texts are, as the program reads them. -/
def okNs : List ByteArray → Option (List Int)
  | [] => some []
  | p :: ps => match okN p, okNs ps with
    | some v, some vs => some (v :: vs)
    | _, _ => none
/-- What numbersIn hands back. -/
def NumsRes (w : World) (r : Option (List Int)) (e : Ending) (w' : World) : Prop := ∃ v, e = .returned (.tuple #[v, .bool r.isSome]) ∧ (∀ ns, r = some ns → Own 2 w' w.heap.size v ns) ∧ Below w.heap.size w w'
theorem okNs_snoc (ps : List ByteArray) (p : ByteArray) : okNs (ps ++ [p]) = match okNs ps, okN p with
    | some vs, some v => some (vs ++ [v])
    | _, _ => none := by
  induction ps with
  | nil => simp only [List.nil_append, okNs]; cases okN p <;> rfl
  | cons q ps ih =>
    simp only [List.cons_append, okNs, ih]
    cases okN q <;> cases okNs ps <;> cases okN p <;> rfl
theorem okNs_none (ps qs : List ByteArray) (h : okNs ps = none) : okNs (ps ++ qs) = none := by
  induction ps with
  | nil => cases h
  | cons q ps ih =>
    simp only [List.cons_append, okNs] at h ⊢
    cases hq : okN q with
    | none => rfl
    | some v =>
      rw [hq] at h
      cases hp : okNs ps with
      | none => rw [ih hp]
      | some vs => rw [hp] at h; cases h
theorem okNs_len : ∀ (ps : List ByteArray) (ns : List Int), okNs ps = some ns → ns.length = ps.length := by
  intro ps
  induction ps with
  | nil => intro ns h; cases h; rfl
  | cons q ps ih =>
    intro ns h
    simp only [okNs] at h
    cases hq : okN q with
    | none => rw [hq] at h; cases h
    | some v =>
      cases hp : okNs ps with
      | none => rw [hq, hp] at h; cases h
      | some vs =>
        rw [hq, hp] at h
        cases h
        simp [ih vs hp]
/-- What the walk of ReadState needs of the world: the table, the sentinels, the variable of internal/bytealg. -/
def RdP (w : World) : Prop := TabP w ∧ SentP w ∧ ∃ m : Int, w.cell? ⟨1, 0, none⟩ = some (.int .i64 m)
theorem RdP.below {w w' : World} (h : RdP w) (hb : Below w.heap.size w w') : RdP w' := by
  obtain ⟨h1, h2, m, h3⟩ := h
  exact ⟨h1.below hb, h2.below hb, m, (hb.cell (p := ⟨1, 0, none⟩) (World.block_lt_of_cell? w _ h3)).trans h3⟩
/-- The parts of a text. -/
def partsS (s sep : ByteArray) : List ByteArray := Lib.splitB sep 0 (Lib.countB s sep) s
theorem splitB_size (sep : ByteArray) (j : Nat) : ∀ (k : Nat) (s : ByteArray), ((Lib.splitB sep 0 k s).getD j ⟨#[]⟩).size ≤ s.size := by
  intro k
  induction k generalizing j with
  | zero =>
    intro s
    rw [Lib.splitB_zero]
    cases j with
    | zero => simp [List.getD]
    | succ j => exact Nat.zero_le _
  | succ k ih =>
    intro s
    rcases Lib.indexB_cases s sep with hix | ⟨i, hix, _⟩
    · rw [Lib.splitB_miss sep 0 _ s hix]
      cases j with
      | zero => simp [List.getD]
      | succ j => exact Nat.zero_le _
    · rw [Lib.splitB_hit sep 0 k s i hix]
      cases j with
      | zero =>
        have : (s.extract 0 (i + 0)).size ≤ s.size := by rw [ByteArray.size_extract]; omega
        simpa [List.getD] using this
      | succ j =>
        have h := ih j (s.extract (i + sep.size) s.size)
        have : (s.extract (i + sep.size) s.size).size ≤ s.size := by rw [ByteArray.size_extract]; omega
        have h2 := Nat.le_trans h this
        simpa [List.getD] using h2
set_option maxRecDepth 100000 in
set_option maxHeartbeats 2000000 in
theorem numbersIn_any (s sep : ByteArray) (w : World) (hs : s.size ≤ 1048576) (h1 : 1 ≤ sep.size) (hw : RdP w) : Calls Tryd.prog 25 #[.string s, .string sep] w (NumsRes w (okNs (partsS s sep))) := by
  have HB0 := Lib.hid ((Below.refl w.heap.size w).alloc (Nat.le_refl _) (.cells #[] 2))
  have HM := Lib.hid (Own.made 2 w w.heap.size (Nat.le_refl _))
  have HRW := Lib.hid hw
  have HW := Lib.hid (hw.below HB0.out)
  obtain ⟨_, _, m, hm⟩ := HW.out
  have HMM := Lib.hid hm
  clear hm hw
  obtain ⟨ps, hps⟩ : ∃ ps, ps = partsS s sep := ⟨_, rfl⟩
  rw [← hps]
  have HPS := Lib.hid hps
  clear hps
  go_enter Tryd.func25, Tryd.ntmps25
  go_wp2_with fail
  refine (Tryd.strings_Split s sep m _ (by omega) HMM.out h1).mono ?_
  rintro e w1 ⟨rfl, rfl⟩
  have hps2 : Lib.splitB sep 0 (Lib.countB s sep) s = ps := HPS.out.symm
  rw [hps2]
  obtain ⟨c, hc0⟩ : ∃ c, c = Lib.countB s sep + 1 := ⟨_, rfl⟩
  rw [← hc0]
  have hlen : ps.length = c := by rw [← hps2, hc0]; exact Lib.splitB_all sep h1 0 _ s rfl
  have hsz : ∀ j, j < ps.length → (ps.getD j ⟨#[]⟩).size ≤ 1048576 := fun j hj => Nat.le_trans (by rw [← hps2]; exact splitB_size sep j _ s) hs
  have hcl : c ≤ 1048577 := by have := Lib.countB_le sep h1 s.size s (Nat.le_refl _); omega
  obtain ⟨i0, hi, hz0, hz1, hz8⟩ := info_parts infoE
  obtain ⟨W, hW⟩ : ∃ W, W = (w.alloc (.cells #[] 2)).alloc (.cells (ps.map Value.string).toArray 9) := ⟨_, rfl⟩
  have HOW := Lib.hid (HM.out.alloc (.cells (ps.map Value.string).toArray 9))
  have HBW := Lib.hid (HB0.out.alloc HB0.out.size (.cells (ps.map Value.string).toArray 9))
  have hcell : ∀ j, j < ps.length → W.cell? ⟨w.heap.size + 1, j, none⟩ = some (.string (ps.getD j ⟨#[]⟩)) := by
    intro j hj
    rw [hW]
    have e : (w.alloc (.cells #[] 2)).heap.size = w.heap.size + 1 := by simp
    rw [← e]
    simp [List.getD, hj]
  rw [← hW] at HOW HBW ⊢
  have HCE := Lib.hid hcell
  have HSZ := Lib.hid hsz
  have HWW := Lib.hid hW
  clear hps2 hc0 hcell hsz hW
  go_wp2_with fail
  go_loopw [6, 16] (fun u i wr => ∃ (k : Nat) (ns : List Int), k ≤ ps.length ∧ i = .int .i64 k ∧ okNs (ps.take k) = some ns ∧ Own 2 wr w.heap.size u ns ∧ u.ownBlock ≠ some (w.heap.size + 1) ∧ (∀ j, j < ps.length → wr.cell? ⟨w.heap.size + 1, j, none⟩ = some (.string (ps.getD j ⟨#[]⟩))) ∧ Below w.heap.size w wr) (fun _ i _ => ps.length - (intOf i).toNat)
  case atStart => exact ⟨0, [], Nat.zero_le _, rfl, rfl, HOW.out, by simp [Value.ownBlock], HCE.out, HBW.out⟩
  case round =>
    obtain ⟨k, ns, hk, rfl, hok, hO, hne, hcs, hb⟩ := hrel
    have HO := Lib.hid hO
    have HB := Lib.hid hb
    have HCS := Lib.hid hcs
    have HOK := Lib.hid hok
    have HNE := Lib.hid hne
    have HRR := Lib.hid (HRW.out.below hb)
    have hzr := hb.size
    have hnl : ns.length = k := by rw [okNs_len _ _ hok, List.length_take]; omega
    clear hO hb hcs hok hne
    by_cases hlt : k < ps.length
    · have hcell := HCS.out k hlt
      have hps := HSZ.out k hlt
      obtain ⟨p, hp0⟩ : ∃ p, p = ps.getD k ⟨#[]⟩ := ⟨_, rfl⟩
      rw [← hp0] at hcell hps
      have htk : ps.take (k + 1) = ps.take k ++ [p] := by
        rw [List.take_succ_eq_append_getElem hlt, hp0]; simp [List.getD, hlt]
      have HTK := Lib.hid htk
      clear hp0 htk
      go_wp2_with fail
      refine (number_any p wr (by omega) HRR.out.1 HRR.out.2.1).mono ?_
      rintro e w2 ⟨n, rfl, hn, hb2⟩
      cases hp : okN p with
      | none =>
        have hr : okNs ps = none := by
          have h1 : okNs (ps.take (k + 1)) = none := by rw [HTK.out, okNs_snoc, HOK.out, hp]
          have h2 := okNs_none (ps.take (k + 1)) (ps.drop (k + 1)) h1
          rwa [List.take_append_drop] at h2
        have HR := Lib.hid hr
        have HB2 := Lib.hid (bthen HB.out hb2)
        clear hn hb2 hp hr
        go_wp2_with fail
        go_ret2
        exact ⟨_, by rw [HR.out]; rfl, fun ns h => (by rw [HR.out] at h; exact nomatch h), HB2.out⟩
      | some v =>
        obtain rfl := hn v hp
        have hs : okNs (ps.take (k + 1)) = some (ns ++ [n]) := by rw [HTK.out, okNs_snoc, HOK.out, hp]
        have HS := Lib.hid hs
        have HB2 := Lib.hid (bthen HB.out hb2)
        have HO2 := Lib.hid (HO.out.below hb2)
        have hz2 := HB2.out.size
        have hD : w.heap.size + 1 < wr.heap.size := World.block_lt_of_cell? wr _ hcell
        have hD2 : w.heap.size + 1 < w2.heap.size := Nat.lt_of_lt_of_le hD hb2.size
        have HC2 : Hid (∀ j, j < ps.length → w2.cell? ⟨w.heap.size + 1, j, none⟩ = some (.string (ps.getD j ⟨#[]⟩))) := Lib.hid fun j hj => (hb2.cell (p := ⟨w.heap.size + 1, j, none⟩) hD).trans (HCS.out j hj)
        clear hn hb2 hp hs
        go_wp2_with (at_builtin; refine wpList_app1L Tryd.underlying31 hi hz0 hz1 hz8 rfl _ _ rfl w2 n w.heap.size u6 ns rfl rfl HO2.out (by omega) hz2 ?_)
        intro v' w3 hO3 hb3 hg3 hm3
        have HO3 := Lib.hid hO3
        have HB3 := Lib.hid (HB2.out.trans hb3)
        have HC3 : Hid (∀ j, j < ps.length → w3.cell? ⟨w.heap.size + 1, j, none⟩ = some (.string (ps.getD j ⟨#[]⟩))) := Lib.hid fun j hj => (hg3.cell_far ⟨w.heap.size + 1, j, none⟩ hD2 (fun h => HNE.out h.symm)).trans (HC2.out j hj)
        have HN3 : Hid (v'.ownBlock ≠ some (w.heap.size + 1)) := Lib.hid fun h => by
          rcases hm3 _ h with h2 | h2
          · exact HNE.out h2
          · omega
        clear hO3 hb3 hg3 hm3
        go_wp2_with fail
        go_round
        case rel => exact ⟨k + 1, ns ++ [n], by omega, by go_num, HS.out, HO3.out, HN3.out, HC3.out, HB3.out⟩
        case measure => simp [intOf]; omega
    · have hkk : k = ps.length := by omega
      subst hkk
      have hr : okNs ps = some ns := by have := HOK.out; rwa [List.take_length] at this
      have HR := Lib.hid hr
      clear hr
      go_wp2_with fail
      go_ret2
      refine ⟨_, by rw [HR.out]; rfl, fun ns' h => ?_, HB.out⟩
      rw [HR.out] at h
      cases h
      exact HO.out
end Go.Proofs.YtkhmnkpdlodepaaDoor
