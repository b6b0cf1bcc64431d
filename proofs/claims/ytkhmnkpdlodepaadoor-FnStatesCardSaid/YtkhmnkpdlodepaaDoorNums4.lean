/- Contract: l04Numbers (words read as numbers). -/
import Derived.Test.YtkhmnkpdlodepaaDoorVal
import Derived.Test.YtkhmnkpdlodepaaDoorStrs
namespace Go.Proofs.YtkhmnkpdlodepaaDoor
open Go.RowKit
set_option linter.unusedVariables false
set_option linter.unusedSimpArgs false

set_option maxRecDepth 100000 in
set_option maxHeartbeats 2000000 in
theorem l04Numbers_any (v : Value) (ps : List ByteArray) (B : Nat) (w : World) (hO : OwnS 9 w B v ps) (hl : ps.length ≤ 1048577) : Calls Tryd.prog 23 #[v] w (NumsRes w (okMs ps)) := by
  have HB0 := Lib.hid ((Below.refl w.heap.size w).alloc (Nat.le_refl _) (.cells #[] 2))
  have HM := Lib.hid (Own.made 2 w w.heap.size (Nat.le_refl _))
  obtain ⟨a, cap, rfl, hcap, hm, hn, hc⟩ := hO.rd
  have HC := Lib.hid hc
  unfold maxLen at hm
  obtain ⟨i0, hi, hz0, hz1, hz8⟩ := info_parts infoE
  clear hO hc hn
  go_enter Tryd.func23, Tryd.ntmps23
  go_wp2_with fail
  go_loopw [4, 5] (fun u i wr => ∃ (k : Nat) (ns : List Int), k ≤ ps.length ∧ i = .int .i64 k ∧ okMs (ps.take k) = some ns ∧ Own 2 wr w.heap.size u ns ∧ Below w.heap.size w wr) (fun _ i _ => ps.length - (intOf i).toNat)
  case atStart => exact ⟨0, [], Nat.zero_le _, rfl, rfl, HM.out, HB0.out⟩
  case round =>
    obtain ⟨k, ns, hk, rfl, hok, hO, hb⟩ := hrel
    have HO := Lib.hid hO
    have HB := Lib.hid hb
    have HOK := Lib.hid hok
    have hzr := hb.size
    have hnl : ns.length = k := by rw [okMs_len _ _ hok, List.length_take]; omega
    clear hO hb hok
    by_cases hlt : k < ps.length
    · obtain ⟨g, rfl, hcell0⟩ := HC.out k hlt
      have hcell : wr.cell? ⟨g, k, none⟩ = some (.string (ps.getD k ⟨#[]⟩)) := (HB.out.cell (p := ⟨g, k, none⟩) (World.block_lt_of_cell? w _ hcell0)).trans hcell0
      obtain ⟨p, hp0⟩ : ∃ p, p = ps.getD k ⟨#[]⟩ := ⟨_, rfl⟩
      rw [← hp0] at hcell
      have htk : ps.take (k + 1) = ps.take k ++ [p] := by
        rw [List.take_succ_eq_append_getElem hlt, hp0]; simp [List.getD, hlt]
      have HTK := Lib.hid htk
      clear hp0 htk hcell0
      go_wp2_with fail
      refine (l01Value_any p wr).mono ?_
      rintro e w2 ⟨n, rfl, hn, hb2⟩
      cases hp : okM p with
      | none =>
        have hr : okMs ps = none := by
          have h1 : okMs (ps.take (k + 1)) = none := by rw [HTK.out, okMs_snoc, HOK.out, hp]
          have h2 := okMs_none (ps.take (k + 1)) (ps.drop (k + 1)) h1
          rwa [List.take_append_drop] at h2
        have HR := Lib.hid hr
        have HB2 := Lib.hid (bthen HB.out hb2)
        clear hn hb2 hp hr
        go_wp2_with fail
        go_ret2
        exact ⟨_, by rw [HR.out]; rfl, fun ns h => (by rw [HR.out] at h; exact nomatch h), HB2.out⟩
      | some x =>
        obtain rfl := hn x hp
        have hs : okMs (ps.take (k + 1)) = some (ns ++ [n]) := by rw [HTK.out, okMs_snoc, HOK.out, hp]
        have HS := Lib.hid hs
        have HB2 := Lib.hid (bthen HB.out hb2)
        have HO2 := Lib.hid (HO.out.below hb2)
        have hz2 := HB2.out.size
        clear hn hb2 hp hs
        go_wp2_with (at_builtin; refine wpList_app1L Tryd.underlying31 hi hz0 hz1 hz8 rfl _ _ rfl w2 n w.heap.size u4 ns rfl rfl HO2.out (by omega) hz2 ?_)
        intro v' w3 hO3 hb3 hg3 hm3
        have HO3 := Lib.hid hO3
        have HB3 := Lib.hid (HB2.out.trans hb3)
        clear hO3 hb3 hg3 hm3
        go_wp2_with fail
        go_round
        case rel => exact ⟨k + 1, ns ++ [n], by omega, by go_num, HS.out, HO3.out, HB3.out⟩
        case measure => simp [intOf]; omega
    · have hkk : k = ps.length := by omega
      subst hkk
      have hr : okMs ps = some ns := by have := HOK.out; rwa [List.take_length] at this
      have HR := Lib.hid hr
      clear hr
      go_wp2_with fail
      go_ret2
      refine ⟨_, by rw [HR.out]; rfl, fun ns' h => ?_, HB.out⟩
      rw [HR.out] at h
      cases h
      exact HO.out
end Go.Proofs.YtkhmnkpdlodepaaDoor
