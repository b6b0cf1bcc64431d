/- Contract: slices.Chunk at 8 numbers a part. -/
import Derived.RangeFuncBox
import Derived.RangeFuncLeaves
import Derived.RangeFuncCalls
import Derived.Shelf.Abstract
import Derived.Shelf.RegionOpen
import Derived.WalkKit
import Derived.OwnWalkIn
import Derived.TacticsInMore
import Derived.LoopNIn
import Derived.LoopIn
import Derived.Maps.AppendAt
import Derived.Sort.QuietIn
import Derived.Test.YtmmgpgmjphjgnaaNumber
import Derived.Test.YtmmgpgmjphjgnaaApL
namespace Go.Proofs.Ytmmgpgmjphjgnaa
open Go.RowKit Go.Shelf
set_option linter.unusedVariables false
set_option linter.unusedSimpArgs false

theorem infoD2 : (Try.prog.info? 2).map (fun i => (i.zero, i.size, i.bytes)) = some (some (.int .i64 0), 1, 8) := by kernel_rfl
attribute [local go_sem] Oper.semAt_some

/-- The boxes of what Chunk has captured stay as they are. -/
def KeepsBox (Bs Bn : Nat) (sv : Value) (A B : World) : Prop := (Boxed A Bs 24 sv → Boxed B Bs 24 sv) ∧ (Boxed A Bn 3 (.int .i64 8) → Boxed B Bn 3 (.int .i64 8))
theorem KeepsBox.trans {Bs Bn : Nat} {sv : Value} {A B C : World} (h : KeepsBox Bs Bn sv A B) (k : KeepsBox Bs Bn sv B C) : KeepsBox Bs Bn sv A C := ⟨fun x => k.1 (h.1 x), fun x => k.2 (h.2 x)⟩
theorem boxed_put {W : World} {B : Nat} {t : TypeId} {v : Value} (h : Boxed W B t v) {l : Nat} {o : Obj} (o' : Obj) (hl : W.heap[l]? = some o) (ho : o.isCells = false) : Boxed (W.putObj l o') B t v := by
  refine h.kept (grownBy_putObj' W l o') fun e => ?_
  cases e
  rw [show W.heap[B]? = _ from h] at hl
  cases hl
  cases ho
/-- The part with the number x. -/
def partV (b off : Nat) (x : Nat) : Value := .slice (some ⟨b, off + 8 * x, none⟩) 8 8
theorem part_run {a : Option Addr} {b off L cap I k : Nat} (hI : I = 8 * k) (h1 : I + 8 ≤ L) (h2 : L ≤ cap) :
    (∃ A C, ∀ wx, (Instr.slice 24 (.slice (some ⟨b, off, none⟩) L cap) (some (.int .i64 (I : Int))) none none).run Try.prog wx = .ok (.slice A (L - I) C) wx) ∧
    (∀ wx, (Instr.slice 24 (.slice (some ⟨b, off, none⟩) L cap) (some (.int .i64 (I : Int))) (some (.int .i64 ((I : Int) + 8))) (some (.int .i64 ((I : Int) + 8)))).run Try.prog wx = .ok (partV b off k) wx) := by
  obtain ⟨i0, hi, hz0, hz1, hz2⟩ := info_parts infoD2
  have he : Try.prog.elem 24 = 2 := by simp [Program.elem, Try.underlying24]
  have hU : Try.prog.underlying 24 = some (.slice (Try.prog.elem 24)) := by rw [he]; exact Try.underlying24
  refine ⟨⟨if cap = I then some ⟨b, off, none⟩ else some ⟨b, off + I, none⟩, cap - I, fun wx => ?_⟩, fun wx => ?_⟩
  · have h := run_slice_l (P := Try.prog) wx 24 (some ⟨b, off, none⟩) L cap hU .i64 (I : Int) (by omega) (by omega)
    rw [he] at h
    rw [h]
    simp [sizeOf, typeInfo, hi, hz1, Result.andThen, sliced, Addr.add_lit]
  · have h := run_slice_lhm (P := Try.prog) wx 24 (some ⟨b, off, none⟩) L cap hU .i64 .i64 .i64 (I : Int) ((I : Int) + 8) ((I : Int) + 8) (by omega) (by omega) (by omega) (by omega)
    rw [he] at h
    rw [h]
    have e1 : ((I : Int) + 8).toNat = I + 8 := by omega
    have e2 : ¬ (I + 8 = I) := by omega
    have e3 : I + 8 - I = 8 := by omega
    simp [sizeOf, typeInfo, hi, hz1, Result.andThen, sliced, e1, e2, e3, partV, Addr.add_lit]
set_option maxRecDepth 100000 in
set_option maxHeartbeats 4000000 in
theorem chunk1_in (n : Nat) (hn : 1 ≤ n) (l Bs Bn b off cap m : Nat) (L : Nat) (hL : L = 8 * m) (hm : m ≤ 2048) (hcap : L ≤ cap) (hcm : cap ≤ maxLen) (J Jx : List (Fin m) → World → Prop)
    (hY : ∀ pre (x : Fin m) W, J pre W → pre.length < m → YieldAt Fence.wide (n - 1) Try.prog l #[partV b off x.val] W fun e W' =>
      (e = .returned (.bool true) ∧ J (pre ++ [x]) W' ∧ KeepsBox Bs Bn (.slice (some ⟨b, off, none⟩) L cap) W W') ∨ (e = .returned (.bool false) ∧ Jx (pre ++ [x]) W'))
    (W : World) (hBs : Boxed W Bs 24 (.slice (some ⟨b, off, none⟩) L cap)) (hBn : Boxed W Bn 3 (.int .i64 8)) (h0 : J [] W)
    (hJd : ∀ ys W1 k, J ys W1 → J ys (W1.drewN k)) :
    CallsIn Fence.wide n Try.prog 64 #[.func (.yield l) #[] #[], .pointer (some ⟨Bs, 0, none⟩), .pointer (some ⟨Bn, 0, none⟩)] W fun e W' => (∃ v, e = .returned v) ∧
      ((∃ ys, ys = List.finRange m ∧ J ys W') ∨ (∃ pre, True ∧ Jx pre W')) := by
  obtain ⟨i0, hi, hz0, hz1, hz2⟩ := info_parts infoD2
  refine callsIn_of_wp Try.func64 rfl trivial ?_ rfl
  simp only [Try.ntmps64, List.size_toArray, List.length_cons, List.length_nil, Nat.reduceAdd, Nat.reduceSub, Array.replicate_succ, Array.replicate_zero, List.push_toArray, List.append_toArray, List.nil_append, List.cons_append]
  gi_wp2
  gi_loopw [4, 5] (fun i en wr => ∃ (k I : Nat) (u : Value), k ≤ m ∧ I = 8 * k ∧ i = .int .i64 (I : Int) ∧ u = en ∧ J ((List.finRange m).take k) wr ∧ Boxed wr Bs 24 (.slice (some ⟨b, off, none⟩) L cap) ∧ Boxed wr Bn 3 (.int .i64 8)) (fun i _ _ => L - (intOf i).toNat)
  case atStart => exact ⟨0, 0, _, Nat.zero_le _, rfl, rfl, rfl, by simpa using h0, hBs, hBn⟩
  case round =>
    obtain ⟨k, I, u, hk, hI, rfl, rfl, hJ, hs, hb⟩ := hrel
    have HS := Lib.hid hs
    have HN := Lib.hid hb
    have HJ := Lib.hid hJ
    have c1 := hs.cell
    have c2 := hb.cell
    by_cases hlt : k < m
    · have hIL : I + 8 ≤ L := by omega
      obtain ⟨⟨A1, C1, hS1⟩, hS2⟩ := part_run (a := none) (b := b) (off := off) hI hIL hcap
      obtain ⟨R, hR⟩ : ∃ R, R = L - I := ⟨_, rfl⟩
      rw [← hR] at hS1
      have hR8 : (8 : Int) ≤ (R : Int) := by omega
      have hR8n : 8 ≤ R := by omega
      have hIi : (I : Int) < (L : Int) := by omega
      have hI0 : (0 : Int) ≤ (I : Int) := by omega
      have hs8 : IntKind.i64.wrap ((I : Int) + 8) = (I : Int) + 8 := IntWalk.i64_in _ (by omega)
      have HL := Lib.hid hL
      have HI := Lib.hid hI
      clear hs hb hJ hR hL hI
      gi_wp2
      gi_quiet (fail)
      obtain ⟨W2, hW2⟩ : ∃ W2, W2 = wr.drewN nq := ⟨_, rfl⟩
      have hgd : wr.grownBy W2 none := by rw [hW2]; exact grown_of_below (below_drewN (Below.refl _ _) nq)
      have HS2 := Lib.hid (HS.out.kept hgd (by simp))
      have HN2 := Lib.hid (HN.out.kept hgd (by simp))
      have hJ2 : J ((List.finRange m).take k) W2 := by rw [hW2]; exact hJd _ _ _ HJ.out
      rw [← hW2]
      clear hW2 hgd c1 c2 HS HN HJ
      have c1 := HS2.out.cell
      have c2 := HN2.out.cell
      obtain ⟨fn, tmps, assign, body, hy, hR⟩ := hY _ ⟨k, hlt⟩ W2 hJ2 (by rw [List.length_take, List.length_finRange]; omega)
      dsimp only at hy
      clear hJ2
      gi_wp2
      refine hR.mono ?_
      rintro e W3 (⟨rfl, hJ3, hk3⟩ | ⟨rfl, hJx3⟩)
      · have HS3 := Lib.hid (hk3.1 HS2.out)
        have HN3 := Lib.hid (hk3.2 HN2.out)
        have HJ3 := Lib.hid hJ3
        clear c1 c2 hk3 hJ3
        have c1 := HS3.out.cell
        have c2 := HN3.out.cell
        have htk : (List.finRange m).take (k + 1) = (List.finRange m).take k ++ [⟨k, hlt⟩] := by
          rw [List.take_succ_eq_append_getElem (by rw [List.length_finRange]; exact hlt)]; simp
        have HTK := Lib.hid htk
        clear htk
        gi_wp2
        go_roundw
        case rel => exact ⟨k + 1, I + 8, _, by omega, by have := HI.out; omega, by go_num, rfl, by rw [HTK.out]; exact HJ3.out, HS3.out, HN3.out⟩
        case measure => have := HL.out; have := HI.out; simp [intOf]; omega
      · gi_wp2
        refine bodyPost_ret (results_none rfl _ _ _) rfl ?_
        exact ⟨⟨_, rfl⟩, .inr ⟨_, trivial, hJx3⟩⟩
    · have hkm : k = m := by omega
      subst hkm
      have hIL : ¬ ((I : Int) < (L : Int)) := by omega
      have hJf : J (List.finRange k) wr := by
        have h := HJ.out
        rwa [List.take_of_length_le (by rw [List.length_finRange]; exact Nat.le_refl _)] at h
      have HJF := Lib.hid hJf
      clear hs hb hJ hJf hL hI
      gi_wp2
      go_end0
      exact ⟨⟨_, rfl⟩, .inl HJF.out⟩
set_option maxRecDepth 100000 in
set_option maxHeartbeats 2000000 in
/-- .. nothing to part: no round. -/
theorem chunk0_in (n : Nat) (l Bs Bn : Nat) (a : Option Addr) (cap : Nat) (J : List (Fin 0) → World → Prop) (W : World) (hBs : Boxed W Bs 24 (.slice a 0 cap)) (h0 : J [] W) :
    CallsIn Fence.wide n Try.prog 64 #[.func (.yield l) #[] #[], .pointer (some ⟨Bs, 0, none⟩), .pointer (some ⟨Bn, 0, none⟩)] W fun e W' => (∃ v, e = .returned v) ∧ J [] W' := by
  have c1 := hBs.cell
  refine callsIn_of_wp Try.func64 rfl trivial ?_ rfl
  simp only [Try.ntmps64, List.size_toArray, List.length_cons, List.length_nil, Nat.reduceAdd, Nat.reduceSub, Array.replicate_succ, Array.replicate_zero, List.push_toArray, List.append_toArray, List.nil_append, List.cons_append]
  gi_wp2
  gi_loopw [4, 5] (fun i en wr => i = .int .i64 0 ∧ J [] wr ∧ wr.cell? ⟨Bs, 0, none⟩ = some (.slice a 0 cap)) (fun _ _ _ => 0)
  case atStart => exact ⟨rfl, h0, c1⟩
  case round =>
    obtain ⟨rfl, hJs, c2⟩ := hrel
    gi_wp2
    go_end0
    exact ⟨⟨_, rfl⟩, hJs⟩
set_option maxHeartbeats 1000000 in
theorem chunk_in (n : Nat) (a : Option Addr) (len cap : Nat) (w : World) :
    CallsIn Fence.wide n Try.prog 63 #[.slice a len cap, .int .i64 8] w fun e w' => e = .returned (.func (.func 64) #[] #[.pointer (some ⟨w.heap.size, 0, none⟩), .pointer (some ⟨w.heap.size + 1, 0, none⟩)]) ∧ w' = (w.alloc (.cells #[.slice a len cap] 24)).alloc (.cells #[.int .i64 8] 3) := by
  refine callsIn_of_wp Try.func63 rfl trivial ?_ rfl
  simp only [Try.ntmps63, List.size_toArray, List.length_cons, List.length_nil, Nat.reduceAdd, Nat.reduceSub, Array.replicate_succ, Array.replicate_zero, List.push_toArray, List.append_toArray, List.nil_append, List.cons_append]
  gi_wp2
  go_ret
  exact ⟨rfl, rfl⟩
/-- What Chunk hands back gives the parts, one behind the other. -/
theorem chunk_stops (n : Nat) (hn : 1 ≤ n) (Bs Bn b off cap L m : Nat) (hL : L = 8 * m) (hm : m ≤ 2048) (hcap : L ≤ cap) (hcm : cap ≤ maxLen) (w : World)
    (hBs : Boxed w Bs 24 (.slice (some ⟨b, off, none⟩) L cap)) (hBn : Boxed w Bn 3 (.int .i64 8)) :
    SeqStopsK Fence.wide n Try.prog 64 #[.pointer (some ⟨Bs, 0, none⟩), .pointer (some ⟨Bn, 0, none⟩)] (fun x : Fin m => #[partV b off x.val]) (KeepsBox Bs Bn (.slice (some ⟨b, off, none⟩) L cap)) (fun ys => ys = List.finRange m) (fun _ => True) m w :=
  fun l J Jx W hW hJ hJx hY h0 => by
    have k1 : Boxed W Bs 24 (.slice (some ⟨b, off, none⟩) L cap) := (hW.block Bs hBs.lt).trans hBs
    have k2 : Boxed W Bn 3 (.int .i64 8) := (hW.block Bn hBn.lt).trans hBn
    refine (chunk1_in n hn l Bs Bn b off cap m L hL hm hcap hcm J Jx hY W k1 k2 h0 fun ys W1 k h => ?_).mono fun e W' h => h
    exact hJ ys W1 (W1.drewN k) none h (grown_of_below (below_drewN (Below.refl _ _) k)) (fun r e => by cases e)
theorem chunk_stops0 (n : Nat) (Bs Bn : Nat) (a : Option Addr) (cap : Nat) (w : World) (hBs : Boxed w Bs 24 (.slice a 0 cap)) :
    SeqStopsK Fence.wide n Try.prog 64 #[.pointer (some ⟨Bs, 0, none⟩), .pointer (some ⟨Bn, 0, none⟩)] (fun x : Fin 0 => #[partV 0 0 x.val]) (KeepsBox Bs Bn (.slice a 0 cap)) (fun ys => ys = []) (fun _ => True) 0 w :=
  fun l J Jx W hW hJ hJx hY h0 => by
    have k1 : Boxed W Bs 24 (.slice a 0 cap) := (hW.block Bs hBs.lt).trans hBs
    exact (chunk0_in n l Bs Bn a cap J W k1 h0).mono fun e W' ⟨he, hj⟩ => ⟨he, .inl ⟨_, rfl, hj⟩⟩
end Go.Proofs.Ytmmgpgmjphjgnaa
