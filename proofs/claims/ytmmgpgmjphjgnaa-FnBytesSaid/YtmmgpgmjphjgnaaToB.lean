/- Contract: toBytes: a range over slices.Chunk. -/
import Derived.Test.YtmmgpgmjphjgnaaChunk
namespace Go.Proofs.Ytmmgpgmjphjgnaa
open Go.RowKit Go.Shelf
set_option linter.unusedVariables false
set_option linter.unusedSimpArgs false

attribute [local go_sem] Oper.semAt_some

/-- The byte with the number j. -/
def byteAt (xs : List Int) (j : Nat) : Int := numOf ((xs.drop (8 * j)).take 8)
/-- The first k bytes. -/
def bytesTo (xs : List Int) (k : Nat) : List Int := (List.range k).map (byteAt xs)
theorem bytesTo_succ (xs : List Int) (k : Nat) : bytesTo xs (k + 1) = bytesTo xs k ++ [byteAt xs k] := by simp [bytesTo, List.range_succ]
theorem length_bytesTo (xs : List Int) (k : Nat) : (bytesTo xs k).length = k := by simp [bytesTo]
/-- The bytes of the parts. -/
def partsB {m : Nat} (xs : List Int) (ps : List (Fin m)) : List Int := ps.map fun x => byteAt xs x.val
theorem partsB_snoc {m : Nat} (xs : List Int) (ps : List (Fin m)) (x : Fin m) : partsB xs (ps ++ [x]) = partsB xs ps ++ [byteAt xs x.val] := by simp [partsB]
theorem partsB_all (xs : List Int) (m : Nat) : partsB xs (List.finRange m) = bytesTo xs m := by
  apply List.ext_getElem
  · simp [partsB, bytesTo]
  · intro i h1 h2; simp [partsB, bytesTo]
theorem part_rd {w W : World} {b off m : Nat} {xs : List Int} (hr : RdA .i64 w (some ⟨b, off, none⟩) xs) (hb : Below w.heap.size w W) (hl : xs.length = 8 * m) (x : Fin m) : Rd .i64 W (partV b off x.val) ((xs.drop (8 * x.val)).take 8) := by
  have hx := x.isLt
  have hlen : ((xs.drop (8 * x.val)).take 8).length = 8 := by rw [List.length_take, List.length_drop]; omega
  refine ⟨some ⟨b, off + 8 * x.val, none⟩, 8, by rw [hlen]; rfl, by rw [hlen]; exact Nat.le_refl _, by decide, (fun h => by cases h), fun i hi => ?_⟩
  rw [hlen] at hi
  obtain ⟨b', off', e, hc⟩ := hr (8 * x.val + i) (by omega)
  cases e
  refine ⟨b, off + 8 * x.val, rfl, ?_⟩
  have h := (hb.cell (p := ⟨b, off + (8 * x.val + i), none⟩) (World.block_lt_of_cell? w _ hc)).trans hc
  rw [Nat.add_assoc, h]
  simp [List.getD, List.getElem?_drop, hi]
theorem step_appIn {F : Fence} {n : Nat} {P : Program} {ops : Array Oper} {o : Oper} {a : Act} {K : Act → World → Prop} {Q : Exit → Act → World → Prop} {X : Prop} (hg : o.guard = none) (s x : Operand) (t : TypeId)
    (hop : o.op = Op.call { callee := Callee.builtin Builtin.append, args := #[s, x], argTypes := #[t, t] }) (v sx v1 : Value) (w w1 : World) (hs : a.eval s = v) (hx : a.eval x = sx) (hrun : (Builtin.append_ #[t, t] o.type #[v, sx]).run P w = .ok v1 w1) (h : K (a.put o.dst v1) w1) :
    if Region.wanted o (yielded ops a.tmps) = true then Oper.wpIn F n P o a w K Q else X := by
  have hw : Region.wanted o (yielded ops a.tmps) = true := by simp [Region.wanted, hg]
  rw [if_pos hw]
  unfold Oper.wpIn
  refine ⟨?_, ?_⟩
  · simp [Oper.about, hop, resolve, Target.leads, Sem.run_pure]
  · rw [Oper.semAt_plain F _ _ (by rw [hop]; intro c hc'; cases hc')]
    simp [execOp, hop, resolve, invoke, builtin, hs, hx, hrun, Result.andThen]
    exact h
theorem infoT8 : (Try.prog.info? 2).map (fun i => (i.zero, i.size, i.bytes)) = some (some (.int .i64 0), 1, 8) := by kernel_rfl
set_option maxRecDepth 100000 in
set_option maxHeartbeats 4000000 in
theorem toBytes_pos (b off cap m : Nat) (xs : List Int) (w : World) (hl : xs.length = 8 * m) (hm : m ≤ 2048) (hcap : xs.length ≤ cap) (hcm : cap ≤ maxLen) (hr : RdA .i64 w (some ⟨b, off, none⟩) xs) (hb : allIn xs 0 1 = true) :
    Calls Try.prog 54 #[.slice (some ⟨b, off, none⟩) xs.length cap] w (OwnRes 2 w (bytesTo xs m)) := by
  obtain ⟨i0, hi, hz0, hz1, hz2⟩ := info_parts infoT8
  have hf1 : Fence.wide.fn 63 := trivial
  have hf2 : Fence.wide.fn 45 := trivial
  have HL := Lib.hid hl
  clear hl
  refine (callsIn_wide (n := 10)).1 ?_
  refine callsIn_of_wp_marks Try.func54 rfl trivial ?_ rfl
  simp only [Try.ntmps54, List.size_toArray, List.length_cons, List.length_nil, Nat.reduceAdd, Nat.reduceSub, Array.replicate_succ, Array.replicate_zero, List.push_toArray, List.append_toArray, List.nil_append, List.cons_append]
  gi_wp2_with (gi_at_call 63; refine (chunk_in _ _ _ _ _).mono ?_; rintro e w' ⟨rfl, rfl⟩)
  obtain ⟨W0, hW0⟩ : ∃ W0, W0 = (((w.alloc (.cells #[] 2)).alloc (.cells #[.slice (some ⟨w.heap.size, 0, none⟩) 0 0] 24)).alloc (.cells #[.slice (some ⟨b, off, none⟩) xs.length cap] 24)).alloc (.cells #[.int .i64 8] 3) := ⟨_, rfl⟩
  have hz : W0.heap.size = w.heap.size + 4 := by rw [hW0]; simp
  have bO : Boxed W0 (w.heap.size + 1) 24 (.slice (some ⟨w.heap.size, 0, none⟩) 0 0) := by
    have h := Boxed.new (w.alloc (.cells #[] 2)) 24 (.slice (some ⟨w.heap.size, 0, none⟩) 0 0)
    rw [World.size_alloc] at h
    rw [hW0]; exact (h.alloc _).alloc _
  have bS : Boxed W0 (w.heap.size + 2) 24 (.slice (some ⟨b, off, none⟩) xs.length cap) := by
    have h := Boxed.new ((w.alloc (.cells #[] 2)).alloc (.cells #[.slice (some ⟨w.heap.size, 0, none⟩) 0 0] 24)) 24 (.slice (some ⟨b, off, none⟩) xs.length cap)
    rw [World.size_alloc, World.size_alloc] at h
    rw [hW0]; exact h.alloc _
  have bN : Boxed W0 (w.heap.size + 3) 3 (.int .i64 8) := by
    have h := Boxed.new (((w.alloc (.cells #[] 2)).alloc (.cells #[.slice (some ⟨w.heap.size, 0, none⟩) 0 0] 24)).alloc (.cells #[.slice (some ⟨b, off, none⟩) xs.length cap] 24)) 3 (.int .i64 8)
    rw [World.size_alloc, World.size_alloc, World.size_alloc] at h
    rw [hW0]; exact h
  have hO0 : Own 2 W0 w.heap.size (.slice (some ⟨w.heap.size, 0, none⟩) 0 0) [] := by
    rw [hW0]; exact (((Own.made 2 w w.heap.size (Nat.le_refl _)).alloc _).alloc _).alloc _
  have hB0 : Below w.heap.size w W0 := by
    rw [hW0]; exact ((((Below.refl _ w).alloc (Nat.le_refl _) _).alloc (by simp) _).alloc (by simp; omega) _).alloc (by simp; omega) _
  rw [← hW0]
  clear hW0
  have h1 : 1 ≤ 10 := by decide
  refine wpIn_rangeFunc_ownG rfl h1 (gf := 64) (lb := #[.pointer (some ⟨w.heap.size + 1 + 1, 0, none⟩), .pointer (some ⟨w.heap.size + 1 + 1 + 1, 0, none⟩)]) rfl trivial (enters_of Try.func64 (by kernel_rfl) rfl)
    (chunk_stops 9 (by decide) (w.heap.size + 2) (w.heap.size + 3) b off cap xs.length m HL.out hm hcap hcm W0 bS bN)
    (fun {A B C} h k => KeepsBox.trans h k) (fun W l o o' hl hlo hoc _ => ⟨fun h => boxed_put h o' hlo hoc, fun h => boxed_put h o' hlo hoc⟩) (Below.refl _ _) (fun _ => rfl)
    (fun pre W => (∃ v, Boxed W (w.heap.size + 1) 24 v ∧ W.ownsRow w.heap.size 2 1 v (partsB xs pre).length ((partsB xs pre).map (Value.int .i64)) ∧ True) ∧ Below w.heap.size w W)
    (fun _ _ _ => False)
    (OwnFrom.and (_root_.Go.Own.from (holdsRow_own w.heap.size (w.heap.size + 1) 24 2 1 (fun pre => (partsB xs pre).length) (fun pre => (partsB xs pre).map (Value.int .i64)) (fun pre v => True)) _) (ownFrom_below (Nat.le_refl _) (by omega)))
    (fun _ _ _ _ _ hs _ _ => hs)
    ⟨⟨_, bO, hO0, trivial⟩, hB0⟩
    (fun x => { tmps := #[.slice (some ⟨b, off, none⟩) xs.length cap, undef, .slice none 0 0, .pointer (some ⟨w.heap.size + 1, 0, none⟩), partV b off x.val, .slice (some ⟨w.heap.size, 0, none⟩) 0 0, .slice (some ⟨b, off, none⟩) xs.length cap, .func (.func 64) #[] #[.pointer (some ⟨w.heap.size + 1 + 1, 0, none⟩), .pointer (some ⟨w.heap.size + 1 + 1 + 1, 0, none⟩)], partV b off x.val, undef, undef, undef, undef, undef, undef], defers := [] }) ?assign ?body ?done ?stop
  case assign =>
    intro l x W K hK
    gi_wp2
    exact hK
  case body =>
    rintro l pre x W ⟨⟨v0, hv, hrow, _⟩, hB⟩ hlt
    have hc := hv.cell
    have hpl : (partsB xs pre).length = pre.length := by simp [partsB]
    have hrd := part_rd hr hB HL.out x
    have hb8 : allIn ((xs.drop (8 * x.val)).take 8) 0 1 = true := allIn_take _ (allIn_drop _ hb)
    have hl8 : ((xs.drop (8 * x.val)).take 8).length ≤ 60 := by rw [List.length_take]; omega
    obtain ⟨y, hy⟩ : ∃ y, y = byteAt xs x.val := ⟨_, rfl⟩
    have HNUM : Hid (Calls Try.prog 45 #[partV b off x.val] W.drew fun e w' => e = .returned (.int .i64 y) ∧ W.drew = w') := Lib.hid (by rw [hy]; exact numberOf_any _ _ _ (hrd.below (Below.refl _ _).drew) hb8 hl8)
    have HNI : Hid (CallsIn (Fence.wide.inRound l) 7 Try.prog 45 #[partV b off x.val] W.drew fun e w' => e = .returned (.int .i64 y) ∧ W.drew = w') := Lib.hid (CallsIn.inRound l (callsIn_wide.2 HNUM.out))
    have hzW := hB.size
    have hrow2 : ((W.alloc (.cells #[.int .i64 y] 2)).drew).ownsRow w.heap.size 2 1 v0 (partsB xs pre).length ((partsB xs pre).map (Value.int .i64)) := World.ownsRow.alloc hrow _
    obtain ⟨g, capn, w1, hrun, hown, hgrow, hat, hlt1⟩ := run_append_lies (P := Try.prog) ((W.alloc (.cells #[.int .i64 y] 2)).drew) 24 24 w.heap.size 2 i0 (.int .i64 0) 1 8 Try.underlying24 hi hz0 hz1 hz2 rfl (by decide) v0 _ _ hrow2
      ⟨W.heap.size, 0, none⟩ 1 1 [.int .i64 y] rfl (fun j u hj => by
        match j, hj with
        | 0, hj => simp at hj; subst hj; simp [Addr.add]) (fun u hu => by simp at hu; subst hu; rfl) (by decide) (by rw [hpl]; unfold maxLen; omega) (by rw [hpl]; omega) (by simp; omega) _ rfl
    have hgr : (W.alloc (.cells #[.int .i64 y] 2)).grownBy w1 v0.ownBlock := ⟨hgrow.os, hgrow.tape, hgrow.output, hgrow.size, hgrow.block⟩
    have hte : (24 : TypeId) ≠ 2 := by decide
    have hte2 : (3 : TypeId) ≠ 2 := by decide
    obtain ⟨hv1, hv2, hr2, hk2, hb2⟩ := hv.appended hte hrow hB.size (Nat.le_succ _) hown hgr
    have hkb : KeepsBox (w.heap.size + 2) (w.heap.size + 3) (.slice (some ⟨b, off, none⟩) xs.length cap) W (w1.setCell ⟨w.heap.size + 1, 0, none⟩ (.slice (some ⟨g, 0, none⟩) ((partsB xs pre).length + 1) capn)) :=
      ⟨fun h => ((h.alloc _).kept hgr (h.not_row hte hrow)).kept (grownBy_setCell' _ _ _) (by simp), fun h => ((h.alloc _).kept hgr (h.not_row hte2 hrow)).kept (grownBy_setCell' _ _ _) (by simp)⟩
    have hfin : ownPostG W0.heap.size (KeepsBox (w.heap.size + 2) (w.heap.size + 3) (.slice (some ⟨b, off, none⟩) xs.length cap))
      (fun pre W => (∃ v, Boxed W (w.heap.size + 1) 24 v ∧ W.ownsRow w.heap.size 2 1 v (partsB xs pre).length ((partsB xs pre).map (Value.int .i64)) ∧ True) ∧ Below w.heap.size w W)
      (fun _ _ _ => False) (pre ++ [x]) W .normal { tmps := #[], defers := [] } (w1.setCell ⟨w.heap.size + 1, 0, none⟩ (.slice (some ⟨g, 0, none⟩) ((partsB xs pre).length + 1) capn)) := by
      refine ⟨hk2.from _, hkb, ⟨_, hv2, ?_, trivial⟩, hB.trans hb2⟩
      rw [partsB_snoc, ← hy, List.length_append, List.map_append]
      exact hr2
    have HFIN := Lib.hid hfin
    have hc1 := hv1.cell
    have hf1 := hv1.frozen
    have hka := fun o => (hv.alloc o).cell
    have HRW := Lib.hid hrow
    have hmx : Try.prog.follows .mixedOrders = true := by kernel_rfl
    clear hown hgrow hgr hrow hrow2 hv hB hy hrd hb8 hl8 hat hv1 hv2 hr2 hk2 hb2 hkb hfin hpl
    gi_wp2
    refine wpIn_region_any hmx ?_
    change wpAnyIn _ _ _ _ _ _ _ _ _ (World.drew _)
    refine wpAnyIn_ready (rs := [0, 1]) (by kernel_rfl) (by simp) ?_
    refine AllReadyIn.cons rfl (fun K hK => ?_) (AllReadyIn.cons rfl (fun K hK => ?_) AllReadyIn.nil)
    · skip
      go_simp
      refine hK _ _ ?_
      clear hK K
      refine wpAnyIn_ready (rs := [1]) (by kernel_rfl) (by simp) ?_
      refine AllReadyIn.cons rfl (fun K hK => ?_) AllReadyIn.nil
      go_simp
      refine hK _ _ ?_
      clear hK K
      refine wpAnyIn_ready (rs := [2]) (by kernel_rfl) (by simp) ?_
      refine AllReadyIn.cons rfl (fun K hK => ?_) AllReadyIn.nil
      go_simp
      refine HNI.out.mono ?_
      rintro e w' ⟨rfl, rfl⟩
      refine hK _ _ ?_
      clear hK K
      refine wpAnyIn_ready (rs := [3]) (by kernel_rfl) (by simp) ?_
      refine AllReadyIn.cons rfl (fun K hK => ?_) AllReadyIn.nil
      go_simp
      refine hK _ _ ?_
      clear hK K
      refine wpAnyIn_ready (rs := [4]) (by kernel_rfl) (by simp) ?_
      refine AllReadyIn.cons rfl (fun K hK => ?_) AllReadyIn.nil
      refine step_appIn rfl (.tmp 9) (.tmp 12) 24 rfl v0 _ _ _ w1 rfl rfl hrun ?_
      refine hK _ _ ?_
      clear hK K
      refine wpAnyIn_ready (rs := [5]) (by kernel_rfl) (by simp) ?_
      refine AllReadyIn.cons rfl (fun K hK => ?_) AllReadyIn.nil
      go_simp
      refine hK _ _ ?_
      clear hK K
      refine wpAnyIn_done (by kernel_rfl) ?_ _
      exact HFIN.out
    · skip
      go_simp
      refine hK _ _ ?_
      clear hK K
      refine wpAnyIn_ready (rs := [0, 2]) (by kernel_rfl) (by simp) ?_
      refine AllReadyIn.cons rfl (fun K hK => ?_) (AllReadyIn.cons rfl (fun K hK => ?_) AllReadyIn.nil)
      · skip
        go_simp
        refine hK _ _ ?_
        clear hK K
        refine wpAnyIn_ready (rs := [2]) (by kernel_rfl) (by simp) ?_
        refine AllReadyIn.cons rfl (fun K hK => ?_) AllReadyIn.nil
        go_simp
        refine HNI.out.mono ?_
        rintro e w' ⟨rfl, rfl⟩
        refine hK _ _ ?_
        clear hK K
        refine wpAnyIn_ready (rs := [3]) (by kernel_rfl) (by simp) ?_
        refine AllReadyIn.cons rfl (fun K hK => ?_) AllReadyIn.nil
        go_simp
        refine hK _ _ ?_
        clear hK K
        refine wpAnyIn_ready (rs := [4]) (by kernel_rfl) (by simp) ?_
        refine AllReadyIn.cons rfl (fun K hK => ?_) AllReadyIn.nil
        refine step_appIn rfl (.tmp 9) (.tmp 12) 24 rfl v0 _ _ _ w1 rfl rfl hrun ?_
        refine hK _ _ ?_
        clear hK K
        refine wpAnyIn_ready (rs := [5]) (by kernel_rfl) (by simp) ?_
        refine AllReadyIn.cons rfl (fun K hK => ?_) AllReadyIn.nil
        go_simp
        refine hK _ _ ?_
        clear hK K
        refine wpAnyIn_done (by kernel_rfl) ?_ _
        exact HFIN.out
      · skip
        go_simp
        refine HNI.out.mono ?_
        rintro e w' ⟨rfl, rfl⟩
        refine hK _ _ ?_
        clear hK K
        refine wpAnyIn_ready (rs := [0, 3]) (by kernel_rfl) (by simp) ?_
        refine AllReadyIn.cons rfl (fun K hK => ?_) (AllReadyIn.cons rfl (fun K hK => ?_) AllReadyIn.nil)
        · skip
          go_simp
          refine hK _ _ ?_
          clear hK K
          refine wpAnyIn_ready (rs := [3]) (by kernel_rfl) (by simp) ?_
          refine AllReadyIn.cons rfl (fun K hK => ?_) AllReadyIn.nil
          go_simp
          refine hK _ _ ?_
          clear hK K
          refine wpAnyIn_ready (rs := [4]) (by kernel_rfl) (by simp) ?_
          refine AllReadyIn.cons rfl (fun K hK => ?_) AllReadyIn.nil
          refine step_appIn rfl (.tmp 9) (.tmp 12) 24 rfl v0 _ _ _ w1 rfl rfl hrun ?_
          refine hK _ _ ?_
          clear hK K
          refine wpAnyIn_ready (rs := [5]) (by kernel_rfl) (by simp) ?_
          refine AllReadyIn.cons rfl (fun K hK => ?_) AllReadyIn.nil
          go_simp
          refine hK _ _ ?_
          clear hK K
          refine wpAnyIn_done (by kernel_rfl) ?_ _
          exact HFIN.out
        · skip
          go_simp
          refine hK _ _ ?_
          clear hK K
          refine wpAnyIn_ready (rs := [0]) (by kernel_rfl) (by simp) ?_
          refine AllReadyIn.cons rfl (fun K hK => ?_) AllReadyIn.nil
          go_simp
          refine hK _ _ ?_
          clear hK K
          refine wpAnyIn_ready (rs := [4]) (by kernel_rfl) (by simp) ?_
          refine AllReadyIn.cons rfl (fun K hK => ?_) AllReadyIn.nil
          refine step_appIn rfl (.tmp 9) (.tmp 12) 24 rfl v0 _ _ _ w1 rfl rfl hrun ?_
          refine hK _ _ ?_
          clear hK K
          refine wpAnyIn_ready (rs := [5]) (by kernel_rfl) (by simp) ?_
          refine AllReadyIn.cons rfl (fun K hK => ?_) AllReadyIn.nil
          go_simp
          refine hK _ _ ?_
          clear hK K
          refine wpAnyIn_done (by kernel_rfl) ?_ _
          exact HFIN.out
  case done =>
    rintro D ys W hD rfl ⟨⟨v, hv, hrow, _⟩, hB⟩ hK
    have hc := hv.cell
    gi_wp2
    refine ⟨by simp, .inl ⟨_, _, rfl, run_takeDeferred hK, ?_⟩⟩
    rw [partsB_all] at hrow
    exact ⟨_, results_tmp rfl _ _ _, v, rfl, ownsRow_putObj hrow _ hK rfl, hB.trans (belowK_b (w := w) (Nat.le_refl _) W D _ _ (by omega) hK rfl rfl)⟩
  case stop =>
    rintro D c pre W _ _ h _
    exact h.elim
set_option maxRecDepth 100000 in
set_option maxHeartbeats 4000000 in
theorem toBytes_nil (a : Option Addr) (cap : Nat) (w : World) :
    Calls Try.prog 54 #[.slice a 0 cap] w (OwnRes 2 w []) := by
  obtain ⟨i0, hi, hz0, hz1, hz2⟩ := info_parts infoT8
  have hf1 : Fence.wide.fn 63 := trivial
  have hf2 : Fence.wide.fn 45 := trivial
  refine (callsIn_wide (n := 10)).1 ?_
  refine callsIn_of_wp_marks Try.func54 rfl trivial ?_ rfl
  simp only [Try.ntmps54, List.size_toArray, List.length_cons, List.length_nil, Nat.reduceAdd, Nat.reduceSub, Array.replicate_succ, Array.replicate_zero, List.push_toArray, List.append_toArray, List.nil_append, List.cons_append]
  gi_wp2_with (gi_at_call 63; refine (chunk_in _ _ _ _ _).mono ?_; rintro e w' ⟨rfl, rfl⟩)
  obtain ⟨W0, hW0⟩ : ∃ W0, W0 = (((w.alloc (.cells #[] 2)).alloc (.cells #[.slice (some ⟨w.heap.size, 0, none⟩) 0 0] 24)).alloc (.cells #[.slice a 0 cap] 24)).alloc (.cells #[.int .i64 8] 3) := ⟨_, rfl⟩
  have hz : W0.heap.size = w.heap.size + 4 := by rw [hW0]; simp
  have bO : Boxed W0 (w.heap.size + 1) 24 (.slice (some ⟨w.heap.size, 0, none⟩) 0 0) := by
    have h := Boxed.new (w.alloc (.cells #[] 2)) 24 (.slice (some ⟨w.heap.size, 0, none⟩) 0 0)
    rw [World.size_alloc] at h
    rw [hW0]; exact (h.alloc _).alloc _
  have bS : Boxed W0 (w.heap.size + 2) 24 (.slice a 0 cap) := by
    have h := Boxed.new ((w.alloc (.cells #[] 2)).alloc (.cells #[.slice (some ⟨w.heap.size, 0, none⟩) 0 0] 24)) 24 (.slice a 0 cap)
    rw [World.size_alloc, World.size_alloc] at h
    rw [hW0]; exact h.alloc _
  have bN : Boxed W0 (w.heap.size + 3) 3 (.int .i64 8) := by
    have h := Boxed.new (((w.alloc (.cells #[] 2)).alloc (.cells #[.slice (some ⟨w.heap.size, 0, none⟩) 0 0] 24)).alloc (.cells #[.slice a 0 cap] 24)) 3 (.int .i64 8)
    rw [World.size_alloc, World.size_alloc, World.size_alloc] at h
    rw [hW0]; exact h
  have hO0 : Own 2 W0 w.heap.size (.slice (some ⟨w.heap.size, 0, none⟩) 0 0) [] := by
    rw [hW0]; exact (((Own.made 2 w w.heap.size (Nat.le_refl _)).alloc _).alloc _).alloc _
  have hB0 : Below w.heap.size w W0 := by
    rw [hW0]; exact ((((Below.refl _ w).alloc (Nat.le_refl _) _).alloc (by simp) _).alloc (by simp; omega) _).alloc (by simp; omega) _
  rw [← hW0]
  clear hW0
  have h1 : 1 ≤ 10 := by decide
  refine wpIn_rangeFunc_ownG rfl h1 (gf := 64) (lb := #[.pointer (some ⟨w.heap.size + 1 + 1, 0, none⟩), .pointer (some ⟨w.heap.size + 1 + 1 + 1, 0, none⟩)]) rfl trivial (enters_of Try.func64 (by kernel_rfl) rfl)
    (chunk_stops0 9 (w.heap.size + 2) (w.heap.size + 3) a cap W0 bS)
    (fun {A B C} h k => KeepsBox.trans h k) (fun W l o o' hl hlo hoc _ => ⟨fun h => boxed_put h o' hlo hoc, fun h => boxed_put h o' hlo hoc⟩) (Below.refl _ _) (fun _ => rfl)
    (fun pre W => (∃ v, Boxed W (w.heap.size + 1) 24 v ∧ W.ownsRow w.heap.size 2 1 v (partsB ([] : List Int) pre).length ((partsB ([] : List Int) pre).map (Value.int .i64)) ∧ True) ∧ Below w.heap.size w W)
    (fun _ _ _ => False)
    (OwnFrom.and (_root_.Go.Own.from (holdsRow_own w.heap.size (w.heap.size + 1) 24 2 1 (fun pre => (partsB ([] : List Int) pre).length) (fun pre => (partsB ([] : List Int) pre).map (Value.int .i64)) (fun pre v => True)) _) (ownFrom_below (Nat.le_refl _) (by omega)))
    (fun _ _ _ _ _ hs _ _ => hs)
    ⟨⟨_, bO, hO0, trivial⟩, hB0⟩
    (fun x => { tmps := #[.slice a 0 cap, undef, .slice none 0 0, .pointer (some ⟨w.heap.size + 1, 0, none⟩), partV 0 0 x.val, .slice (some ⟨w.heap.size, 0, none⟩) 0 0, .slice a 0 cap, .func (.func 64) #[] #[.pointer (some ⟨w.heap.size + 1 + 1, 0, none⟩), .pointer (some ⟨w.heap.size + 1 + 1 + 1, 0, none⟩)], partV 0 0 x.val, undef, undef, undef, undef, undef, undef], defers := [] }) ?assign ?body ?done ?stop
  case assign =>
    intro l x W K hK
    gi_wp2
    exact hK
  case body =>
    rintro l pre x W _ hlt
    exact absurd hlt (Nat.not_lt_zero _)
  case done =>
    rintro D ys W hD rfl ⟨⟨v, hv, hrow, _⟩, hB⟩ hK
    have hrow : Own 2 W w.heap.size v [] := hrow
    have hc := hv.cell
    gi_wp2
    refine ⟨by simp, .inl ⟨_, _, rfl, run_takeDeferred hK, ?_⟩⟩
    exact ⟨_, results_tmp rfl _ _ _, v, rfl, ownsRow_putObj hrow _ hK rfl, hB.trans (belowK_b (w := w) (Nat.le_refl _) W D _ _ (by omega) hK rfl rfl)⟩
  case stop =>
    rintro D c pre W _ _ h _
    exact h.elim
theorem toBytes_any (v : Value) (xs : List Int) (m : Nat) (w : World) (hr : Rd .i64 w v xs) (hl : xs.length = 8 * m) (hm : m ≤ 2048) (hb : allIn xs 0 1 = true) :
    Calls Try.prog 54 #[v] w (OwnRes 2 w (bytesTo xs m)) := by
  obtain ⟨a, cap, rfl, h1, h2, h3, hc⟩ := hr
  by_cases h0 : m = 0
  · subst h0
    have : xs = [] := List.eq_nil_of_length_eq_zero (by omega)
    subst this
    exact toBytes_nil a cap w
  · obtain ⟨b, off, rfl, _⟩ := hc 0 (by omega)
    exact toBytes_pos b off cap m xs w hl hm h1 h2 hc hb
end Go.Proofs.Ytmmgpgmjphjgnaa
