/- The laws on append in the words of this proof (Own, Rd): one number behind an owned list; a whole list behind an owned one. No program in sight. -/
import Derived.Test.YtkhmnkpdlodepaaDoorPlainL
import Derived.Laws.AppendOwnNone
namespace Go.Proofs.YtkhmnkpdlodepaaDoor
open Go.RowKit

theorem Own.made (E : TypeId) (w : World) (B : Nat) (hB : B ≤ w.heap.size) : Own E (w.alloc (.cells #[] E)) B (.slice (some ⟨w.heap.size, 0, none⟩) 0 0) [] :=
  World.ownsRow_made w #[] 0 hB (by decide) rfl

theorem Own.alloc {E : TypeId} {w : World} {B : Nat} {v : Value} {xs : List Int} (h : Own E w B v xs) (o : Obj) : Own E (w.alloc o) B v xs := World.ownsRow.alloc h o

theorem Own.drew {E : TypeId} {w : World} {B : Nat} {v : Value} {xs : List Int} (h : Own E w B v xs) : Own E w.drew B v xs := h
theorem Own.drewN {E : TypeId} {w : World} {B : Nat} {v : Value} {xs : List Int} (h : Own E w B v xs) (n : Nat) : Own E (w.drewN n) B v xs :=
  h.below (below_drewN (Below.refl _ _) n)

theorem wpList_app1 {P : Program} {ops : Array Oper} {rest : List Oper} {o : Oper} {a : Act} {Q : Exit → Act → World → Prop} {E T : TypeId} {i : TypeInfo}
    (hT : P.underlying T = some (.slice E)) (hi : P.info? E = some i) (hz : i.zero = some (.int .i64 0)) (hsz : i.size = 1) (hby : i.bytes = 8)
    (hg : o.guard = none) (s x : Operand) (hop : o.op = Op.call { callee := Callee.builtin Builtin.append, args := #[s, x], argTypes := #[T, T] })
    (w : World) (y : Int) (B : Nat) (v : Value) (xs : List Int) (hs : a.eval s = v) (hx : a.eval x = .slice (some ⟨w.heap.size, 0, none⟩) 1 1)
    (hO : Own E w B v xs) (hl : xs.length ≤ 1099511627776) (hB : B ≤ w.heap.size)
    (hK : ∀ v' w', Own E w' B v' (xs ++ [y]) → Below B w w' → w.grownBy w' v.ownBlock → wpList P ops Q rest (a.put o.dst v') w') :
    wpList P ops Q (o :: rest) a (w.alloc (.cells #[.int .i64 y] E)) := by
  refine wpList_append_own _ hg s x T hop B E i (.int .i64 0) 1 8 hT hi hz hsz hby rfl (by decide) v xs.length (xs.map (Value.int .i64)) hs (World.ownsRow.alloc hO _)
    ⟨w.heap.size, 0, none⟩ 1 1 [.int .i64 y] hx rfl ?_ ?_ (by unfold maxLen; omega) (by omega) (by simp; omega) ?_
  · intro j u hj
    match j, hj with
    | 0, hj => simp at hj; subst hj; simp [Addr.add]
  · intro u hu; simp at hu; subst hu; rfl
  · intro v' w' hown hgrow _
    have hg2 : w.grownBy w' v.ownBlock := grownBy_trans (World.grownBy_alloc w _ _) hgrow
    refine hK v' w' ?_ ?_ hg2
    · unfold Own
      rw [List.length_append, List.map_append]
      exact hown
    · exact below_of_grown hg2 hB (fun k hk => (World.ownsRow.lt hO k hk).1)

theorem step_app1 {P : Program} {ops : Array Oper} {o : Oper} {a : Act} {K : Act → World → Prop} {Q : Exit → Act → World → Prop} {X : Prop} {E T : TypeId} {i : TypeInfo}
    (hT : P.underlying T = some (.slice E)) (hi : P.info? E = some i) (hz : i.zero = some (.int .i64 0)) (hsz : i.size = 1) (hby : i.bytes = 8)
    (hg : o.guard = none) (s x : Operand) (hop : o.op = Op.call { callee := Callee.builtin Builtin.append, args := #[s, x], argTypes := #[T, T] })
    (w : World) (g : Nat) (y : Int) (B : Nat) (v : Value) (xs : List Int) (hs : a.eval s = v) (hx : a.eval x = .slice (some ⟨g, 0, none⟩) 1 1)
    (hcell : w.cell? ⟨g, 0, none⟩ = some (.int .i64 y)) (hO : Own E w B v xs) (hl : xs.length ≤ 1099511627776) (hB : B ≤ w.heap.size)
    (hK : ∀ v' w', Own E w' B v' (xs ++ [y]) → Below B w w' → K (a.put o.dst v') w') :
    if Region.wanted o (yielded ops a.tmps) = true then Oper.wp P o a w K Q else X := by
  have hw : Region.wanted o (yielded ops a.tmps) = true := by simp [Region.wanted, hg]
  rw [if_pos hw]
  refine wp_append_own w s x T hop B E i (.int .i64 0) 1 8 hT hi hz hsz hby rfl (by decide) v xs.length (xs.map (Value.int .i64)) hs hO
    ⟨g, 0, none⟩ 1 1 [.int .i64 y] hx rfl ?_ ?_ (by unfold maxLen; omega) (by omega) hB ?_
  · intro j u hj
    match j, hj with
    | 0, hj => simp at hj; subst hj; simpa [Addr.add] using hcell
  · intro u hu; simp at hu; subst hu; rfl
  · intro v' w' hown hgrow _
    refine hK v' w' ?_ ?_
    · unfold Own
      rw [List.length_append, List.map_append]
      exact hown
    · exact below_of_grown hgrow hB (fun k hk => (World.ownsRow.lt hO k hk).1)

theorem wpList_appAll {P : Program} {ops : Array Oper} {rest : List Oper} {o : Oper} {a : Act} {Q : Exit → Act → World → Prop} {E T : TypeId} {i : TypeInfo}
    (hT : P.underlying T = some (.slice E)) (hi : P.info? E = some i) (hz : i.zero = some (.int .i64 0)) (hsz : i.size = 1) (hby : i.bytes = 8)
    (hg : o.guard = none) (s x : Operand) (hop : o.op = Op.call { callee := Callee.builtin Builtin.append, args := #[s, x], argTypes := #[T, T] })
    (w : World) (B : Nat) (v u : Value) (xs ys : List Int) (hs : a.eval s = v) (hx : a.eval x = u)
    (hO : Own E w B v xs) (hr : Rd .i64 w u ys) (hl : xs.length ≤ 1099511627776) (hl2 : ys.length ≤ 1099511627776) (hB : B ≤ w.heap.size)
    (hK : ∀ v' w', Own E w' B v' (xs ++ ys) → Below B w w' → w.grownBy w' v.ownBlock → wpList P ops Q rest (a.put o.dst v') w') :
    wpList P ops Q (o :: rest) a w := by
  obtain ⟨ad, cap, rfl, hl3, hm, hn, hc⟩ := hr
  cases ad with
  | none =>
    have hcap := hn rfl
    have h0 : ys = [] := List.eq_nil_of_length_eq_zero (by omega)
    subst h0
    subst hcap
    refine wpList_append_own_none hg s x T hop B E i 1 hT hi v xs.length (xs.map (Value.int .i64)) hs hO hx ?_
    refine hK _ _ (by simpa using hO) (Below.refl _ _) (World.grownBy.refl _ _)
  | some ad =>
    refine wpList_append_own _ hg s x T hop B E i (.int .i64 0) 1 8 hT hi hz hsz hby rfl (by decide) v xs.length (xs.map (Value.int .i64)) hs hO
      ad ys.length cap (ys.map (Value.int .i64)) hx (by simp) ?_ (ints_oneCell _ _) (by unfold maxLen; omega) (by omega) hB ?_
    · intro j u hu
      have hj : j < ys.length := by
        have := (List.getElem?_eq_some_iff.1 hu).1
        simpa using this
      obtain ⟨b, off, hb, hcell⟩ := hc j hj
      obtain rfl := Option.some.inj hb
      rw [Addr.add_lit, hcell]
      simp [hj] at hu
      rw [getD_of_lt _ _ hj, hu]
    · intro v' w' hown hgrow _
      refine hK v' w' ?_ ?_ hgrow
      · unfold Own
        rw [List.length_append, List.map_append]
        exact hown
      · exact below_of_grown hgrow hB (fun k hk => (World.ownsRow.lt hO k hk).1)

/-- A part of what is read. -/
theorem slice_rd {k : IntKind} {w : World} {a : Option Addr} {xs : List Int} (hc : RdA k w a xs) (lo n : Nat) (hn : lo + n ≤ xs.length) :
    ∀ i, i < n → ∃ b off, a = some ⟨b, off, none⟩ ∧ w.cell? ⟨b, off + lo + i, none⟩ = some (.int k (((xs.drop lo).take n).getD i 0)) := by
  intro i hi
  obtain ⟨b, off, ha, hci⟩ := hc (lo + i) (by omega)
  refine ⟨b, off, ha, ?_⟩
  rw [Nat.add_assoc, hci]
  have e : ((xs.drop lo).take n).getD i 0 = xs.getD (lo + i) 0 := by
    simp [List.getD, hi]
  rw [e]

/-- A part of a slice, whatever address it gets. -/
theorem part_of {P : Program} {E T : TypeId} {i : TypeInfo} (hT : P.underlying T = some (.slice E)) (hi : P.info? E = some i) (hsz : i.size = 1)
    {w : World} {a : Option Addr} {cap : Nat} {xs : List Int} (hl : xs.length ≤ cap) (hm : cap ≤ maxLen) (hn : a = none → cap = 0) (hc : RdA .i64 w a xs) (lo n : Nat) (h : lo + n ≤ xs.length) :
    ∃ S, (∀ wx, (Instr.slice T (.slice a xs.length cap) (some (.int .i64 (lo : Int))) (some (.int .i64 ((lo : Int) + (n : Int)))) none).run P wx = .ok S wx) ∧ Rd .i64 w S ((xs.drop lo).take n) := by
  have he : P.elem T = E := by simp [Program.elem, hT]
  have hlen : ((xs.drop lo).take n).length = n := by rw [List.length_take, List.length_drop]; omega
  refine ⟨sliced a lo (lo + n) cap 1, fun wx => ?_, ?_⟩
  · have h1 := run_slice_lh (P := P) wx T a xs.length cap (by rw [he]; exact hT) .i64 .i64 (lo : Int) ((lo : Int) + (n : Int)) (by omega) (by omega) (by omega)
    rw [he] at h1
    rw [h1]
    have e1 : ((lo : Int) + (n : Int)).toNat = lo + n := by omega
    simp [sizeOf, typeInfo, hi, hsz, Result.andThen, e1]
  · refine ⟨if cap = lo then a else a.map (·.add (lo * 1)), cap - lo, ?_, by rw [hlen]; omega, by omega, ?_, ?_⟩
    · rw [hlen]
      have : lo + n - lo = n := by omega
      simp [sliced, this]
    · intro h0
      split at h0
      · have := hn h0; omega
      · have : a = none := by simpa using h0
        have := hn this; omega
    · intro j hj
      rw [hlen] at hj
      obtain ⟨b, off, ha, hcell⟩ := slice_rd hc lo n h j hj
      refine ⟨b, off + lo, ?_, hcell⟩
      rw [if_neg (by omega), ha]
      simp [Addr.add_lit]
/-- .. the first part. -/
theorem part_to {P : Program} {E T : TypeId} {i : TypeInfo} (hT : P.underlying T = some (.slice E)) (hi : P.info? E = some i) (hsz : i.size = 1)
    {w : World} {a : Option Addr} {cap : Nat} {xs : List Int} (hl : xs.length ≤ cap) (hm : cap ≤ maxLen) (hn : a = none → cap = 0) (hc : RdA .i64 w a xs) (n : Nat) (h : n ≤ xs.length) :
    ∃ S, (∀ wx, (Instr.slice T (.slice a xs.length cap) none (some (.int .i64 (n : Int))) none).run P wx = .ok S wx) ∧ Rd .i64 w S (xs.take n) := by
  have he : P.elem T = E := by simp [Program.elem, hT]
  have hlen : (xs.take n).length = n := by rw [List.length_take]; omega
  refine ⟨sliced a 0 n cap 1, fun wx => ?_, ?_⟩
  · have h1 := run_slice_h (P := P) wx T a xs.length cap (by rw [he]; exact hT) .i64 (n : Int) (by omega) (by omega)
    rw [he] at h1
    rw [h1]
    simp [sizeOf, typeInfo, hi, hsz, Result.andThen]
  · refine ⟨if cap = 0 then a else a.map (·.add (0 * 1)), cap, ?_, by rw [hlen]; omega, by omega, ?_, ?_⟩
    · rw [hlen]
      simp [sliced]
    · intro h0
      split at h0
      · have := hn h0; omega
      · have : a = none := by simpa using h0
        have := hn this; omega
    · intro j hj
      rw [hlen] at hj
      obtain ⟨b, off, ha, hcell⟩ := hc j (by omega)
      refine ⟨b, off, ?_, ?_⟩
      · rw [if_neg (by omega), ha]
        simp [Addr.add]
      · rw [hcell]
        simp [List.getD, hj]
/-- .. the last part. -/
theorem part_from {P : Program} {E T : TypeId} {i : TypeInfo} (hT : P.underlying T = some (.slice E)) (hi : P.info? E = some i) (hsz : i.size = 1)
    {w : World} {a : Option Addr} {cap : Nat} {xs : List Int} (hl : xs.length ≤ cap) (hm : cap ≤ maxLen) (hn : a = none → cap = 0) (hc : RdA .i64 w a xs) (lo : Nat) (h : lo ≤ xs.length) :
    ∃ S, (∀ wx, (Instr.slice T (.slice a xs.length cap) (some (.int .i64 (lo : Int))) none none).run P wx = .ok S wx) ∧ Rd .i64 w S (xs.drop lo) := by
  have he : P.elem T = E := by simp [Program.elem, hT]
  have hlen : (xs.drop lo).length = xs.length - lo := List.length_drop
  refine ⟨sliced a lo xs.length cap 1, fun wx => ?_, ?_⟩
  · have h1 := run_slice_l (P := P) wx T a xs.length cap (by rw [he]; exact hT) .i64 (lo : Int) (by omega) (by omega)
    rw [he] at h1
    rw [h1]
    simp [sizeOf, typeInfo, hi, hsz, Result.andThen]
  · refine ⟨if cap = lo then a else a.map (·.add (lo * 1)), cap - lo, ?_, by rw [hlen]; omega, by omega, ?_, ?_⟩
    · rw [hlen]
      simp [sliced]
    · intro h0
      split at h0
      · have := hn h0; omega
      · have : a = none := by simpa using h0
        have := hn this; omega
    · intro j hj
      rw [hlen] at hj
      obtain ⟨b, off, ha, hcell⟩ := hc (lo + j) (by omega)
      refine ⟨b, off + lo, ?_, ?_⟩
      · rw [if_neg (by omega), ha]
        simp [Addr.add_lit]
      · rw [Nat.add_assoc, hcell]
        simp [List.getD]
end Go.Proofs.YtkhmnkpdlodepaaDoor
