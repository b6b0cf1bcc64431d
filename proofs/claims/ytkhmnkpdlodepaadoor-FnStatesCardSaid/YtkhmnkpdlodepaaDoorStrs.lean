/- Rows of strings: what a call owns (OwnS), and the append of one string. No program in sight. -/
import Derived.Test.YtkhmnkpdlodepaaDoorApps
import Derived.Test.YtkhmnkpdlodepaaDoorApL
namespace Go.Proofs.YtkhmnkpdlodepaaDoor
open Go.RowKit
set_option linter.unusedVariables false

/-- The slice v is nil, or the head of a row of the call's own (from block B on), and holds the strings ps. -/
def OwnS (E : TypeId) (w : World) (B : Nat) (v : Value) (ps : List ByteArray) : Prop := w.ownsRow B E 1 v ps.length (ps.map Value.string)
theorem OwnS.made (E : TypeId) (w : World) (B : Nat) (hB : B ≤ w.heap.size) : OwnS E (w.alloc (.cells #[] E)) B (.slice (some ⟨w.heap.size, 0, none⟩) 0 0) [] :=
  World.ownsRow_made w #[] 0 hB (by decide) rfl
theorem OwnS.alloc {E : TypeId} {w : World} {B : Nat} {v : Value} {xs : List ByteArray} (h : OwnS E w B v xs) (o : Obj) : OwnS E (w.alloc o) B v xs := World.ownsRow.alloc h o
theorem OwnS.below {E : TypeId} {w w' : World} {B : Nat} {v : Value} {xs : List ByteArray} (h : OwnS E w B v xs) (hb : Below w.heap.size w w') : OwnS E w' B v xs := by
  refine ⟨h.1, ?_⟩
  rcases h.2 with h2 | ⟨g, cap, cur, hv, hg, hh, r⟩
  · exact .inl h2
  · exact .inr ⟨g, cap, cur, hv, hg, by rw [hb.block g (Array.getElem?_eq_some_iff.1 hh).1]; exact hh, r⟩
/-- What lies behind a slice of strings. -/
theorem OwnS.rd {E : TypeId} {w : World} {B : Nat} {v : Value} {ps : List ByteArray} (h : OwnS E w B v ps) : ∃ a cap, v = .slice a ps.length cap ∧ ps.length ≤ cap ∧ cap ≤ maxLen ∧ (a = none → cap = 0) ∧ ∀ j, j < ps.length → ∃ g, a = some ⟨g, 0, none⟩ ∧ w.cell? ⟨g, j, none⟩ = some (.string (ps.getD j ⟨#[]⟩)) := by
  rcases h.2 with ⟨hv, hn⟩ | ⟨g, cap, cur, hv, hg, hh, hn, hc, hs, ht⟩
  · exact ⟨none, 0, by rw [hv, hn], by omega, by decide, fun _ => rfl, fun j hj => by omega⟩
  · refine ⟨_, cap, hv, hn, hc, (fun h => by cases h), fun j hj => ⟨g, rfl, ?_⟩⟩
    have hr : w.ownsRow B E 1 (.slice (some ⟨g, 0, none⟩) ps.length cap) ps.length (ps.map Value.string) := by have := h; unfold OwnS at this; rw [hv] at this; exact this
    rw [hr.cellAt j (by omega)]
    simp [List.getD, hj]

theorem wpList_app1S {P : Program} {ops : Array Oper} {rest : List Oper} {o : Oper} {a : Act} {Q : Exit → Act → World → Prop} {E T : TypeId} {i : TypeInfo} {z : ByteArray}
    (hT : P.underlying T = some (.slice E)) (hi : P.info? E = some i) (hz : i.zero = some (.string z)) (hsz : i.size = 1) (hby : i.bytes = 16)
    (hg : o.guard = none) (s x : Operand) (hop : o.op = Op.call { callee := Callee.builtin Builtin.append, args := #[s, x], argTypes := #[T, T] })
    (w : World) (y : ByteArray) (B : Nat) (v : Value) (xs : List ByteArray) (hs : a.eval s = v) (hx : a.eval x = .slice (some ⟨w.heap.size, 0, none⟩) 1 1)
    (hO : OwnS E w B v xs) (hl : xs.length ≤ 1099511627776) (hB : B ≤ w.heap.size)
    (hK : ∀ v' w', OwnS E w' B v' (xs ++ [y]) → Below B w w' → wpList P ops Q rest (a.put o.dst v') w') :
    wpList P ops Q (o :: rest) a (w.alloc (.cells #[.string y] E)) := by
  refine wpList_append_own _ hg s x T hop B E i (.string z) 1 16 hT hi hz hsz hby rfl (by decide) v xs.length (xs.map Value.string) hs (World.ownsRow.alloc hO _)
    ⟨w.heap.size, 0, none⟩ 1 1 [.string y] hx rfl ?_ ?_ (by unfold maxLen; omega) (by omega) (by simp; omega) ?_
  · intro j u hj
    match j, hj with
    | 0, hj => simp at hj; subst hj; simp [Addr.add]
  · intro u hu; simp at hu; subst hu; rfl
  · intro v' w' hown hgrow _
    have hg2 : w.grownBy w' v.ownBlock := grownBy_trans (World.grownBy_alloc w _ _) hgrow
    refine hK v' w' ?_ ?_
    · unfold OwnS
      rw [List.length_append, List.map_append]
      exact hown
    · exact below_of_grown hg2 hB (fun k hk => (World.ownsRow.lt hO k hk).1)
end Go.Proofs.YtkhmnkpdlodepaaDoor
