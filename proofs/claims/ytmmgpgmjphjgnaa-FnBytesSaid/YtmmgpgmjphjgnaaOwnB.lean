/- Rows of bytes that a call owns (after the words on rows of int64). No program in sight. -/
import Derived.Test.YtmmgpgmjphjgnaaPlainL
import Derived.Laws.AppendOwnNone
import Derived.Laws.BytesArg
namespace Go.Proofs.Ytmmgpgmjphjgnaa
open Go.RowKit

/-- The slice v is nil, or the head of a row of the call's own (from block B on), and holds the list xs of byte (E: that type's number). -/
def OwnB (E : TypeId) (w : World) (B : Nat) (v : Value) (xs : List Int) : Prop := w.ownsRow B E 1 v xs.length (xs.map (Value.int .u8))

theorem OwnB.mono {E : TypeId} {w : World} {B B' : Nat} {v : Value} {xs : List Int} (h : OwnB E w B v xs) (hB : B' ≤ B) : OwnB E w B' v xs := by
  refine ⟨h.1, ?_⟩
  rcases h.2 with h2 | ⟨g, cap, cur, hv, hg, r⟩
  · exact .inl h2
  · exact .inr ⟨g, cap, cur, hv, by omega, r⟩

theorem OwnB.below {E : TypeId} {w w' : World} {B : Nat} {v : Value} {xs : List Int} (h : OwnB E w B v xs) (hb : Below w.heap.size w w') : OwnB E w' B v xs := by
  refine ⟨h.1, ?_⟩
  rcases h.2 with h2 | ⟨g, cap, cur, hv, hg, hh, r⟩
  · exact .inl h2
  · exact .inr ⟨g, cap, cur, hv, hg, by rw [hb.block g (Array.getElem?_eq_some_iff.1 hh).1]; exact hh, r⟩

theorem OwnB.nil (E : TypeId) (w : World) (B : Nat) : OwnB E w B (.slice none 0 0) [] := World.ownsRow_nil _ _ _ _

theorem OwnB.rd {E : TypeId} {w : World} {B : Nat} {v : Value} {xs : List Int} (h : OwnB E w B v xs) : Rd .u8 w v xs := by
  rcases h.2 with ⟨hv, hn⟩ | ⟨g, cap, cur, hv, hg, hh, hn, hc, hs, ht⟩
  · have : xs = [] := List.eq_nil_of_length_eq_zero hn
    subst this
    exact ⟨none, 0, hv, Nat.le_refl _, by decide, fun _ => rfl, fun i hi => absurd hi (Nat.not_lt_zero _)⟩
  · refine ⟨_, cap, hv, hn, hc, (fun h => by cases h), fun i hi => ⟨g, 0, rfl, ?_⟩⟩
    have hr : w.ownsRow B E 1 (.slice (some ⟨g, 0, none⟩) xs.length cap) xs.length (xs.map (Value.int .u8)) := by have := h; unfold OwnB at this; rw [hv] at this; exact this
    have hc := hr.cellAt i (by omega)
    rw [Nat.zero_add, hc]
    simp [List.getD, hi]

theorem OwnB.made (E : TypeId) (w : World) (B : Nat) (hB : B ≤ w.heap.size) : OwnB E (w.alloc (.cells #[] E)) B (.slice (some ⟨w.heap.size, 0, none⟩) 0 0) [] :=
  World.ownsRow_made w #[] 0 hB (by decide) rfl

theorem OwnB.alloc {E : TypeId} {w : World} {B : Nat} {v : Value} {xs : List Int} (h : OwnB E w B v xs) (o : Obj) : OwnB E (w.alloc o) B v xs := World.ownsRow.alloc h o

theorem OwnB.drew {E : TypeId} {w : World} {B : Nat} {v : Value} {xs : List Int} (h : OwnB E w B v xs) : OwnB E w.drew B v xs := h
theorem OwnB.drewN {E : TypeId} {w : World} {B : Nat} {v : Value} {xs : List Int} (h : OwnB E w B v xs) (n : Nat) : OwnB E (w.drewN n) B v xs :=
  h.below (below_drewN (Below.refl _ _) n)

theorem wpList_app1B {P : Program} {ops : Array Oper} {rest : List Oper} {o : Oper} {a : Act} {Q : Exit → Act → World → Prop} {E T : TypeId} {i : TypeInfo}
    (hT : P.underlying T = some (.slice E)) (hi : P.info? E = some i) (hz : i.zero = some (.int .u8 0)) (hsz : i.size = 1) (hby : i.bytes = 1)
    (hg : o.guard = none) (s x : Operand) (hop : o.op = Op.call { callee := Callee.builtin Builtin.append, args := #[s, x], argTypes := #[T, T] })
    (w : World) (y : Int) (B : Nat) (v : Value) (xs : List Int) (hs : a.eval s = v) (hx : a.eval x = .slice (some ⟨w.heap.size, 0, none⟩) 1 1)
    (hO : OwnB E w B v xs) (hl : xs.length ≤ 1099511627776) (hB : B ≤ w.heap.size)
    (hK : ∀ v' w', OwnB E w' B v' (xs ++ [y]) → Below B w w' → w.grownBy w' v.ownBlock → wpList P ops Q rest (a.put o.dst v') w') :
    wpList P ops Q (o :: rest) a (w.alloc (.cells #[.int .u8 y] E)) := by
  refine wpList_append_own _ hg s x T hop B E i (.int .u8 0) 1 1 hT hi hz hsz hby rfl (by decide) v xs.length (xs.map (Value.int .u8)) hs (World.ownsRow.alloc hO _)
    ⟨w.heap.size, 0, none⟩ 1 1 [.int .u8 y] hx rfl ?_ ?_ (by unfold maxLen; omega) (by omega) (by simp; omega) ?_
  · intro j u hj
    match j, hj with
    | 0, hj => simp at hj; subst hj; simp [Addr.add]
  · intro u hu; simp at hu; subst hu; rfl
  · intro v' w' hown hgrow _
    have hg2 : w.grownBy w' v.ownBlock := grownBy_trans (World.grownBy_alloc w _ _) hgrow
    refine hK v' w' ?_ ?_ hg2
    · unfold OwnB
      rw [List.length_append, List.map_append]
      exact hown
    · exact below_of_grown hg2 hB (fun k hk => (World.ownsRow.lt hO k hk).1)

theorem OwnB.kept {E : TypeId} {w w' : World} {B : Nat} {v : Value} {xs : List Int} {row : Option Nat} (h : OwnB E w B v xs) (hg : w.grownBy w' row) (hne : v.ownBlock = none ∨ v.ownBlock ≠ row) : OwnB E w' B v xs :=
  World.ownsRow.kept h hg hne
theorem OwnB.shape {E : TypeId} {w : World} {B : Nat} {v : Value} {xs : List Int} (h : OwnB E w B v xs) :
    (v = .slice none 0 0 ∧ xs = []) ∨ ∃ g cap, v = .slice (some ⟨g, 0, none⟩) xs.length cap ∧ B ≤ g ∧ g < w.heap.size ∧ xs.length ≤ cap ∧ cap ≤ maxLen := by
  rcases h.2 with ⟨hv, hn⟩ | ⟨g, cap, cur, hv, hg, hh, hn, hc, hs, ht⟩
  · exact .inl ⟨hv, List.eq_nil_of_length_eq_zero hn⟩
  · exact .inr ⟨g, cap, hv, hg, (Array.getElem?_eq_some_iff.1 hh).1, hn, hc⟩
theorem OwnB.cell {E : TypeId} {w : World} {B g cap n : Nat} {xs : List Int} (h : OwnB E w B (.slice (some ⟨g, 0, none⟩) n cap) xs) (j : Nat) (hj : j < xs.length) : w.cell? ⟨g, j, none⟩ = some (.int .u8 (xs.getD j 0)) := by
  have hn : n = xs.length := by
    rcases h.shape with ⟨h1, _⟩ | ⟨g', cap', h1, _⟩
    · cases h1
    · simp only [Value.slice.injEq] at h1; exact h1.2.1
  subst hn
  rw [World.ownsRow.cellAt h j (by omega)]
  simp [List.getD, hj]

/-- 'string(b)' of an owned row. -/
theorem OwnB.text {P : Program} {src E : TypeId} (hs : P.underlying src = some (.slice E)) (he : P.underlying E = some (.int .u8)) {w : World} {B : Nat} {v : Value} {xs : List Int} (h : OwnB E w B v xs) (dst : TypeId) (hd : P.underlying dst = some .string) :
    (convert src dst v).run P w = .ok (.string (strOfNums xs)) w := by
  rcases h.shape with ⟨rfl, rfl⟩ | ⟨g, cap, rfl, _, _, _, _⟩
  · rw [run_convert_bytes_nil w src E hs he 0 0 dst hd]; rfl
  · refine run_convert_bytes_arg w src E hs he g 0 xs.length cap xs rfl (fun i hi => ?_) dst hd
    rw [Nat.zero_add]
    exact h.cell i hi
end Go.Proofs.Ytmmgpgmjphjgnaa
