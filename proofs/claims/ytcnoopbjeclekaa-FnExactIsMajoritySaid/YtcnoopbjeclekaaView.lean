/- What a slice of integers reads as (Rd), what a call owns (Own), and how both live on in later worlds: no program in sight. -/
import Derived.Test.YtcnoopbjeclekaaPlain
import Derived.WalkKit
import Derived.WalkSmall
namespace Go.Proofs.Ytcnoopbjeclekaa
open Go.RowKit

/-- The slice v reads as the list xs of numbers of the kind k. -/
def Rd (k : IntKind) (w : World) (v : Value) (xs : List Int) : Prop :=
  (v = .slice none 0 0 ∧ xs = []) ∨
  ∃ g off cap, v = .slice (some ⟨g, off, none⟩) xs.length cap ∧ xs.length ≤ cap ∧ cap ≤ maxLen ∧ ∀ i, i < xs.length → w.cell? ⟨g, off + i, none⟩ = some (.int k (xs.getD i 0))

/-- The slice v is nil, or the head of a row of the call's own (from block B on), and holds the list xs of int64 (E: that type's number). -/
def Own (E : TypeId) (w : World) (B : Nat) (v : Value) (xs : List Int) : Prop := w.ownsRow B E 1 v xs.length (xs.map (Value.int .i64))

theorem Own.mono {E : TypeId} {w : World} {B B' : Nat} {v : Value} {xs : List Int} (h : Own E w B v xs) (hB : B' ≤ B) : Own E w B' v xs := by
  refine ⟨h.1, ?_⟩
  rcases h.2 with h2 | ⟨g, cap, cur, hv, hg, r⟩
  · exact .inl h2
  · exact .inr ⟨g, cap, cur, hv, by omega, r⟩

theorem Own.below {E : TypeId} {w w' : World} {B : Nat} {v : Value} {xs : List Int} (h : Own E w B v xs) (hb : Below w.heap.size w w') : Own E w' B v xs := by
  refine ⟨h.1, ?_⟩
  rcases h.2 with h2 | ⟨g, cap, cur, hv, hg, hh, r⟩
  · exact .inl h2
  · exact .inr ⟨g, cap, cur, hv, hg, by rw [hb.block g (Array.getElem?_eq_some_iff.1 hh).1]; exact hh, r⟩

theorem Own.nil (E : TypeId) (w : World) (B : Nat) : Own E w B (.slice none 0 0) [] := World.ownsRow_nil _ _ _ _

theorem Own.rd {E : TypeId} {w : World} {B : Nat} {v : Value} {xs : List Int} (h : Own E w B v xs) : Rd .i64 w v xs := by
  rcases h.2 with ⟨hv, hn⟩ | ⟨g, cap, cur, hv, hg, hh, hn, hc, hs, ht⟩
  · exact .inl ⟨hv, List.eq_nil_of_length_eq_zero hn⟩
  · refine .inr ⟨g, 0, cap, hv, hn, hc, fun i hi => ?_⟩
    have hr : w.ownsRow B E 1 (.slice (some ⟨g, 0, none⟩) xs.length cap) xs.length (xs.map (Value.int .i64)) := by have := h; unfold Own at this; rw [hv] at this; exact this
    have hc := hr.cellAt i (by omega)
    rw [Nat.zero_add, hc]
    simp [List.getD, hi]

theorem Rd.below {k : IntKind} {w w' : World} {v : Value} {xs : List Int} (h : Rd k w v xs) (hb : Below w.heap.size w w') : Rd k w' v xs := by
  rcases h with h | ⟨g, off, cap, hv, h1, h2, hc⟩
  · exact .inl h
  · refine .inr ⟨g, off, cap, hv, h1, h2, fun i hi => ?_⟩
    have hci := hc i hi
    rw [hb.cell (by exact World.block_lt_of_cell? w _ hci)]
    exact hci

/-- All old cells and marks read as before. -/
theorem bcell {W w1 : World} (hb : Below W.heap.size W w1) : (∀ b o, b < W.heap.size → w1.cell? ⟨b, o, none⟩ = W.cell? ⟨b, o, none⟩) ∧ (∀ b o, b < W.heap.size → w1.frozen? ⟨b, o, none⟩ = W.frozen? ⟨b, o, none⟩) :=
  ⟨fun b o h => hb.cell (p := ⟨b, o, none⟩) h, fun b o h => hb.frozen (p := ⟨b, o, none⟩) h⟩

/-- A chain of two calls. -/
theorem bthen {w w1 w2 : World} (h1 : Below w.heap.size w w1) (h2 : Below w1.heap.size w1 w2) : Below w.heap.size w w2 :=
  h1.trans (h2.mono h1.size)

theorem getD_of_lt (xs : List Int) (i : Nat) (h : i < xs.length) : xs.getD i 0 = xs[i] := by simp [List.getD, h]
theorem take_succ_getD (xs : List Int) (k : Nat) (h : k < xs.length) : xs.take (k + 1) = xs.take k ++ [xs.getD k 0] := by
  rw [List.take_succ_eq_append_getElem h, getD_of_lt _ _ h]

/-- All are vectors. -/
def vecs (xs : List Int) : Bool := xs.all fun v => inB v 0 4294967295
end Go.Proofs.Ytcnoopbjeclekaa
