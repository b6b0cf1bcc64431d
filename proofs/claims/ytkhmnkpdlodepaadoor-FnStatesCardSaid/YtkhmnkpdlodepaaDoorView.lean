/- What a slice of integers reads as (Rd), what a call owns (Own), and how both live on in later worlds: no program in sight. -/
import Derived.Test.YtkhmnkpdlodepaaDoorPlain
import Derived.WalkKit
import Derived.WalkSmall
namespace Go.Proofs.YtkhmnkpdlodepaaDoor
open Go.RowKit

/-- What lies at the address a, if anything is asked for there: the list xs of numbers of the kind k. -/
def RdA (k : IntKind) (w : World) (a : Option Addr) (xs : List Int) : Prop :=
  ∀ i, i < xs.length → ∃ b off, a = some ⟨b, off, none⟩ ∧ w.cell? ⟨b, off + i, none⟩ = some (.int k (xs.getD i 0))
/-- The slice v reads as the list xs of numbers of the kind k. -/
def Rd (k : IntKind) (w : World) (v : Value) (xs : List Int) : Prop :=
  ∃ a cap, v = .slice a xs.length cap ∧ xs.length ≤ cap ∧ cap ≤ maxLen ∧ (a = none → cap = 0) ∧ RdA k w a xs

/-- What a walk is told of a slice of integers that came in: it is nil; or it leads to a row of cap cells, the numbers zs (the first len are its elements). -/
def IsRow (k : IntKind) (w : World) (a : Option Addr) (len cap : Nat) (zs : List Int) : Prop :=
  (a = none ∧ len = 0 ∧ cap = 0 ∧ zs = []) ∨
  ∃ x, a = some x ∧ len ≤ cap ∧ cap ≤ maxLen ∧ zs.length = cap ∧ (∀ i, i < zs.length → w.cell? (x.add i) = some (.int k (zs.getD i 0))) ∧ ∀ n ∈ zs, (Lit.int k n).wf = true
theorem IsRow.rd {k : IntKind} {w : World} {a : Option Addr} {len cap : Nat} {zs : List Int} (h : IsRow k w a len cap zs) : (zs.take len).length = len ∧ Rd k w (.slice a len cap) (zs.take len) := by
  rcases h with ⟨rfl, rfl, rfl, rfl⟩ | ⟨x, rfl, hl, hm, hz, hc, hw⟩
  · exact ⟨rfl, none, 0, rfl, Nat.le_refl _, by decide, fun _ => rfl, fun i hi => absurd hi (Nat.not_lt_zero _)⟩
  · have e : (zs.take len).length = len := by rw [List.length_take]; omega
    refine ⟨e, some x, cap, by rw [e], by omega, hm, (fun h => by cases h), fun i hi => ?_⟩
    have h1 := hc i (by omega)
    obtain ⟨b, off, spot⟩ := x
    have hspot : spot = none := by simpa [Addr.add] using World.cell?_spot (hc 0 (by omega))
    subst hspot
    refine ⟨b, off, rfl, ?_⟩
    rw [Addr.add_lit] at h1
    rw [h1]
    simp [List.getD, (by omega : i < len)]
theorem IsRow.range {w : World} {a : Option Addr} {len cap : Nat} {zs : List Int} (h : IsRow .i64 w a len cap zs) : ∀ x ∈ zs.take len, -9223372036854775808 ≤ x ∧ x ≤ 9223372036854775807 := by
  intro x hx
  have hx' := List.mem_of_mem_take hx
  rcases h with ⟨rfl, rfl, rfl, rfl⟩ | ⟨x', rfl, hl, hm, hz, hc, hw⟩
  · cases hx'
  · simpa [Lit.wf, IntKind.min, IntKind.max, IntKind.signed, IntKind.bits] using hw x hx'

/-- The slice v is nil, or the head of a row of the call's own (from block B on), and holds the list xs of int64 (E: that type's number). -/
def Own (E : TypeId) (w : World) (B : Nat) (v : Value) (xs : List Int) : Prop := w.ownsRow B E 1 v xs.length (xs.map (Value.int .i64))

theorem Own.mono {E : TypeId} {w : World} {B B' : Nat} {v : Value} {xs : List Int} (h : Own E w B v xs) (hB : B' ≤ B) : Own E w B' v xs := by
  refine ⟨h.1, ?_⟩
  rcases h.2 with h2 | ⟨g, cap, cur, hv, hg, r⟩
  · exact .inl h2
  · exact .inr ⟨g, cap, cur, hv, by omega, r⟩

theorem Own.below {E : TypeId} {w w' : World} {B : Nat} {v : Value} {xs : List Int} (h : Own E w B v xs) (hb : Below w.heap.size w w') : Own E w' B v xs := by
  refine ⟨h.1, ?_⟩
  rcases h.2 with h2 | ⟨g, cap, cur, hv, hg, hh, r⟩
  · exact .inl h2
  · exact .inr ⟨g, cap, cur, hv, hg, by rw [hb.block g (Array.getElem?_eq_some_iff.1 hh).1]; exact hh, r⟩

theorem Own.nil (E : TypeId) (w : World) (B : Nat) : Own E w B (.slice none 0 0) [] := World.ownsRow_nil _ _ _ _

theorem Own.rd {E : TypeId} {w : World} {B : Nat} {v : Value} {xs : List Int} (h : Own E w B v xs) : Rd .i64 w v xs := by
  rcases h.2 with ⟨hv, hn⟩ | ⟨g, cap, cur, hv, hg, hh, hn, hc, hs, ht⟩
  · have : xs = [] := List.eq_nil_of_length_eq_zero hn
    subst this
    exact ⟨none, 0, hv, Nat.le_refl _, by decide, fun _ => rfl, fun i hi => absurd hi (Nat.not_lt_zero _)⟩
  · refine ⟨_, cap, hv, hn, hc, (fun h => by cases h), fun i hi => ⟨g, 0, rfl, ?_⟩⟩
    have hr : w.ownsRow B E 1 (.slice (some ⟨g, 0, none⟩) xs.length cap) xs.length (xs.map (Value.int .i64)) := by have := h; unfold Own at this; rw [hv] at this; exact this
    have hc := hr.cellAt i (by omega)
    rw [Nat.zero_add, hc]
    simp [List.getD, hi]

theorem RdA.below {k : IntKind} {w w' : World} {a : Option Addr} {xs : List Int} (h : RdA k w a xs) (hb : Below w.heap.size w w') : RdA k w' a xs := by
  intro i hi
  obtain ⟨b, off, ha, hci⟩ := h i hi
  refine ⟨b, off, ha, ?_⟩
  rw [hb.cell (by exact World.block_lt_of_cell? w _ hci)]
  exact hci
theorem Rd.below {k : IntKind} {w w' : World} {v : Value} {xs : List Int} (h : Rd k w v xs) (hb : Below w.heap.size w w') : Rd k w' v xs := by
  obtain ⟨a, cap, hv, h1, h2, h3, hc⟩ := h
  exact ⟨a, cap, hv, h1, h2, h3, hc.below hb⟩

/-- All old cells and marks read as before. -/
theorem bcell {W w1 : World} (hb : Below W.heap.size W w1) : (∀ b o, b < W.heap.size → w1.cell? ⟨b, o, none⟩ = W.cell? ⟨b, o, none⟩) ∧ (∀ b o, b < W.heap.size → w1.frozen? ⟨b, o, none⟩ = W.frozen? ⟨b, o, none⟩) :=
  ⟨fun b o h => hb.cell (p := ⟨b, o, none⟩) h, fun b o h => hb.frozen (p := ⟨b, o, none⟩) h⟩

/-- A chain of two calls. -/
theorem bthen {w w1 w2 : World} (h1 : Below w.heap.size w w1) (h2 : Below w1.heap.size w1 w2) : Below w.heap.size w w2 :=
  h1.trans (h2.mono h1.size)

/-- A cell that is there stays there beside a new block. -/
theorem keepA {w : World} {b o : Nat} {v : Value} (h : w.cell? ⟨b, o, none⟩ = some v) (ob : Obj) : (w.alloc ob).cell? ⟨b, o, none⟩ = some v :=
  (((Below.refl w.heap.size w).alloc (Nat.le_refl _) ob).cell (p := ⟨b, o, none⟩) (World.block_lt_of_cell? w _ h)).trans h
theorem getD_of_lt (xs : List Int) (i : Nat) (h : i < xs.length) : xs.getD i 0 = xs[i] := by simp [List.getD, h]
theorem take_succ_getD (xs : List Int) (k : Nat) (h : k < xs.length) : xs.take (k + 1) = xs.take k ++ [xs.getD k 0] := by
  rw [List.take_succ_eq_append_getElem h, getD_of_lt _ _ h]

/-- All are vectors. -/
def vecs (xs : List Int) : Bool := xs.all fun v => inB v 0 4294967295
end Go.Proofs.YtkhmnkpdlodepaaDoor
