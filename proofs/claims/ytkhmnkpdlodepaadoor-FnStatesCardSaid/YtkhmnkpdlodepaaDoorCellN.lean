/- A block of numbers, and how it lives on. No program in sight. -/
import Derived.Test.YtkhmnkpdlodepaaDoorCell2
namespace Go.Proofs.YtkhmnkpdlodepaaDoor
open Go.RowKit
set_option linter.unusedVariables false
set_option linter.unusedSimpArgs false

/-- Block g holds the numbers vs at its head, and may be written there. -/
def CellN (w : World) (g : Nat) (vs : List Int) : Prop := ∀ i, i < vs.length → w.cell? ⟨g, i, none⟩ = some (.int .i64 (vs.getD i 0)) ∧ w.frozen? ⟨g, i, none⟩ = false
section
variable {w w' : World} {g b : Nat} {vs : List Int}
theorem CellN.new5 (w : World) (a b c d e : Int) (T : TypeId) : CellN (w.alloc (.cells #[.int .i64 a, .int .i64 b, .int .i64 c, .int .i64 d, .int .i64 e] T)) w.heap.size [a, b, c, d, e] := by
  intro i hi
  match i, hi with
  | 0, _ => exact ⟨by simp, by simp⟩
  | 1, _ => exact ⟨by simp, by simp⟩
  | 2, _ => exact ⟨by simp, by simp⟩
  | 3, _ => exact ⟨by simp, by simp⟩
  | 4, _ => exact ⟨by simp, by simp⟩
theorem CellN.lt {a : Int} (h : CellN w g (a :: vs)) : g < w.heap.size := World.block_lt_of_cell? w _ (h 0 (by simp)).1
theorem CellN.far (h : CellN w g vs) (hg : w.grownBy w' (some b)) (hne : g ≠ b) : CellN w' g vs := by
  intro i hi
  have hn : some (⟨g, i, none⟩ : Addr).block ≠ some b := fun e => hne (Option.some.inj e)
  exact ⟨hg.cell (h i hi).1 hn, (hg.frozen_far ⟨g, i, none⟩ (World.block_lt_of_cell? w _ (h i hi).1) hn).trans (h i hi).2⟩
theorem CellN.below {B : Nat} (h : CellN w g vs) (hb : Below B w w') (hB : g < B) : CellN w' g vs := fun i hi =>
  ⟨(hb.cell (p := ⟨g, i, none⟩) hB).trans (h i hi).1, (hb.frozen (p := ⟨g, i, none⟩) hB).trans (h i hi).2⟩
theorem CellN.next (h : CellN w g vs) (hb : Below w.heap.size w w') : CellN w' g vs := fun i hi => by
  have hl := World.block_lt_of_cell? w _ (h i hi).1
  exact ⟨(hb.cell (p := ⟨g, i, none⟩) hl).trans (h i hi).1, (hb.frozen (p := ⟨g, i, none⟩) hl).trans (h i hi).2⟩
theorem CellN.alloc (h : CellN w g vs) (o : Obj) : CellN (w.alloc o) g vs := h.next ((Below.refl w.heap.size w).alloc (Nat.le_refl _) o)
theorem CellN.drew (h : CellN w g vs) : CellN w.drew g vs := h.next (Below.refl _ _).drew
theorem CellN.other (h : CellN w g vs) {g' : Nat} (hne : g' ≠ g) (i : Nat) (v : Value) : CellN (w.setCell ⟨g', i, none⟩ v) g vs := fun j hj => by
  refine ⟨?_, ?_⟩
  · rw [World.cell?_setCell_other _ _ _ _ (by simp <;> omega)]; exact (h j hj).1
  · rw [World.frozen?_setCell]; exact (h j hj).2
theorem CellN.set (h : CellN w g vs) (i : Nat) (hi : i < vs.length) (v : Int) : CellN (w.setCell ⟨g, i, none⟩ (.int .i64 v)) g (vs.set i v) := fun j hj => by
  rw [List.length_set] at hj
  refine ⟨?_, ?_⟩
  · by_cases e : i = j
    · subst e
      rw [World.cell?_setCell_same' _ _ _ (by rw [(h i hi).1]; rfl)]
      simp [List.getD, hi]
    · rw [World.cell?_setCell_other _ _ _ _ (by simp <;> omega), (h j hj).1]
      simp [List.getD, e]
  · rw [World.frozen?_setCell]; exact (h j hj).2
theorem CellN.five {a b c d e : Int} (h : CellN w g [a, b, c, d, e]) :
    (w.cell? ⟨g, 0, none⟩ = some (.int .i64 a) ∧ w.cell? ⟨g, 1, none⟩ = some (.int .i64 b) ∧ w.cell? ⟨g, 2, none⟩ = some (.int .i64 c) ∧ w.cell? ⟨g, 3, none⟩ = some (.int .i64 d) ∧ w.cell? ⟨g, 4, none⟩ = some (.int .i64 e)) ∧
    (w.frozen? ⟨g, 0, none⟩ = false ∧ w.frozen? ⟨g, 1, none⟩ = false ∧ w.frozen? ⟨g, 2, none⟩ = false ∧ w.frozen? ⟨g, 3, none⟩ = false ∧ w.frozen? ⟨g, 4, none⟩ = false) :=
  ⟨⟨(h 0 (by simp)).1, (h 1 (by simp)).1, (h 2 (by simp)).1, (h 3 (by simp)).1, (h 4 (by simp)).1⟩, ⟨(h 0 (by simp)).2, (h 1 (by simp)).2, (h 2 (by simp)).2, (h 3 (by simp)).2, (h 4 (by simp)).2⟩⟩
end
end Go.Proofs.YtkhmnkpdlodepaaDoor
