/- A block of two numbers, and how it lives on. No program in sight. -/
import Derived.Test.YtkhmnkpdlodepaaDoorSrc
namespace Go.Proofs.YtkhmnkpdlodepaaDoor
open Go.RowKit
set_option linter.unusedVariables false

/-- Block g holds the two numbers, and may be written. -/
structure Cell2 (w : World) (g : Nat) (x y : Int) : Prop where
  c0 : w.cell? ⟨g, 0, none⟩ = some (.int .i64 x)
  c1 : w.cell? ⟨g, 1, none⟩ = some (.int .i64 y)
  f0 : w.frozen? ⟨g, 0, none⟩ = false
  f1 : w.frozen? ⟨g, 1, none⟩ = false
section
variable {w w' : World} {g b : Nat} {x y : Int}
theorem Cell2.new (w : World) (x y : Int) (T : TypeId) : Cell2 (w.alloc (.cells #[.int .i64 x, .int .i64 y] T)) w.heap.size x y := ⟨by simp, by simp, by simp, by simp⟩
theorem Cell2.lt (h : Cell2 w g x y) : g < w.heap.size := World.block_lt_of_cell? w _ h.c0
theorem Cell2.far (h : Cell2 w g x y) (hg : w.grownBy w' (some b)) (hne : b < g) : Cell2 w' g x y := by
  have hn : ∀ a : Addr, a.block = g → some a.block ≠ some b := fun a e1 e => by have := Option.some.inj e; omega
  exact ⟨hg.cell h.c0 (hn _ rfl), hg.cell h.c1 (hn _ rfl), (hg.frozen_far ⟨g, 0, none⟩ h.lt (hn _ rfl)).trans h.f0, (hg.frozen_far ⟨g, 1, none⟩ h.lt (hn _ rfl)).trans h.f1⟩
theorem Cell2.below {B : Nat} (h : Cell2 w g x y) (hb : Below B w w') (hB : g < B) : Cell2 w' g x y :=
  ⟨(hb.cell (p := ⟨g, 0, none⟩) hB).trans h.c0, (hb.cell (p := ⟨g, 1, none⟩) hB).trans h.c1, (hb.frozen (p := ⟨g, 0, none⟩) hB).trans h.f0, (hb.frozen (p := ⟨g, 1, none⟩) hB).trans h.f1⟩
theorem Cell2.alloc (h : Cell2 w g x y) (o : Obj) : Cell2 (w.alloc o) g x y := h.below (B := w.heap.size) ((Below.refl w.heap.size w).alloc (Nat.le_refl _) o) h.lt
theorem Cell2.all (h : Cell2 w g x y) : (∀ o : Obj, (w.alloc o).cell? ⟨g, 0, none⟩ = some (.int .i64 x)) ∧ (∀ o : Obj, (w.alloc o).cell? ⟨g, 1, none⟩ = some (.int .i64 y)) ∧ (∀ o : Obj, (w.alloc o).frozen? ⟨g, 0, none⟩ = false) ∧ (∀ o : Obj, (w.alloc o).frozen? ⟨g, 1, none⟩ = false) :=
  ⟨fun o => (h.alloc o).c0, fun o => (h.alloc o).c1, fun o => (h.alloc o).f0, fun o => (h.alloc o).f1⟩
theorem Cell2.next (h : Cell2 w g x y) (hb : Below w.heap.size w w') : Cell2 w' g x y := h.below hb h.lt
theorem Cell2.drew (h : Cell2 w g x y) : Cell2 w.drew g x y := h.below (B := w.heap.size) (Below.refl _ _).drew h.lt
theorem Cell2.other (h : Cell2 w g x y) {g' : Nat} (hne : g' ≠ g) (i : Nat) (v : Value) : Cell2 (w.setCell ⟨g', i, none⟩ v) g x y := by
  refine ⟨?_, ?_, ?_, ?_⟩
  · rw [World.cell?_setCell_other _ _ _ _ (by simp <;> omega)]; exact h.c0
  · rw [World.cell?_setCell_other _ _ _ _ (by simp <;> omega)]; exact h.c1
  · rw [World.frozen?_setCell]; exact h.f0
  · rw [World.frozen?_setCell]; exact h.f1
theorem Cell2.set0 (h : Cell2 w g x y) (v : Int) : Cell2 (w.setCell ⟨g, 0, none⟩ (.int .i64 v)) g v y := by
  refine ⟨World.cell?_setCell_same' _ _ _ (by rw [h.c0]; rfl), ?_, ?_, ?_⟩
  · rw [World.cell?_setCell_other _ _ _ _ (by simp)]; exact h.c1
  · rw [World.frozen?_setCell]; exact h.f0
  · rw [World.frozen?_setCell]; exact h.f1
theorem Cell2.set1 (h : Cell2 w g x y) (v : Int) : Cell2 (w.setCell ⟨g, 1, none⟩ (.int .i64 v)) g x v := by
  refine ⟨?_, World.cell?_setCell_same' _ _ _ (by rw [h.c1]; rfl), ?_, ?_⟩
  · rw [World.cell?_setCell_other _ _ _ _ (by simp)]; exact h.c0
  · rw [World.frozen?_setCell]; exact h.f0
  · rw [World.frozen?_setCell]; exact h.f1
end
theorem SrcAt.setCell {w : World} {b g : Nat} (h : SrcAt w b) (hne : b < g) (i : Nat) (v : Value) : SrcAt (w.setCell ⟨g, i, none⟩ v) b :=
  h.kept (grown_set (World.grownBy.refl w (some g)) i v) (fun k e => by cases e; exact hne)
theorem grown_set' {w w2 : World} {b g : Nat} (h : w.grownBy w2 (some b)) (hg : w.heap.size ≤ g) (i : Nat) (v : Value) : w.grownBy (w2.setCell ⟨g, i, none⟩ v) (some b) :=
  ⟨h.os, h.tape, h.output, by simpa using h.size, fun k hk hn => (Below.heap_setCell w2 ⟨g, i, none⟩ v k (show k ≠ g by omega)).trans (h.block k hk hn)⟩
theorem grown_alloc' {w w2 : World} {b : Nat} (h : w.grownBy w2 (some b)) (o : Obj) : w.grownBy (w2.alloc o) (some b) := grownBy_trans h (World.grownBy_alloc w2 o (some b))
theorem grown_drew' {w w2 : World} {b : Nat} (h : w.grownBy w2 (some b)) : w.grownBy w2.drew (some b) := ⟨h.os, h.tape, h.output, h.size, h.block⟩
theorem SrcAt.drew {w : World} {b : Nat} (h : SrcAt w b) : SrcAt w.drew b := h.below (B := w.heap.size) (Below.refl _ _).drew h.lt
end Go.Proofs.YtkhmnkpdlodepaaDoor
