/- A region whose order is open and whose operations read or call what only adds new blocks: one walk in the order of the text, in the class of all worlds that lie above one world. No program in sight. -/
import Derived.Test.YtkhmnkpdlodepaaDoorView
import Derived.Deep.QuietTactic
import Derived.BigQuiet
namespace Go.Proofs.YtkhmnkpdlodepaaDoor
open Go.RowKit
set_option linter.unusedVariables false

/-- A world that agrees with w0 below block B. -/
structure BW (B : Nat) (w0 : World) where
  w : World
  h : Below B w0 w
instance {B : Nat} {w0 : World} : Nonempty (BW B w0) := ⟨⟨w0, Below.refl _ _⟩⟩

theorem wp_region_bw {P : Program} {id : Nat} {Q : Exit → Act → World → Prop} {a : Act} {w : World} {l : List Oper} (B : Nat) (w0 : World) (hw : Below B w0 w) (hm : P.follows .mixedOrders = true) (hB : Region.lexB .any l.toArray = true)
    (h : wpQuiet P l.toArray (fun w' => ∃ x : BW B w0, w' = x.w) (fun a' => ∀ w', (∃ x : BW B w0, w' = x.w) → Q .normal a' w') l a) : (Code.region id l.toArray true).wp P Q a w :=
  wp_region_quiet (C := fun w' => ∃ x : BW B w0, w' = x.w) hm hB ⟨⟨w.drew, hw.drew⟩, rfl⟩ (by simpa using h)

theorem bw_of {P : Program} {f : FuncId} {args : Array Value} {B : Nat} {w0 : World} (hB : B ≤ w0.heap.size) {x : BW B w0} {v : Value}
    (h : Calls P f args x.w fun e w' => e = .returned v ∧ Below x.w.heap.size x.w w') : Calls P f args x.w fun e w'' => e = .returned v ∧ ∃ y : BW B w0, w'' = y.w :=
  h.mono fun _ w' ⟨he, hb⟩ => ⟨he, ⟨w', x.h.trans (hb.mono (Nat.le_trans hB x.h.size))⟩, rfl⟩
theorem bw_same {P : Program} {f : FuncId} {args : Array Value} {B : Nat} {w0 : World} {x : BW B w0} {v : Value}
    (h : Calls P f args x.w fun e w' => e = .returned v ∧ x.w = w') : Calls P f args x.w fun e w'' => e = .returned v ∧ ∃ y : BW B w0, w'' = y.w :=
  h.mono fun _ w' ⟨he, hb⟩ => ⟨he, x, hb.symm⟩
theorem box2 {w w1 : World} {a b : Value} {T : TypeId} {B : Nat} (hB : w.heap.size < B) (hb : Below B (w.alloc (.cells #[a, b] T)) w1) :
    w1.cell? ⟨w.heap.size, 0, none⟩ = some a ∧ w1.cell? ⟨w.heap.size, 1, none⟩ = some b := by
  refine ⟨?_, ?_⟩
  · exact (hb.cell (p := ⟨w.heap.size, 0, none⟩) hB).trans (by simp)
  · exact (hb.cell (p := ⟨w.heap.size, 1, none⟩) hB).trans (by simp)
theorem Rd.bw {k : IntKind} {w0 : World} {v : Value} {xs : List Int} (h : Rd k w0 v xs) {B : Nat} (hB : w0.heap.size = B) (x : BW B w0) : Rd k x.w v xs := by
  subst hB; exact h.below x.h
end Go.Proofs.YtkhmnkpdlodepaaDoor
