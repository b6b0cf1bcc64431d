/- An owned row is a slice. No program in sight. -/
import Derived.Test.YtkhmnkpdlodepaaDoorPlainL
namespace Go.Proofs.YtkhmnkpdlodepaaDoor
open Go.RowKit
theorem Own.slice {E : TypeId} {w : World} {B : Nat} {v : Value} {xs : List Int} (h : Own E w B v xs) : ∃ a cap, v = .slice a xs.length cap := by
  obtain ⟨a, cap, h1, _⟩ := h.rd
  exact ⟨a, cap, h1⟩
end Go.Proofs.YtkhmnkpdlodepaaDoor
