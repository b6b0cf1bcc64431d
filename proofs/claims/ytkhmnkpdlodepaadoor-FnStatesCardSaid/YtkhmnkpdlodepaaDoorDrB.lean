/- Contracts: drawn lists: l01DrawBits, l01DrawBytes. -/
import Derived.Test.YtkhmnkpdlodepaaDoorSrc
import Derived.Test.YtkhmnkpdlodepaaDoorApps
import Derived.OwnWalk
namespace Go.Proofs.YtkhmnkpdlodepaaDoor
open Go.RowKit
set_option linter.unusedVariables false
set_option linter.unusedSimpArgs false

theorem infoD : (Tryd.prog.info? 2).map (fun i => (i.zero, i.size, i.bytes)) = some (some (.int .i64 0), 1, 8) := by kernel_rfl
theorem grown_then {w w2 w3 : World} {b : Nat} (h : w.grownBy w2 (some b)) (hb : Below w.heap.size w2 w3) : w.grownBy w3 (some b) :=
  ⟨hb.os.trans h.os, hb.tape.trans h.tape, hb.output.trans h.output, Nat.le_trans h.size hb.size, fun k hk hn => (hb.block k hk).trans (h.block k hk hn)⟩
/-- A list that was drawn: short, or zeros alone. -/
def Short (xs : List Int) (m : Nat) : Prop := xs.length ≤ m + 1 ∨ ∃ k, k ≤ 9000 ∧ xs = List.replicate k 0
theorem Short.len {xs : List Int} {m : Nat} (h : Short xs m) (hm : m ≤ 8000) : xs.length ≤ 9000 := by
  rcases h with h | ⟨k, h, rfl⟩
  · omega
  · simpa using h
/-- What a draw of a list hands back. -/
def DrawnL (b : Nat) (m : Nat) (w : World) (e : Ending) (w' : World) : Prop := ∃ v xs, e = .returned v ∧ Own 2 w' w.heap.size v xs ∧ Short xs m ∧ SrcAt w' b ∧ w.grownBy w' (some b)
theorem lit2 (w : World) (x y : Value) (E : TypeId) (K : Nat) (h : K < 2) : ∃ u, (w.alloc (.cells #[x, y] E)).cell? ⟨w.heap.size, K, none⟩ = some u ∧ (u = x ∨ u = y) := by
  match K, h with
  | 0, _ => exact ⟨x, by simp, .inl rfl⟩
  | 1, _ => exact ⟨y, by simp, .inr rfl⟩
theorem lit3 (w : World) (x y z : Value) (E : TypeId) (K : Nat) (h : K < 3) : ∃ u, (w.alloc (.cells #[x, y, z] E)).cell? ⟨w.heap.size, K, none⟩ = some u ∧ (u = x ∨ u = y ∨ u = z) := by
  match K, h with
  | 0, _ => exact ⟨x, by simp, .inl rfl⟩
  | 1, _ => exact ⟨y, by simp, .inr (.inl rfl)⟩
  | 2, _ => exact ⟨z, by simp, .inr (.inr rfl)⟩
theorem lit4 (w : World) (x y z t : Value) (E : TypeId) (K : Nat) (h : K < 4) : ∃ u, (w.alloc (.cells #[x, y, z, t] E)).cell? ⟨w.heap.size, K, none⟩ = some u ∧ (u = x ∨ u = y ∨ u = z ∨ u = t) := by
  match K, h with
  | 0, _ => exact ⟨x, by simp, .inl rfl⟩
  | 1, _ => exact ⟨y, by simp, .inr (.inl rfl)⟩
  | 2, _ => exact ⟨z, by simp, .inr (.inr (.inl rfl))⟩
  | 3, _ => exact ⟨t, by simp, .inr (.inr (.inr rfl))⟩
theorem int2 (w : World) (x y : Int) (E : TypeId) (K : Nat) (h : K < 2) : ∃ u : Int, (w.alloc (.cells #[.int .i64 x, .int .i64 y] E)).cell? ⟨w.heap.size, K, none⟩ = some (.int .i64 u) ∧ (u = x ∨ u = y) := by
  obtain ⟨u, h1, rfl | rfl⟩ := lit2 w (.int .i64 x) (.int .i64 y) E K h
  · exact ⟨x, h1, .inl rfl⟩
  · exact ⟨y, h1, .inr rfl⟩
theorem int3 (w : World) (x y z : Int) (E : TypeId) (K : Nat) (h : K < 3) : ∃ u : Int, (w.alloc (.cells #[.int .i64 x, .int .i64 y, .int .i64 z] E)).cell? ⟨w.heap.size, K, none⟩ = some (.int .i64 u) ∧ (u = x ∨ u = y ∨ u = z) := by
  obtain ⟨u, h1, rfl | rfl | rfl⟩ := lit3 w (.int .i64 x) (.int .i64 y) (.int .i64 z) E K h
  · exact ⟨x, h1, .inl rfl⟩
  · exact ⟨y, h1, .inr (.inl rfl)⟩
  · exact ⟨z, h1, .inr (.inr rfl)⟩
theorem int4 (w : World) (x y z t : Int) (E : TypeId) (K : Nat) (h : K < 4) : ∃ u : Int, (w.alloc (.cells #[.int .i64 x, .int .i64 y, .int .i64 z, .int .i64 t] E)).cell? ⟨w.heap.size, K, none⟩ = some (.int .i64 u) ∧ (u = x ∨ u = y ∨ u = z ∨ u = t) := by
  obtain ⟨u, h1, rfl | rfl | rfl | rfl⟩ := lit4 w (.int .i64 x) (.int .i64 y) (.int .i64 z) (.int .i64 t) E K h
  · exact ⟨x, h1, .inl rfl⟩
  · exact ⟨y, h1, .inr (.inl rfl)⟩
  · exact ⟨z, h1, .inr (.inr (.inl rfl))⟩
  · exact ⟨t, h1, .inr (.inr (.inr rfl))⟩
/-- A cell of another block than b is as it was behind a draw. -/
theorem far_cell {w w' : World} {b g o : Nat} {v : Value} (h : w.cell? ⟨g, o, none⟩ = some v) (hg : w.grownBy w' (some b)) (hne : b < g) : w'.cell? ⟨g, o, none⟩ = some v :=
  hg.cell h (fun e => by have h2 : g = b := Option.some.inj e; omega)
theorem own_zeros {E : TypeId} {w' : World} {B g n : Nat} (h : w'.ownsRow B E 1 (.slice (some ⟨g, 0, none⟩) n n) n (madeCells #[Value.int IntKind.i64 0] n).toList) : Own E w' B (.slice (some ⟨g, 0, none⟩) n n) (List.replicate n 0) := by
  unfold Own
  have e : (madeCells #[Value.int IntKind.i64 0] n).toList = (List.replicate n 0).map (Value.int .i64) := by simp [toList_madeCells_one]
  rw [List.length_replicate, ← e]; exact h
end Go.Proofs.YtkhmnkpdlodepaaDoor
