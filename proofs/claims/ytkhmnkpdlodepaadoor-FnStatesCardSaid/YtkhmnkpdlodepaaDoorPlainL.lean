/- Plain mathematics of the laws' helpers: copies, marks, equality of lists; rows that are written. No program in sight. -/
import Derived.Test.YtkhmnkpdlodepaaDoorNums
namespace Go.Proofs.YtkhmnkpdlodepaaDoor
open Go.RowKit

/-- The first k elements are copied, the rest is 0. -/
def fill (xs : List Int) (k : Nat) : List Int := xs.take k ++ List.replicate (xs.length - k) 0
theorem fill_zero (xs : List Int) : fill xs 0 = List.replicate xs.length 0 := by simp [fill]
theorem fill_all (xs : List Int) : fill xs xs.length = xs := by simp [fill]
theorem length_fill (xs : List Int) (k : Nat) (h : k ≤ xs.length) : (fill xs k).length = xs.length := by simp [fill]; omega
theorem fill_set (xs : List Int) (k : Nat) (h : k < xs.length) : (fill xs k).set k (xs.getD k 0) = fill xs (k + 1) := by
  have e : List.replicate (xs.length - k) (0 : Int) = 0 :: List.replicate (xs.length - (k + 1)) 0 := by
    have : xs.length - k = (xs.length - (k + 1)) + 1 := by omega
    rw [this]; rfl
  have hl : (xs.take k).length = k := by rw [List.length_take]; omega
  rw [fill, e, List.set_append_right _ _ (by rw [hl]; exact Nat.le_refl _), hl, Nat.sub_self, fill, take_succ_getD xs k h, List.append_assoc]
  rfl

/-- k, k + 1, .. -/
def marks (k : Int) (n : Nat) : List Int := (List.range n).map fun i : Nat => k + (i : Int)
theorem length_marks (k : Int) (n : Nat) : (marks k n).length = n := by simp [marks]
theorem marks_getD (k : Int) (n i : Nat) (h : i < n) : (marks k n).getD i 0 = k + i := by simp [marks, List.getD, h]
/-- The first j elements are marked. -/
def marked (k : Int) (xs : List Int) (j : Nat) : List Int := marks k j ++ xs.drop j
theorem marked_zero (k : Int) (xs : List Int) : marked k xs 0 = xs := by simp [marked, marks]
theorem marked_all (k : Int) (xs : List Int) : marked k xs xs.length = marks k xs.length := by simp [marked]
theorem length_marked (k : Int) (xs : List Int) (j : Nat) (h : j ≤ xs.length) : (marked k xs j).length = xs.length := by simp [marked, length_marks]; omega
theorem marked_set (k : Int) (xs : List Int) (j : Nat) (h : j < xs.length) : (marked k xs j).set j (k + j) = marked k xs (j + 1) := by
  have e : xs.drop j = xs[j] :: xs.drop (j + 1) := List.drop_eq_getElem_cons h
  have e2 : marks k (j + 1) = marks k j ++ [k + (j : Int)] := by simp [marks, List.range_succ]
  rw [marked, e, marked, e2, List.set_append_right _ _ (by rw [length_marks]; exact Nat.le_refl _), length_marks, Nat.sub_self, List.append_assoc]
  rfl

/-- Are the lists equal? -/
def eqB (xs ys : List Int) : Bool := decide (xs = ys)
theorem eqB_self (xs : List Int) : eqB xs xs = true := by simp [eqB]
theorem eqB_len {xs ys : List Int} (h : xs.length ≠ ys.length) : eqB xs ys = false := by
  simp [eqB]; intro e; rw [e] at h; exact h rfl
theorem eqB_at {xs ys : List Int} (k : Nat) (h : xs.getD k 0 ≠ ys.getD k 0) : eqB xs ys = false := by
  simp [eqB]; intro e; rw [e] at h; exact h rfl

theorem grownBy_trans {a b c : World} {row : Option Nat} (h : a.grownBy b row) (k : b.grownBy c row) : a.grownBy c row :=
  ⟨k.os.trans h.os, k.tape.trans h.tape, k.output.trans h.output, Nat.le_trans h.size k.size, fun i hi hn => (k.block i (Nat.lt_of_lt_of_le hi h.size) hn).trans (h.block i hi hn)⟩
theorem below_of_grown {w w' : World} {B : Nat} {row : Option Nat} (hg : w.grownBy w' row) (hB : B ≤ w.heap.size) (hr : ∀ k, row = some k → B ≤ k) : Below B w w' :=
  (Below.refl B w).grown hg hB hr
theorem grown_of_below {w w' : World} {row : Option Nat} (hb : Below w.heap.size w w') : w.grownBy w' row :=
  ⟨hb.os, hb.tape, hb.output, hb.size, fun k hk _ => hb.block k hk⟩

theorem Own.kept {E : TypeId} {w w' : World} {B : Nat} {v : Value} {xs : List Int} {row : Option Nat} (h : Own E w B v xs) (hg : w.grownBy w' row) (hne : v.ownBlock = none ∨ v.ownBlock ≠ row) : Own E w' B v xs :=
  World.ownsRow.kept h hg hne
theorem Own.shape {E : TypeId} {w : World} {B : Nat} {v : Value} {xs : List Int} (h : Own E w B v xs) :
    (v = .slice none 0 0 ∧ xs = []) ∨ ∃ g cap, v = .slice (some ⟨g, 0, none⟩) xs.length cap ∧ B ≤ g ∧ g < w.heap.size ∧ xs.length ≤ cap ∧ cap ≤ maxLen := by
  rcases h.2 with ⟨hv, hn⟩ | ⟨g, cap, cur, hv, hg, hh, hn, hc, hs, ht⟩
  · exact .inl ⟨hv, List.eq_nil_of_length_eq_zero hn⟩
  · exact .inr ⟨g, cap, hv, hg, (Array.getElem?_eq_some_iff.1 hh).1, hn, hc⟩
theorem Own.cell {E : TypeId} {w : World} {B g cap n : Nat} {xs : List Int} (h : Own E w B (.slice (some ⟨g, 0, none⟩) n cap) xs) (j : Nat) (hj : j < xs.length) : w.cell? ⟨g, j, none⟩ = some (.int .i64 (xs.getD j 0)) := by
  have hn : n = xs.length := by
    rcases h.shape with ⟨h1, _⟩ | ⟨g', cap', h1, _⟩
    · cases h1
    · simp only [Value.slice.injEq] at h1; exact h1.2.1
  subst hn
  rw [World.ownsRow.cellAt h j (by omega)]
  simp [List.getD, hj]
theorem Own.free {E : TypeId} {w : World} {B g cap n : Nat} {xs : List Int} (h : Own E w B (.slice (some ⟨g, 0, none⟩) n cap) xs) (j : Nat) : w.frozen? ⟨g, j, none⟩ = false := by
  have hn : n = xs.length := by
    rcases h.shape with ⟨h1, _⟩ | ⟨g', cap', h1, _⟩
    · cases h1
    · simp only [Value.slice.injEq] at h1; exact h1.2.1
  subst hn
  exact World.ownsRow.frozenAt h j
theorem Own.set {E : TypeId} {w : World} {B g cap n : Nat} {xs : List Int} (h : Own E w B (.slice (some ⟨g, 0, none⟩) n cap) xs) (j : Nat) (x : Int) :
    Own E (w.setCell ⟨g, j, none⟩ (.int .i64 x)) B (.slice (some ⟨g, 0, none⟩) n cap) (xs.set j x) ∧ w.grownBy (w.setCell ⟨g, j, none⟩ (.int .i64 x)) (some g) := by
  have hn : n = xs.length := by
    rcases h.shape with ⟨h1, _⟩ | ⟨g', cap', h1, _⟩
    · cases h1
    · simp only [Value.slice.injEq] at h1; exact h1.2.1
  subst hn
  have hs := World.ownsRow.stored h j (.int .i64 x)
  refine ⟨?_, hs.2⟩
  unfold Own
  rw [List.map_set, List.length_set]
  exact hs.1

/-- The row of v, if it has one, lies between two blocks. -/
def Between (v : Value) (lo hi : Nat) : Prop := ∀ k, v.ownBlock = some k → lo ≤ k ∧ k < hi
theorem Own.between {E : TypeId} {w : World} {B : Nat} {v : Value} {xs : List Int} (h : Own E w B v xs) : Between v B w.heap.size := World.ownsRow.lt h
theorem Between.ne {u v : Value} {a b c d : Nat} (h : Between u a b) (k : Between v c d) (hh : b ≤ c ∨ d ≤ a) : u.ownBlock = none ∨ u.ownBlock ≠ v.ownBlock := by
  cases hu : u.ownBlock with
  | none => exact .inl rfl
  | some i =>
    refine .inr fun e => ?_
    have h1 := h i hu
    have h2 := k i e.symm
    omega

/-- What a call that makes a list and hands back a code beside it. -/
def OwnRes2 (E : TypeId) (w : World) (xs : List Int) (code : Int) (e : Ending) (w' : World) : Prop := ∃ v, e = .returned (.tuple #[v, .int .i64 code]) ∧ Own E w' w.heap.size v xs ∧ Below w.heap.size w w'
/-- What a call that makes a list hands back. -/
def OwnRes (E : TypeId) (w : World) (xs : List Int) (e : Ending) (w' : World) : Prop := ∃ v, e = .returned v ∧ Own E w' w.heap.size v xs ∧ Below w.heap.size w w'
end Go.Proofs.YtkhmnkpdlodepaaDoor
