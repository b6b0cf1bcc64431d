/- append, and where the new row lies: two rows that grow side by side. No program in sight. -/
import Derived.Test.YtkhmnkpdlodepaaDoorApps
import Derived.Test.YtkhmnkpdlodepaaDoorPlainL
import Derived.Deep.AppendLies
namespace Go.Proofs.YtkhmnkpdlodepaaDoor
open Go.RowKit
set_option linter.unusedVariables false

/-- The rows of u and v, if both have one, are two. -/
def Apart (u v : Value) : Prop := ∀ g, u.ownBlock = some g → v.ownBlock ≠ some g
theorem Apart.symm {u v : Value} (h : Apart u v) : Apart v u := fun g h1 h2 => h g h2 h1
theorem Apart.kept {u v : Value} (h : Apart u v) : u.ownBlock = none ∨ u.ownBlock ≠ v.ownBlock := by
  cases hu : u.ownBlock with
  | none => exact .inl rfl
  | some g => exact .inr fun e => h g hu e.symm
theorem Apart.of_between {u v : Value} {a b c d : Nat} (h : Between u a b) (k : Between v c d) (hh : b ≤ c ∨ d ≤ a) : Apart u v := fun g h1 h2 => by
  have := h g h1
  have := k g h2
  omega
/-- The new value lies where the old one lay, or in a block that is new. -/
def Moved (w : World) (v v' : Value) : Prop := ∀ k, v'.ownBlock = some k → v.ownBlock = some k ∨ w.heap.size ≤ k
theorem Apart.moved {E : TypeId} {w : World} {B : Nat} {u v v' : Value} {ys : List Int} (h : Apart u v) (hu : Own E w B u ys) (hm : Moved w v v') : Apart u v' := fun g h1 h2 => by
  rcases hm g h2 with h3 | h3
  · exact h g h1 h3
  · have := hu.between g h1
    omega
theorem Between.ne_some {v : Value} {lo hi D : Nat} (h : Between v lo hi) (hD : hi ≤ D) : v.ownBlock = none ∨ v.ownBlock ≠ some D := by
  cases hv : v.ownBlock with
  | none => exact .inl rfl
  | some g =>
    refine .inr fun e => ?_
    have := h g hv
    cases e
    omega

theorem wpList_app1L {P : Program} {ops : Array Oper} {rest : List Oper} {o : Oper} {a : Act} {Q : Exit → Act → World → Prop} {E T : TypeId} {i : TypeInfo}
    (hT : P.underlying T = some (.slice E)) (hi : P.info? E = some i) (hz : i.zero = some (.int .i64 0)) (hsz : i.size = 1) (hby : i.bytes = 8)
    (hg : o.guard = none) (s x : Operand) (hop : o.op = Op.call { callee := Callee.builtin Builtin.append, args := #[s, x], argTypes := #[T, T] })
    (w : World) (y : Int) (B : Nat) (v : Value) (xs : List Int) (hs : a.eval s = v) (hx : a.eval x = .slice (some ⟨w.heap.size, 0, none⟩) 1 1)
    (hO : Own E w B v xs) (hl : xs.length ≤ 1099511627776) (hB : B ≤ w.heap.size)
    (hK : ∀ v' w', Own E w' B v' (xs ++ [y]) → Below B w w' → w.grownBy w' v.ownBlock → Moved w v v' → wpList P ops Q rest (a.put o.dst v') w') :
    wpList P ops Q (o :: rest) a (w.alloc (.cells #[.int .i64 y] E)) := by
  refine wpList_append_lies _ hg s x T hop B E i (.int .i64 0) 1 8 hT hi hz hsz hby rfl (by decide) v xs.length (xs.map (Value.int .i64)) hs (World.ownsRow.alloc hO _)
    ⟨w.heap.size, 0, none⟩ 1 1 [.int .i64 y] hx rfl ?_ ?_ (by decide) (by unfold maxLen; omega) (by omega) (by simp; omega) _ rfl ?_
  · intro j u hj
    match j, hj with
    | 0, hj => simp at hj; subst hj; simp [Addr.add]
  · intro u hu; simp at hu; subst hu; rfl
  · intro g cap w' hown hgrow hat hlt
    have hg2 : w.grownBy w' v.ownBlock := grownBy_trans (World.grownBy_alloc w _ _) hgrow
    refine hK _ w' ?_ ?_ hg2 ?_
    · unfold Own
      rw [List.length_append, List.map_append]
      exact hown
    · exact below_of_grown hg2 hB (fun k hk => (World.ownsRow.lt hO k hk).1)
    · intro k hk
      have hk2 : g = k := by simpa [Value.ownBlock] using hk
      subst hk2
      rcases hat with h | h
      · exact .inl h
      · right; rw [h]; simp
theorem step_app1L {P : Program} {ops : Array Oper} {o : Oper} {a : Act} {K : Act → World → Prop} {Q : Exit → Act → World → Prop} {X : Prop} {E T : TypeId} {i : TypeInfo}
    (hT : P.underlying T = some (.slice E)) (hi : P.info? E = some i) (hz : i.zero = some (.int .i64 0)) (hsz : i.size = 1) (hby : i.bytes = 8)
    (hg : o.guard = none) (s x : Operand) (hop : o.op = Op.call { callee := Callee.builtin Builtin.append, args := #[s, x], argTypes := #[T, T] })
    (w : World) (g : Nat) (y : Int) (B : Nat) (v : Value) (xs : List Int) (hs : a.eval s = v) (hx : a.eval x = .slice (some ⟨g, 0, none⟩) 1 1)
    (hcell : w.cell? ⟨g, 0, none⟩ = some (.int .i64 y)) (hO : Own E w B v xs) (hl : xs.length ≤ 1099511627776) (hB : B ≤ w.heap.size)
    (hK : ∀ v' w', Own E w' B v' (xs ++ [y]) → Below B w w' → w.grownBy w' v.ownBlock → Moved w v v' → K (a.put o.dst v') w') :
    if Region.wanted o (yielded ops a.tmps) = true then Oper.wp P o a w K Q else X := by
  refine step_append_lies w hg s x T hop B E i (.int .i64 0) 1 8 hT hi hz hsz hby rfl (by decide) v xs.length (xs.map (Value.int .i64)) hs hO
    ⟨g, 0, none⟩ 1 1 [.int .i64 y] hx rfl ?_ ?_ (by decide) (by unfold maxLen; omega) (by omega) hB _ rfl ?_
  · intro j u hj
    match j, hj with
    | 0, hj => simp at hj; subst hj; simpa [Addr.add] using hcell
  · intro u hu; simp at hu; subst hu; rfl
  · intro g' cap w' hown hgrow hat hlt
    refine hK _ w' ?_ ?_ hgrow ?_
    · unfold Own
      rw [List.length_append, List.map_append]
      exact hown
    · exact below_of_grown hgrow hB (fun k hk => (World.ownsRow.lt hO k hk).1)
    · intro k hk
      have hk2 : g' = k := by simpa [Value.ownBlock] using hk
      subst hk2
      rcases hat with h | h
      · exact .inl h
      · right; rw [h]; exact Nat.le_refl _
end Go.Proofs.YtkhmnkpdlodepaaDoor
