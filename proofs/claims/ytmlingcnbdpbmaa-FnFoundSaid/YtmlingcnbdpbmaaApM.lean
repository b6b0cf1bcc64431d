/- append of a whole list at a step of a region that draws. -/
import Derived.Test.YtmlingcnbdpbmaaApps
import Derived.Test.YtmlingcnbdpbmaaPlainL
import Derived.Deep.AppendLies
namespace Go.Proofs.Ytmlingcnbdpbmaa
open Go.RowKit
set_option linter.unusedVariables false

theorem step_appAll {P : Program} {ops : Array Oper} {o : Oper} {a : Act} {K : Act → World → Prop} {Q : Exit → Act → World → Prop} {X : Prop} {E T : TypeId} {i : TypeInfo}
    (hT : P.underlying T = some (.slice E)) (hi : P.info? E = some i) (hz : i.zero = some (.int .i64 0)) (hsz : i.size = 1) (hby : i.bytes = 8)
    (hg : o.guard = none) (s x : Operand) (hop : o.op = Op.call { callee := Callee.builtin Builtin.append, args := #[s, x], argTypes := #[T, T] })
    (w : World) (B : Nat) (v u : Value) (xs ys : List Int) (hs : a.eval s = v) (hx : a.eval x = u)
    (hO : Own E w B v xs) (hr : Rd .i64 w u ys) (hne : 0 < ys.length) (hl : xs.length ≤ 1099511627776) (hl2 : ys.length ≤ 1099511627776) (hB : B ≤ w.heap.size)
    (hK : ∀ v' w', Own E w' B v' (xs ++ ys) → Below B w w' → w.grownBy w' v.ownBlock → K (a.put o.dst v') w') :
    if Region.wanted o (yielded ops a.tmps) = true then Oper.wp P o a w K Q else X := by
  obtain ⟨ad, cap, rfl, hl3, hm, hn, hc⟩ := hr
  cases ad with
  | none => have hcap := hn rfl; omega
  | some ad =>
    refine step_append_lies w hg s x T hop B E i (.int .i64 0) 1 8 hT hi hz hsz hby rfl (by decide) v xs.length (xs.map (Value.int .i64)) hs hO
      ad ys.length cap (ys.map (Value.int .i64)) hx (by simp) ?_ (ints_oneCell _ _) hne (by unfold maxLen; omega) (by omega) hB _ rfl ?_
    · intro j u hu
      have hj : j < ys.length := by
        have := (List.getElem?_eq_some_iff.1 hu).1
        simpa using this
      obtain ⟨b, off, hb, hcell⟩ := hc j hj
      obtain rfl := Option.some.inj hb
      rw [Addr.add_lit, hcell]
      simp [hj] at hu
      rw [getD_of_lt _ _ hj, hu]
    · intro g cap' w' hown hgrow hat hlt
      refine hK _ w' ?_ ?_ hgrow
      · unfold Own
        rw [List.length_append, List.map_append]
        exact hown
      · exact below_of_grown hgrow hB (fun k hk => (World.ownsRow.lt hO k hk).1)
end Go.Proofs.Ytmlingcnbdpbmaa
