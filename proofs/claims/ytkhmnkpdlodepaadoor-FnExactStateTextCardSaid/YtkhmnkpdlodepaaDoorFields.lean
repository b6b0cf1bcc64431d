/- An argument that is a struct of int64 fields, by value: its value written out. No program in sight. -/
import Derived.Deep.Fields
import Derived.Lib.SmallJoins
import Derived.WalkKit
import Derived.ProofKit
namespace Go.Proofs.YtkhmnkpdlodepaaDoor
open Go.ChangeShapes Go.WideShapes Go.RowKit Go.Deep
section
variable {H : Type} {enc : TypeId × Value → H} {P : Program} {w : World} {base : Nat} {spare : Nat → Bool} {held : Bool}

theorem int_field {k : IntKind} {t : TypeId} {fs : Array Field} {fuel : Nat} {cs : List Value} {x : DataW H × List MemPlace} (hs : P.underlying t = some (.struct fs)) (hone : oneCellFields P fs = true)
    (hx : DataW.trod enc P w base spare held fuel t cs = some x) (i : Nat) (f : Field) (hf : fs[i]? = some f) (hk : P.underlying f.type = some (.int k)) :
    ∃ n, cs[i]? = some (.int k n) ∧ (Lit.int k n).wf = true := by
  obtain ⟨xs, m, _, _, _, hlen, hg⟩ := DataW.trod_struct hs hx
  obtain ⟨ho, hc⟩ := hone_of hone i f hf
  have hi : i < xs.length := by rw [hlen]; exact (Array.getElem?_eq_some_iff.1 hf).1
  have h1 := hg i f hf
  rw [ho, hc, List.getElem?_eq_getElem hi] at h1
  obtain ⟨n, hn, _, hw⟩ := DataW.trod_int hk h1
  refine ⟨n, ?_, hw⟩
  have h2 : ((cs.drop i).take 1)[0]? = some (Value.int k n) := by rw [hn]; rfl
  simpa [List.getElem?_take, List.getElem?_drop] using h2

theorem open_crc {r : Reach} {b0 : Nat} {t : TypeId} {f0 f1 : Field} {v : Value} {d : DataW H} {p : List MemPlace} (hs : P.underlying t = some (.struct #[f0, f1])) (hone : oneCellFields P #[f0, f1] = true) (hC : P.cellsOf t = 2)
    (h0 : P.underlying f0.type = some (.int .i64)) (h1 : P.underlying f1.type = some (.int .i64))
    (hv : Value.okWide P w r b0 t v) (h : DataW.Trod enc P w base spare held t v d p) :
    ∃ a b : Int, v = .agg #[.int .i64 a, .int .i64 b] ∧ (Lit.int .i64 a).wf = true ∧ (Lit.int .i64 b).wf = true := by
  obtain ⟨cs, rfl, hsz⟩ := okWide_struct hs hv
  obtain ⟨fuel, hf⟩ := h
  obtain ⟨a, ha, wa⟩ := int_field hs hone hf 0 f0 rfl h0
  obtain ⟨b, hb, wb⟩ := int_field hs hone hf 1 f1 rfl h1
  refine ⟨a, b, ?_, wa, wb⟩
  obtain ⟨l⟩ := cs
  match l, hsz.trans hC with
  | [c0, c1], _ =>
    simp [Value.cells] at ha hb
    subst ha hb
    rfl

theorem open_state {r : Reach} {b0 : Nat} {t : TypeId} {f0 f1 f2 f3 f4 : Field} {v : Value} {d : DataW H} {p : List MemPlace} (hs : P.underlying t = some (.struct #[f0, f1, f2, f3, f4])) (hone : oneCellFields P #[f0, f1, f2, f3, f4] = true) (hC : P.cellsOf t = 5)
    (h0 : P.underlying f0.type = some (.int .i64)) (h1 : P.underlying f1.type = some (.int .i64)) (h2 : P.underlying f2.type = some (.int .i64)) (h3 : P.underlying f3.type = some (.int .i64)) (h4 : P.underlying f4.type = some (.int .i64))
    (hv : Value.okWide P w r b0 t v) (h : DataW.Trod enc P w base spare held t v d p) :
    ∃ a b c e g : Int, v = .agg #[.int .i64 a, .int .i64 b, .int .i64 c, .int .i64 e, .int .i64 g] ∧ (Lit.int .i64 a).wf = true ∧ (Lit.int .i64 b).wf = true ∧ (Lit.int .i64 c).wf = true ∧ (Lit.int .i64 e).wf = true ∧ (Lit.int .i64 g).wf = true := by
  obtain ⟨cs, rfl, hsz⟩ := okWide_struct hs hv
  obtain ⟨fuel, hf⟩ := h
  obtain ⟨a, ha, wa⟩ := int_field hs hone hf 0 f0 rfl h0
  obtain ⟨b, hb, wb⟩ := int_field hs hone hf 1 f1 rfl h1
  obtain ⟨c, hc, wc⟩ := int_field hs hone hf 2 f2 rfl h2
  obtain ⟨e, he, we⟩ := int_field hs hone hf 3 f3 rfl h3
  obtain ⟨g, hg, wg⟩ := int_field hs hone hf 4 f4 rfl h4
  refine ⟨a, b, c, e, g, ?_, wa, wb, wc, we, wg⟩
  obtain ⟨l⟩ := cs
  match l, hsz.trans hC with
  | [c0, c1, c2, c3, c4], _ =>
    simp [Value.cells] at ha hb hc he hg
    subst ha hb hc he hg
    rfl
end
end Go.Proofs.YtkhmnkpdlodepaaDoor
