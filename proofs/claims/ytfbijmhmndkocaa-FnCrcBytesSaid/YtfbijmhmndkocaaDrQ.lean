/- Contracts: drawn codes with a seed and a list. -/
import Derived.Test.YtfbijmhmndkocaaDrC
import Derived.Test.YtfbijmhmndkocaaDrS
import Derived.Deep.RegionHeld3
namespace Go.Proofs.Ytfbijmhmndkocaa
open Go.RowKit
set_option linter.unusedVariables false
set_option linter.unusedSimpArgs false

/-- What a draw of a code, a seed and a list hands back. -/
def DrawnCNL (m : Nat) (w : World) (e : Ending) (w' : World) : Prop := ∃ (wd po x : Int) (v : Value) (xs : List Int), e = .returned (.tuple #[.agg #[.int .i64 wd, .int .i64 po], .int .i64 x, v]) ∧ Own 2 w' w.heap.size v xs ∧ Short xs m ∧ Below w.heap.size w w'
/-- What a draw of a code and a list hands back. -/
def DrawnCL (m : Nat) (w : World) (e : Ending) (w' : World) : Prop := ∃ (wd po : Int) (v : Value) (xs : List Int), e = .returned (.tuple #[.agg #[.int .i64 wd, .int .i64 po], v]) ∧ Own 2 w' w.heap.size v xs ∧ Short xs m ∧ Below w.heap.size w w'
theorem Own.setFar {E : TypeId} {w : World} {B g : Nat} {v : Value} {xs : List Int} (h : Own E w B v xs) (hB : g < B) (i : Nat) (u : Value) : Own E (w.setCell ⟨g, i, none⟩ u) B v xs :=
  h.far (grown_set (World.grownBy.refl w (some g)) i u) hB
set_option maxHeartbeats 4000000 in
theorem drawCrcOfBits_any (v : Value) (cs : List Int) (w : World) (hr : Rd .u8 w v cs) (hl : cs.length ≤ 4096) (ho : ∀ x ∈ cs, 0 ≤ x ∧ x ≤ 255) : Calls Try.prog 33 #[v] w (DrawnCNL 40 w) := by
  have HB := Lib.hid ((Below.refl w.heap.size w).alloc (Nat.le_refl _) (.cells #[.int .i64 0, .int .i64 0] 25))
  have HR := Lib.hid (hr.below HB.out)
  have HO8 := Lib.hid ho
  have HC := Lib.hid (Cell2.new w 0 0 25)
  clear hr ho
  go_enter Try.func33, Try.ntmps33
  go_wp2_with fail
  refine (from_any _ cs _ HR.out hl HO8.out).mono ?_
  rintro e w1 ⟨rfl, hS, hb⟩
  have HS : Hid (SrcAt w1 (w.heap.size + 1)) := Lib.hid (by simpa using hS)
  replace HB := Lib.hid (HB.out.trans (hb.mono (by simp)))
  replace HC := Lib.hid (HC.out.next hb)
  clear hS hb
  try simp only [World.size_alloc]
  go_wp2_with fail
  refine (drawCrc_any (w.heap.size + 1) _ HS.out).mono ?_
  rintro e w2 ⟨wd, po, rfl, hS, hg⟩
  have hz := HS.out.lt
  replace HB := Lib.hid (HB.out.trans (grown_below hg (by omega) (by omega)))
  replace HC := Lib.hid (HC.out.below (grown_below hg (Nat.le_refl _) (by omega)) (by omega))
  replace HS := Lib.hid hS
  clear hS hg hz
  have hz2 : w.heap.size + 1 < w2.heap.size := HS.out.lt
  have HG := Lib.hid (Cell2.new w2 wd po 25)
  replace HS := Lib.hid (HS.out.alloc (.cells #[.int .i64 wd, .int .i64 po] 25))
  replace HB := Lib.hid (HB.out.alloc HB.out.size (.cells #[.int .i64 wd, .int .i64 po] 25))
  replace HC := Lib.hid (HC.out.alloc (.cells #[.int .i64 wd, .int .i64 po] 25))
  go_wp2_with fail
  refine (drawSeed_any (w.heap.size + 1) _ _ _ HS.out).mono ?_
  rintro e w3 ⟨x, rfl, hS, hg⟩
  have hz := HS.out.lt
  replace HB := Lib.hid (HB.out.trans (grown_below hg (by omega) (by omega)))
  replace HC := Lib.hid (HC.out.below (grown_below hg (Nat.le_refl _) (by omega)) (by omega))
  replace HG := Lib.hid (HG.out.far hg hz2)
  replace HS := Lib.hid hS
  clear hS hg hz
  obtain ⟨G, hG⟩ : ∃ G, G = w2.heap.size := ⟨_, rfl⟩
  rw [← hG] at HG hz2 ⊢
  clear hG
  obtain ⟨c0, c1, f0, f1⟩ := HG.out
  have HSd := Lib.hid HS.out.drew
  have HBd := Lib.hid HB.out.drew
  have HCd := Lib.hid HC.out.drew
  have HGd := Lib.hid HG.out.drew
  have hzd := HSd.out.lt
  have hGa : ¬ (G = w.heap.size) := by omega
  have hGb : ¬ (w.heap.size = G) := by omega
  go_wp2_with fail
  go_region_held3 (fun w' => w'.cell? ⟨G, 0, none⟩ = some (.int .i64 wd) ∧ w'.cell? ⟨G, 1, none⟩ = some (.int .i64 po)) (go_keep)
    ((first | (go_at_call 55; (refine (drawBits_any (w.heap.size + 1) 40 _ HSd.out (by decide)).mono ?_; rintro e w4 ⟨va, xs, rfl, hO, hsh, hS, hg⟩; have HB4 := Lib.hid (HBd.out.trans (grown_below hg (by omega) (by omega))); have HC4 := Lib.hid (HCd.out.below (grown_below hg (Nat.le_refl _) (by omega)) (by omega)); have HG4 := Lib.hid (HGd.out.far hg hz2); have HO4 := Lib.hid (hO.mono (show w.heap.size + 1 ≤ _ by omega)); have HSH := Lib.hid hsh; obtain ⟨d0, d1, e0, e1⟩ := HG4.out; obtain ⟨r0, r1, g0, g1⟩ := HC4.out; clear hO hsh hS hg)) | fail))
  go_wp2_with fail
  try simp only [Exit.inBlock, Exit.then]
  refine bodyPost_ret (by simp [results, Try.results33, go_sem, r0, r1]; try rfl) rfl ?_
  exact ⟨_, _, _, _, xs, rfl, ((HO4.out.setFar (Nat.lt_succ_self _) _ _).setFar (Nat.lt_succ_self _) _ _).mono (by omega), HSH.out, (HB4.out.setCell (p := ⟨w.heap.size, 0, none⟩) (Nat.le_refl _) _).setCell (p := ⟨w.heap.size, 1, none⟩) (Nat.le_refl _) _⟩
set_option maxHeartbeats 4000000 in
theorem drawCrcOfBytes_any (v : Value) (cs : List Int) (w : World) (hr : Rd .u8 w v cs) (hl : cs.length ≤ 4096) (ho : ∀ x ∈ cs, 0 ≤ x ∧ x ≤ 255) : Calls Try.prog 18 #[v] w (DrawnCNL 6 w) := by
  have HB := Lib.hid ((Below.refl w.heap.size w).alloc (Nat.le_refl _) (.cells #[.int .i64 0, .int .i64 0] 25))
  have HR := Lib.hid (hr.below HB.out)
  have HO8 := Lib.hid ho
  have HC := Lib.hid (Cell2.new w 0 0 25)
  clear hr ho
  go_enter Try.func18, Try.ntmps18
  go_wp2_with fail
  refine (from_any _ cs _ HR.out hl HO8.out).mono ?_
  rintro e w1 ⟨rfl, hS, hb⟩
  have HS : Hid (SrcAt w1 (w.heap.size + 1)) := Lib.hid (by simpa using hS)
  replace HB := Lib.hid (HB.out.trans (hb.mono (by simp)))
  replace HC := Lib.hid (HC.out.next hb)
  clear hS hb
  try simp only [World.size_alloc]
  go_wp2_with fail
  refine (drawCrc_any (w.heap.size + 1) _ HS.out).mono ?_
  rintro e w2 ⟨wd, po, rfl, hS, hg⟩
  have hz := HS.out.lt
  replace HB := Lib.hid (HB.out.trans (grown_below hg (by omega) (by omega)))
  replace HC := Lib.hid (HC.out.below (grown_below hg (Nat.le_refl _) (by omega)) (by omega))
  replace HS := Lib.hid hS
  clear hS hg hz
  have hz2 : w.heap.size + 1 < w2.heap.size := HS.out.lt
  have HG := Lib.hid (Cell2.new w2 wd po 25)
  replace HS := Lib.hid (HS.out.alloc (.cells #[.int .i64 wd, .int .i64 po] 25))
  replace HB := Lib.hid (HB.out.alloc HB.out.size (.cells #[.int .i64 wd, .int .i64 po] 25))
  replace HC := Lib.hid (HC.out.alloc (.cells #[.int .i64 wd, .int .i64 po] 25))
  go_wp2_with fail
  refine (drawSeed_any (w.heap.size + 1) _ _ _ HS.out).mono ?_
  rintro e w3 ⟨x, rfl, hS, hg⟩
  have hz := HS.out.lt
  replace HB := Lib.hid (HB.out.trans (grown_below hg (by omega) (by omega)))
  replace HC := Lib.hid (HC.out.below (grown_below hg (Nat.le_refl _) (by omega)) (by omega))
  replace HG := Lib.hid (HG.out.far hg hz2)
  replace HS := Lib.hid hS
  clear hS hg hz
  obtain ⟨G, hG⟩ : ∃ G, G = w2.heap.size := ⟨_, rfl⟩
  rw [← hG] at HG hz2 ⊢
  clear hG
  obtain ⟨c0, c1, f0, f1⟩ := HG.out
  have HSd := Lib.hid HS.out.drew
  have HBd := Lib.hid HB.out.drew
  have HCd := Lib.hid HC.out.drew
  have HGd := Lib.hid HG.out.drew
  have hzd := HSd.out.lt
  have hGa : ¬ (G = w.heap.size) := by omega
  have hGb : ¬ (w.heap.size = G) := by omega
  go_wp2_with fail
  go_region_held3 (fun w' => w'.cell? ⟨G, 0, none⟩ = some (.int .i64 wd) ∧ w'.cell? ⟨G, 1, none⟩ = some (.int .i64 po)) (go_keep)
    ((first | (go_at_call 43; (refine (drawBytes_any (w.heap.size + 1) 6 _ HSd.out (by decide)).mono ?_; rintro e w4 ⟨va, xs, rfl, hO, hsh, hS, hg⟩; have HB4 := Lib.hid (HBd.out.trans (grown_below hg (by omega) (by omega))); have HC4 := Lib.hid (HCd.out.below (grown_below hg (Nat.le_refl _) (by omega)) (by omega)); have HG4 := Lib.hid (HGd.out.far hg hz2); have HO4 := Lib.hid (hO.mono (show w.heap.size + 1 ≤ _ by omega)); have HSH := Lib.hid hsh; obtain ⟨d0, d1, e0, e1⟩ := HG4.out; obtain ⟨r0, r1, g0, g1⟩ := HC4.out; clear hO hsh hS hg)) | fail))
  go_wp2_with fail
  try simp only [Exit.inBlock, Exit.then]
  refine bodyPost_ret (by simp [results, Try.results18, go_sem, r0, r1]; try rfl) rfl ?_
  exact ⟨_, _, _, _, xs, rfl, ((HO4.out.setFar (Nat.lt_succ_self _) _ _).setFar (Nat.lt_succ_self _) _ _).mono (by omega), HSH.out, (HB4.out.setCell (p := ⟨w.heap.size, 0, none⟩) (Nat.le_refl _) _).setCell (p := ⟨w.heap.size, 1, none⟩) (Nat.le_refl _) _⟩
set_option maxHeartbeats 1000000 in
theorem drawSeedAfter_any (v : Value) (cs : List Int) (w : World) (hr : Rd .u8 w v cs) (hl : cs.length ≤ 4096) (ho : ∀ x ∈ cs, 0 ≤ x ∧ x ≤ 255) : Calls Try.prog 8 #[v] w (DrawnCNL 40 w) := by
  have HB := Lib.hid ((Below.refl w.heap.size w).alloc (Nat.le_refl _) (.cells #[.int .i64 0, .int .i64 0] 25))
  have HR := Lib.hid (hr.below HB.out)
  have HO8 := Lib.hid ho
  have HC := Lib.hid (Cell2.new w 0 0 25)
  clear hr ho
  go_enter Try.func8, Try.ntmps8
  go_wp2_with fail
  refine (drawCrcOfBits_any _ cs _ HR.out hl HO8.out).mono ?_
  rintro e w1 ⟨wd, po, x, va, xs, rfl, hO, hsh, hb⟩
  have HO := Lib.hid (hO.mono (show w.heap.size + 1 ≤ _ by simp))
  have HSH := Lib.hid hsh
  replace HB := Lib.hid (HB.out.trans (hb.mono (by simp)))
  replace HC := Lib.hid (HC.out.next hb)
  obtain ⟨r0, r1, g0, g1⟩ := HC.out
  clear hO hsh hb
  go_wp2_with fail
  try simp only [Exit.inBlock, Exit.then]
  refine bodyPost_ret (by simp [results, Try.results8, go_sem, r0, r1]; try rfl) rfl ?_
  exact ⟨_, _, _, _, xs, rfl, ((HO.out.setFar (Nat.lt_succ_self _) _ _).setFar (Nat.lt_succ_self _) _ _).mono (by omega), HSH.out, (HB.out.setCell (p := ⟨w.heap.size, 0, none⟩) (Nat.le_refl _) _).setCell (p := ⟨w.heap.size, 1, none⟩) (Nat.le_refl _) _⟩
set_option maxHeartbeats 1000000 in
theorem drawAppendCrc_any (v : Value) (cs : List Int) (w : World) (hr : Rd .u8 w v cs) (hl : cs.length ≤ 4096) (ho : ∀ x ∈ cs, 0 ≤ x ∧ x ≤ 255) : Calls Try.prog 27 #[v] w (DrawnCNL 40 w) := by
  have HB := Lib.hid ((Below.refl w.heap.size w).alloc (Nat.le_refl _) (.cells #[.int .i64 0, .int .i64 0] 25))
  have HR := Lib.hid (hr.below HB.out)
  have HO8 := Lib.hid ho
  have HC := Lib.hid (Cell2.new w 0 0 25)
  clear hr ho
  go_enter Try.func27, Try.ntmps27
  go_wp2_with fail
  refine (drawCrcOfBits_any _ cs _ HR.out hl HO8.out).mono ?_
  rintro e w1 ⟨wd, po, x, va, xs, rfl, hO, hsh, hb⟩
  have HO := Lib.hid (hO.mono (show w.heap.size + 1 ≤ _ by simp))
  have HSH := Lib.hid hsh
  replace HB := Lib.hid (HB.out.trans (hb.mono (by simp)))
  replace HC := Lib.hid (HC.out.next hb)
  obtain ⟨r0, r1, g0, g1⟩ := HC.out
  clear hO hsh hb
  go_wp2_with fail
  try simp only [Exit.inBlock, Exit.then]
  refine bodyPost_ret (by simp [results, Try.results27, go_sem, r0, r1]; try rfl) rfl ?_
  exact ⟨_, _, _, _, xs, rfl, ((HO.out.setFar (Nat.lt_succ_self _) _ _).setFar (Nat.lt_succ_self _) _ _).mono (by omega), HSH.out, (HB.out.setCell (p := ⟨w.heap.size, 0, none⟩) (Nat.le_refl _) _).setCell (p := ⟨w.heap.size, 1, none⟩) (Nat.le_refl _) _⟩
set_option maxHeartbeats 1000000 in
theorem drawSyndromeOf_any (v : Value) (cs : List Int) (w : World) (hr : Rd .u8 w v cs) (hl : cs.length ≤ 4096) (ho : ∀ x ∈ cs, 0 ≤ x ∧ x ≤ 255) : Calls Try.prog 15 #[v] w (DrawnCL 40 w) := by
  have HB := Lib.hid ((Below.refl w.heap.size w).alloc (Nat.le_refl _) (.cells #[.int .i64 0, .int .i64 0] 25))
  have HR := Lib.hid (hr.below HB.out)
  have HO8 := Lib.hid ho
  have HC := Lib.hid (Cell2.new w 0 0 25)
  clear hr ho
  go_enter Try.func15, Try.ntmps15
  go_wp2_with fail
  refine (drawCrcOfBits_any _ cs _ HR.out hl HO8.out).mono ?_
  rintro e w1 ⟨wd, po, x, va, xs, rfl, hO, hsh, hb⟩
  have hz1 := hb.size
  simp only [World.size_alloc] at hz1
  have HO := Lib.hid ((hO.mono (show w.heap.size + 1 ≤ _ by simp)).alloc (.cells #[.int .i64 wd, .int .i64 po] 25))
  have HSH := Lib.hid hsh
  replace HB := Lib.hid ((HB.out.trans (hb.mono (by simp))).alloc (by omega) (.cells #[.int .i64 wd, .int .i64 po] 25))
  replace HC := Lib.hid ((HC.out.next hb).alloc (.cells #[.int .i64 wd, .int .i64 po] 25))
  obtain ⟨r0, r1, g0, g1⟩ := HC.out
  have hne : ¬ (w1.heap.size = w.heap.size) := by omega
  have hne2 : ¬ (w.heap.size = w1.heap.size) := by omega
  clear hO hsh hb
  go_wp2_with fail
  try simp only [Exit.inBlock, Exit.then]
  refine bodyPost_ret (by simp [results, Try.results15, go_sem, r0, r1]; try rfl) rfl ?_
  exact ⟨_, _, _, xs, rfl, ((HO.out.setFar (Nat.lt_succ_self _) _ _).setFar (Nat.lt_succ_self _) _ _).mono (by omega), HSH.out, (HB.out.setCell (p := ⟨w.heap.size, 0, none⟩) (Nat.le_refl _) _).setCell (p := ⟨w.heap.size, 1, none⟩) (Nat.le_refl _) _⟩
end Go.Proofs.Ytfbijmhmndkocaa
