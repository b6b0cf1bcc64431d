/- Contracts: DrawBytesToBits, DrawBitsToBytes. -/
import Derived.Test.YtmmgpgmjphjgnaaDrT
import Derived.Test.YtmmgpgmjphjgnaaBytes
namespace Go.Proofs.Ytmmgpgmjphjgnaa
open Go.RowKit
set_option linter.unusedVariables false
set_option linter.unusedSimpArgs false

/-- What a draw of a list alone hands back, of any length. -/
def DrawnAny (w : World) (e : Ending) (w' : World) : Prop := ∃ v xs, e = .returned v ∧ Own 2 w' w.heap.size v xs ∧ Below w.heap.size w w'
set_option maxHeartbeats 1000000 in
theorem drawBytesToBits_any (v : Value) (cs : List Int) (w : World) (hr : Rd .u8 w v cs) (hl : cs.length ≤ 4096) (ho : ∀ x ∈ cs, 0 ≤ x ∧ x ≤ 255) : Calls Try.prog 24 #[v] w (DrawnAny w) := by
  have HR := Lib.hid hr
  have HO8 := Lib.hid ho
  clear hr ho
  go_enter Try.func24, Try.ntmps24
  go_wp2_with fail
  refine (from_any _ cs _ HR.out hl HO8.out).mono ?_
  rintro e w1 ⟨rfl, hS, hb⟩
  have HS := Lib.hid hS
  have HB := Lib.hid hb
  clear hS hb
  go_wp2_with fail
  refine (drawBytes_any w.heap.size 6 _ HS.out (by decide)).mono ?_
  rintro e w2 ⟨v2, xs, rfl, hO, hsh, hS, hg⟩
  have HO := Lib.hid (hO.mono HB.out.size)
  replace HB := Lib.hid (HB.out.trans (grown_below hg (Nat.le_refl _) HB.out.size))
  clear hO hsh hS hg
  go_wp2_with fail
  go_ret
  exact ⟨v2, xs, rfl, HO.out, HB.out⟩
set_option maxHeartbeats 1000000 in
theorem drawBitsToBytes_any (v : Value) (cs : List Int) (w : World) (hr : Rd .u8 w v cs) (hl : cs.length ≤ 4096) (ho : ∀ x ∈ cs, 0 ≤ x ∧ x ≤ 255) : Calls Try.prog 27 #[v] w (DrawnAny w) := by
  have HR := Lib.hid hr
  have HO8 := Lib.hid ho
  clear hr ho
  go_enter Try.func27, Try.ntmps27
  go_wp2_with fail
  refine (from_any _ cs _ HR.out hl HO8.out).mono ?_
  rintro e w1 ⟨rfl, hS, hb⟩
  have HS := Lib.hid hS
  have HB := Lib.hid hb
  clear hS hb
  go_wp2_with fail
  refine (next_any w.heap.size _ _ HS.out).mono ?_
  rintro e w2 ⟨z, rfl, hz0, hz1, hS, hg⟩
  replace HB := Lib.hid (HB.out.trans (grown_below hg (Nat.le_refl _) HB.out.size))
  replace HS := Lib.hid hS
  clear hS hg hz0 hz1
  by_cases hz : z = 0
  · subst hz
    go_wp2_with fail
    refine (drawBits_any w.heap.size 20 _ HS.out (by decide)).mono ?_
    rintro e w3 ⟨v2, xs, rfl, hO, hsh, hS, hg⟩
    have HO := Lib.hid (hO.mono HB.out.size)
    replace HB := Lib.hid (HB.out.trans (grown_below hg (Nat.le_refl _) HB.out.size))
    clear hO hsh hS hg
    go_wp2_with fail
    go_ret
    exact ⟨v2, xs, rfl, HO.out, HB.out⟩
  have hzb : (z == 0) = false := by simp [hz]
  clear hz
  go_wp2_with fail
  refine (drawBytes_any w.heap.size 4 _ HS.out (by decide)).mono ?_
  rintro e w3 ⟨v2, xs, rfl, hO, hsh, hS, hg⟩
  have HO := Lib.hid hO
  replace HB := Lib.hid (HB.out.trans (grown_below hg (Nat.le_refl _) HB.out.size))
  clear hO hsh hS hg
  go_wp2_with fail
  refine (sBytesToBits_any _ xs _ HO.out.rd).mono ?_
  rintro e w4 ⟨v3, rfl, hO3, hb⟩
  have HO3 := Lib.hid (hO3.mono HB.out.size)
  replace HB := Lib.hid (bthen HB.out hb)
  clear hO3 hb HO
  go_wp2_with fail
  go_ret
  exact ⟨v3, _, rfl, HO3.out, HB.out⟩
end Go.Proofs.Ytmmgpgmjphjgnaa
