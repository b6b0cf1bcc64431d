/- Contract: bits.OnesCount64 below 2^24. -/
import Derived.Test.YtmlingcnbdpbmaaPop
import Derived.Test.YtmlingcnbdpbmaaLists
import Derived.Laws.Bits64
namespace Go.Proofs.Ytmlingcnbdpbmaa
open Go.RowKit
set_option linter.unusedVariables false
set_option linter.unusedSimpArgs false

theorem mask127 (e : Nat) (he : e < 16777216) : bits BinOp.and IntKind.i64 (e : Int) 127 = (e : Int) % 128 := by
  have e31 : (2 : Int) ^ 31 = 2147483648 := by decide
  have h1 : (e : Int) < 2 ^ 31 := by rw [e31]; omega
  have hm := bits_mask .i64 31 (by decide) (fun n h0 h1 => IntWalk.i64_in n (by rw [e31] at h1; omega)) 7 (by decide) (e : Int) (Int.natCast_nonneg e) h1
  have e1 : ((2 : Int) ^ 7 - 1) = 127 := by decide
  have e2 : ((2 : Int) ^ 7) = 128 := by decide
  rw [e1, e2] at hm
  exact hm
set_option maxHeartbeats 1000000 in
theorem ones_any (x : Nat) (hx : x < 16777216) (w : World) : Calls Try.prog 38 #[.int .u64 (x : Int)] w fun e w' => e = .returned (.int .i64 (popT 24 x : Int)) ∧ w = w' := by
  obtain ⟨a, ha⟩ : ∃ a, a = ((x / 2) &&& 6148914691236517205) + (x &&& 6148914691236517205) := ⟨_, rfl⟩
  obtain ⟨b, hb⟩ : ∃ b, b = ((a / 4) &&& 3689348814741910323) + (a &&& 3689348814741910323) := ⟨_, rfl⟩
  obtain ⟨c, hc⟩ : ∃ c, c = (b / 16 + b) &&& 1085102592571150095 := ⟨_, rfl⟩
  obtain ⟨d, hd⟩ : ∃ d, d = c + c / 256 := ⟨_, rfl⟩
  obtain ⟨e, he⟩ : ∃ e, e = d + d / 65536 := ⟨_, rfl⟩
  obtain ⟨ha1, hb1, hc1⟩ := ones_bytes (x % 256) (x / 256 % 256) (x / 65536) (by omega) (by omega) (by omega) x a b c (by omega) ha hb hc
  have p0 := popT_le 8 (x % 256)
  have p1 := popT_le 8 (x / 256 % 256)
  have p2 := popT_le 8 (x / 65536)
  have hp := popT_24 x hx
  obtain ⟨hl, hd1, he1⟩ := ones_last c d e _ _ _ hc1 p0 p1 p2 hd he
  rw [← hp] at hl
  have hc2 : c < 16777216 := by omega
  have hw : ∀ n : Nat, n < 18446744073709551616 → IntKind.u64.wrap (n : Int) = (n : Int) := fun n hn => by rw [IntKind.wrap_u64]; omega
  have an : ∀ n m : Nat, n < 18446744073709551616 → m < 18446744073709551616 → bits BinOp.and IntKind.u64 (n : Int) (m : Int) = ((n &&& m : Nat) : Int) := fun n m h1 h2 => bits_and_u64_nat n m h1 h2
  have F1 : IntKind.u64.wrap (bits BinOp.and IntKind.u64 ((x : Int) / 2) 6148914691236517205 + bits BinOp.and IntKind.u64 (x : Int) 6148914691236517205) = (a : Int) := by
    have h1 := an (x / 2) 6148914691236517205 (by omega) (by decide)
    have h2 := an x 6148914691236517205 (by omega) (by decide)
    have h3 := hw a (by omega)
    have e1 : ((x / 2 : Nat) : Int) = (x : Int) / 2 := by omega
    rw [e1] at h1
    rw [show ((6148914691236517205 : Nat) : Int) = (6148914691236517205 : Int) from rfl] at h1 h2
    rw [h1, h2, ← h3, ha]; rfl
  have F2 : IntKind.u64.wrap (bits BinOp.and IntKind.u64 ((a : Int) / 4) 3689348814741910323 + bits BinOp.and IntKind.u64 (a : Int) 3689348814741910323) = (b : Int) := by
    have h1 := an (a / 4) 3689348814741910323 (by omega) (by decide)
    have h2 := an a 3689348814741910323 (by omega) (by decide)
    have h3 := hw b (by omega)
    have e1 : ((a / 4 : Nat) : Int) = (a : Int) / 4 := by omega
    rw [e1] at h1
    rw [show ((3689348814741910323 : Nat) : Int) = (3689348814741910323 : Int) from rfl] at h1 h2
    rw [h1, h2, ← h3, hb]; rfl
  have F3 : bits BinOp.and IntKind.u64 (IntKind.u64.wrap ((b : Int) / 16 + (b : Int))) 1085102592571150095 = (c : Int) := by
    have h1 := an (b / 16 + b) 1085102592571150095 (by omega) (by decide)
    have h3 := hw (b / 16 + b) (by omega)
    have e1 : ((b / 16 + b : Nat) : Int) = (b : Int) / 16 + (b : Int) := by omega
    rw [e1] at h1 h3
    rw [show ((1085102592571150095 : Nat) : Int) = (1085102592571150095 : Int) from rfl] at h1
    rw [h3, h1, hc]
  have F4 : IntKind.u64.wrap ((c : Int) + (c : Int) / 256) = (d : Int) := by
    have h3 := hw d (by omega)
    have e1 : (c : Int) + (c : Int) / 256 = (d : Int) := by omega
    rw [e1, h3]
  have F5 : IntKind.u64.wrap ((d : Int) + (d : Int) / 65536) = (e : Int) := by
    have h3 := hw e (by omega)
    have e1 : (d : Int) + (d : Int) / 65536 = (e : Int) := by omega
    rw [e1, h3]
  have F6 : IntKind.u64.wrap ((e : Int) + (e : Int) / 4294967296) = (e : Int) := by
    have h3 := hw e (by omega)
    have e1 : (e : Int) + (e : Int) / 4294967296 = (e : Int) := by omega
    rw [e1, h3]
  have F7 : wrap64 (e : Int) = (e : Int) := IntWalk.wrap64_in _ (by omega)
  have F8 : bits BinOp.and IntKind.i64 (e : Int) 127 = (popT 24 x : Int) := by
    have hz : e / 4294967296 = 0 := Nat.div_eq_of_lt (Nat.lt_trans he1 (by decide))
    rw [hz, Nat.add_zero] at hl
    rw [mask127 e he1, ← hl]
    rfl
  clear ha hb hc hd he ha1 hb1 hc1 p0 p1 p2 hp hl hd1 he1 hc2 hw an hx
  go_enter Try.func38, Try.ntmps38
  go_wp2_with fail
  go_ret
  exact ⟨rfl, rfl⟩
end Go.Proofs.Ytmlingcnbdpbmaa
