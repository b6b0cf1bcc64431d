/- Plain laws of check numbers: a prefix, the exclusive or of two, bytes. No program in sight. -/
import Derived.Test.YtfbijmhmndkocaaCrcOps
import Derived.Test.YtfbijmhmndkocaaCrcB
import Derived.Test.YtfbijmhmndkocaaCrcTab
import Derived.Test.YtfbijmhmndkocaaRegI
namespace Go.Proofs.Ytfbijmhmndkocaa
open Go.RowKit
set_option linter.unusedVariables false

theorem seedC_mk {wd po seed : Int} {fine : Bool} (h1 : crcB wd po = true) (h2 : 0 ≤ seed) (h3 : seed < p2 wd) (h4 : fine = true) : seedC wd po seed fine = 0 := by
  have e : inB seed 0 (p2 wd - 1) = true := inB_mk (by omega)
  simp [seedC, h1, e, h4]
theorem crcBits_mk {wd po seed : Int} {xs : List Int} (h1 : crcB wd po = true) (h2 : 0 ≤ seed) (h3 : seed < p2 wd) (h4 : isBitsB xs = true) : crcBits wd po seed xs = (feedI wd po seed xs, 0) := by
  simp [crcBits, seedC_mk h1 h2 h3 h4]
theorem crcBits_ok {wd po seed : Int} {xs : List Int} (h : (crcBits wd po seed xs).2 = 0) : crcB wd po = true ∧ 0 ≤ seed ∧ seed < p2 wd ∧ isBitsB xs = true := by
  by_cases h0 : seedC wd po seed (isBitsB xs) = 0
  · obtain ⟨a, b, c⟩ := seedC_ok h0
    have := inB_yes b
    exact ⟨a, by omega, by omega, c⟩
  · exfalso
    have e : crcBits wd po seed xs = (0, seedC wd po seed (isBitsB xs)) := by simp [crcBits, h0]
    rw [e] at h; exact h0 h
theorem isBitsB_take {xs : List Int} (h : isBitsB xs = true) (k : Nat) : isBitsB (xs.take k) = true := by
  obtain ⟨a, b⟩ := isBitsB_yes h
  exact isBitsB_mk (by rw [List.length_take]; omega) (allIn_take k b)
theorem isBitsB_drop {xs : List Int} (h : isBitsB xs = true) (k : Nat) : isBitsB (xs.drop k) = true := by
  obtain ⟨a, b⟩ := isBitsB_yes h
  exact isBitsB_mk (by rw [List.length_drop]; omega) (allIn_drop k b)
/-- FEEDING A PREFIX IS THE SAME AS STARTING WITH THE SEED AFTER IT. -/
theorem crc_prefix {wd po seed : Int} {xs : List Int} (h : (crcBits wd po seed xs).2 = 0) (k : Nat) :
    ∃ a, crcBits wd po seed (xs.take k) = (a, 0) ∧ crcBits wd po a (xs.drop k) = crcBits wd po seed xs := by
  obtain ⟨h1, h2, h3, h4⟩ := crcBits_ok h
  have hr := feedI_range h1 h2 h3 (xs.take k)
  refine ⟨_, crcBits_mk h1 h2 h3 (isBitsB_take h4 k), ?_⟩
  rw [crcBits_mk h1 hr.1 hr.2 (isBitsB_drop h4 k), crcBits_mk h1 h2 h3 h4, ← feedI_append, List.take_append_drop]

/-- The exclusive or of two lists, number by number. -/
def xorL (qs es : List Int) : List Int := List.zipWith bxor qs es
theorem length_xorL (qs es : List Int) (h : qs.length = es.length) : (xorL qs es).length = qs.length := by simp [xorL, h]
theorem xorL_snoc (qs es : List Int) (a e : Int) (h : qs.length = es.length) : xorL (qs ++ [a]) (es ++ [e]) = xorL qs es ++ [bxor a e] := by
  unfold xorL
  rw [List.zipWith_append h]; rfl
theorem bxor_01 {a e : Int} (ha : 0 ≤ a ∧ a ≤ 1) (he : 0 ≤ e ∧ e ≤ 1) : 0 ≤ bxor a e ∧ bxor a e ≤ 1 ∧ (decide (bxor a e = 1) = (decide (a = 1) ^^ decide (e = 1))) := by
  have h1 : a = 0 ∨ a = 1 := by omega
  have h2 : e = 0 ∨ e = 1 := by omega
  rcases h1 with rfl | rfl <;> rcases h2 with rfl | rfl <;> decide
theorem xorL_bits : ∀ (qs es : List Int), qs.length = es.length → allIn qs 0 1 = true → allIn es 0 1 = true → allIn (xorL qs es) 0 1 = true ∧ bools (xorL qs es) = List.zipWith (· ^^ ·) (bools qs) (bools es) := by
  intro qs
  induction qs with
  | nil => intro es _ _ _; simp [xorL, allIn, bools]
  | cons a qs ih =>
    intro es hl ha he
    cases es with
    | nil => simp at hl
    | cons e es =>
      have ha' : inB a 0 1 = true ∧ allIn qs 0 1 = true := by simpa [allIn] using ha
      have he' : inB e 0 1 = true ∧ allIn es 0 1 = true := by simpa [allIn] using he
      obtain ⟨i1, i2⟩ := ih es (by simpa using hl) ha'.2 he'.2
      have hb := bxor_01 (inB_yes ha'.1) (inB_yes he'.1)
      refine ⟨?_, ?_⟩
      · have : inB (bxor a e) 0 1 = true := inB_mk ⟨hb.1, hb.2.1⟩
        have e1 : allIn (xorL (a :: qs) (e :: es)) 0 1 = (inB (bxor a e) 0 1 && allIn (xorL qs es) 0 1) := by simp [allIn, xorL]
        rw [e1, this, i1]; rfl
      · have e1 : bools (xorL (a :: qs) (e :: es)) = decide (bxor a e = 1) :: bools (xorL qs es) := by simp [bools, xorL]
        have e2 : bools (a :: qs) = decide (a = 1) :: bools qs := rfl
        have e3 : bools (e :: es) = decide (e = 1) :: bools es := rfl
        rw [e1, i2, hb.2.2, e2, e3]
        rfl
/-- THE EXCLUSIVE OR OF TWO CHECK NUMBERS IS THE SYNDROME OF THE DIFFERENCES. -/
theorem crc_linear {wd po seed : Int} {qs es : List Int} (h : (crcBits wd po 0 es).2 = 0) (hl : qs.length = es.length) (ha : allIn qs 0 1 = true) (h0 : 0 ≤ seed) (h1 : seed < p2 wd) :
    ∃ x y, crcBits wd po seed qs = (x, 0) ∧ crcBits wd po seed (xorL qs es) = (y, 0) ∧ bxor x y = (crcBits wd po 0 es).1 ∧ 0 ≤ x ∧ x ≤ 16777215 ∧ 0 ≤ y ∧ y ≤ 16777215 := by
  obtain ⟨hc, hs0, hs1, he⟩ := crcBits_ok h
  obtain ⟨hel, heb⟩ := isBitsB_yes he
  obtain ⟨hx, hxb⟩ := xorL_bits qs es hl ha heb
  have hA : isBitsB qs = true := isBitsB_mk (by omega) ha
  have hX : isBitsB (xorL qs es) = true := isBitsB_mk (by rw [length_xorL _ _ hl]; omega) hx
  have r1 := feedI_range hc h0 h1 qs
  have r2 := feedI_range hc h0 h1 (xorL qs es)
  have hp := p2_crc (crcB_yes hc).1 (crcB_yes hc).2.1
  refine ⟨_, _, crcBits_mk hc h0 h1 hA, crcBits_mk hc h0 h1 hX, ?_, r1.1, by omega, r2.1, by omega⟩
  rw [crcBits_mk hc hs0 hs1 he]
  obtain ⟨W, P, rfl, rfl, hW1, hW2, hP1, hP2, hP3⟩ := crc_nat hc
  obtain ⟨S, rfl⟩ := Int.eq_ofNat_of_zero_le h0
  rw [p2_nat] at h1
  have hS : S < 2 ^ W := by omega
  have e0 : ((0 : Nat) : Int) = 0 := rfl
  have f3 := feedI_nat hW1 hP2 es heb 0 (Nat.two_pow_pos W)
  rw [e0] at f3
  rw [feedI_nat hW1 hP2 qs ha S hS, feedI_nat hW1 hP2 _ hx S hS, f3, hxb]
  have hx := Reg.feed_xor (W := W) (P := P) (bools qs) (bools es) S 0 (by rw [length_bools, length_bools, hl])
  rw [Nat.xor_zero] at hx
  rw [hx]
  show ((_ ^^^ _ : Nat) : Int) = _
  rw [Int.toNat_natCast, Int.toNat_natCast, ← Nat.xor_assoc, Nat.xor_self, Nat.zero_xor]

theorem xor_small {x y : Int} (hx0 : 0 ≤ x) (hx1 : x ≤ 16777215) (hy0 : 0 ≤ y) (hy1 : y ≤ 16777215) : bits BinOp.xor IntKind.i64 x y = bxor x y ∧ IntKind.i64.wrap (bxor x y) = bxor x y := by
  have e : p2 ((24 : Nat) : Int) = 16777216 := by decide
  have h := bxor_lt (a := x) (b := y) (n := 24) hx0 (by omega) hy0 (by omega)
  exact ⟨bits_xor x y hx0 (by omega) hy0 (by omega), IntWalk.i64_in _ (by omega)⟩

theorem crcBytes_ok {wd po seed : Int} {xs : List Int} (h : (crcBytes wd po seed xs).2 = 0) : crcB wd po = true ∧ 0 ≤ seed ∧ seed < p2 wd ∧ isBytesB xs = true := by
  by_cases h0 : seedC wd po seed (isBytesB xs) = 0
  · obtain ⟨a, b, c⟩ := seedC_ok h0
    have := inB_yes b
    exact ⟨a, by omega, by omega, c⟩
  · exfalso
    have e : crcBytes wd po seed xs = (0, seedC wd po seed (isBytesB xs)) := by simp [crcBytes, h0]
    rw [e] at h; exact h0 h
theorem crcBytes_mk {wd po seed : Int} {xs : List Int} (h1 : crcB wd po = true) (h2 : 0 ≤ seed) (h3 : seed < p2 wd) (h4 : isBytesB xs = true) : crcBytes wd po seed xs = (feedI wd po seed (bytesBits xs), 0) := by
  simp [crcBytes, seedC_mk h1 h2 h3 h4]
/-- CHECK NUMBERS OF BYTES ARE THOSE OF THEIR BITS. -/
theorem crc_bytes {wd po seed : Int} {xs : List Int} (h : (crcBytes wd po seed xs).2 = 0) :
    byBits xs = (bytesBits xs, 0) ∧ crcBits wd po seed (bytesBits xs) = crcBytes wd po seed xs ∧ (crcBytes wd po 0 xs).2 = 0 ∧ (crcTab wd po).1.length = 256 ∧ (∀ x ∈ xs, 0 ≤ x ∧ x ≤ 255) ∧
      (xs.length = 1 → (crcBytes wd po 0 xs).1 = (crcTab wd po).1.getD (xs.getD 0 0).toNat 0) := by
  obtain ⟨h1, h2, h3, h4⟩ := crcBytes_ok h
  obtain ⟨hl, hb⟩ := isBytesB_yes h4
  have hpz : (0 : Int) < p2 wd := by have := p2_pos wd; omega
  have hbits : isBitsB (bytesBits xs) = true := isBitsB_mk (by rw [length_bytesBits]; omega) (allIn_bytesBits xs)
  have htab : crcTab wd po = (tabTo wd po 256, 0) := by simp [crcTab, h1]
  refine ⟨by simp [byBits, h4], by rw [crcBits_mk h1 h2 h3 hbits, crcBytes_mk h1 h2 h3 h4], by rw [crcBytes_mk h1 (Int.le_refl 0) hpz h4], by rw [htab]; exact length_tabTo _ _ _, allIn_mem hb, fun h1l => ?_⟩
  rw [crcBytes_mk h1 (Int.le_refl 0) hpz h4, htab]
  match xs, h1l with
  | [x], _ =>
    have hx := allIn_mem hb x (List.mem_cons_self ..)
    obtain ⟨n, rfl⟩ := Int.eq_ofNat_of_zero_le hx.1
    have hn : n < 256 := by omega
    have e1 : bytesBits [(n : Int)] = bitsOf (n : Int) 8 := by simp [bytesBits]
    have e2 : ([(n : Int)] : List Int).getD 0 0 = (n : Int) := rfl
    rw [e1, e2, Int.toNat_natCast]
    simp [tabTo, List.getD, hn]
end Go.Proofs.Ytfbijmhmndkocaa
