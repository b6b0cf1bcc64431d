/- Contracts: isRising, l01Rises, l01Flip, FlipBits (program and reference). -/
import Derived.Test.YtmlingcnbdpbmaaNumber
import Derived.StillTailTactics
namespace Go.Proofs.Ytmlingcnbdpbmaa
open Go.RowKit
set_option linter.unusedVariables false

/-- The element at i is in range and above the one before it. -/
def riseAt (xs : List Int) (n : Int) (i : Nat) : Bool := inB (xs.getD i 0) 0 (n - 1) && (decide (i = 0) || decide (xs.getD (i - 1) 0 < xs.getD i 0))
def risesUpto (xs : List Int) (n : Int) (k : Nat) : Bool := (List.range k).all fun i => riseAt xs n i
theorem risesUpto_succ (xs : List Int) (n : Int) (k : Nat) : risesUpto xs n (k + 1) = (risesUpto xs n k && riseAt xs n k) := by simp [risesUpto, List.range_succ]
theorem risesUpto_mono {xs : List Int} {n : Int} {j k : Nat} (h : j ≤ k) (hk : risesUpto xs n k = true) : risesUpto xs n j = true := by
  simp only [risesUpto, List.all_eq_true, List.mem_range] at hk ⊢
  exact fun i hi => hk i (by omega)
theorem risesUpto_bad {xs : List Int} {n : Int} {k m : Nat} (h : k < m) (hb : riseAt xs n k = false) : risesUpto xs n m = false := by
  cases hh : risesUpto xs n m
  · rfl
  · have := risesUpto_mono (j := k + 1) h hh
    rw [risesUpto_succ, hb] at this
    simp at this
/-- isRising's answer. -/
def risesB (xs : List Int) (n : Int) : Bool := risesUpto xs n xs.length
theorem risesB_at {xs : List Int} {n : Int} (h : risesB xs n = true) (k : Nat) (hk : k < xs.length) : 0 ≤ xs.getD k 0 ∧ xs.getD k 0 < n := by
  have h1 := risesUpto_mono (j := k + 1) hk h
  rw [risesUpto_succ, Bool.and_eq_true] at h1
  have h2 := h1.2
  simp only [riseAt, Bool.and_eq_true] at h2
  have h3 := inB_yes h2.1
  omega
/-- One flip. -/
def flip1 (o : List Int) (i : Int) : List Int := o.set i.toNat (1 - o.getD i.toNat 0)
def flips (xs is : List Int) : List Int := is.foldl flip1 xs
theorem flips_snoc (xs is : List Int) (i : Int) : flips xs (is ++ [i]) = flip1 (flips xs is) i := by simp [flips]
theorem length_flip1 (o : List Int) (i : Int) : (flip1 o i).length = o.length := by simp [flip1]
theorem length_flips (xs is : List Int) : (flips xs is).length = xs.length := by
  induction is using snoc_ind with
  | h0 => rfl
  | hs is i ih => rw [flips_snoc, length_flip1, ih]
theorem allIn_flip1 {o : List Int} {i : Int} (h : allIn o 0 1 = true) (hi : i.toNat < o.length) : allIn (flip1 o i) 0 1 = true := by
  have h1 := allIn_at h i.toNat hi
  refine allIn_mk fun y hy => ?_
  rcases List.mem_or_eq_of_mem_set hy with h2 | h2
  · exact allIn_mem h y h2
  · omega
theorem allIn_flips {xs : List Int} (h : allIn xs 0 1 = true) : ∀ is : List Int, (∀ i ∈ is, i.toNat < xs.length) → allIn (flips xs is) 0 1 = true := by
  intro is
  induction is using snoc_ind with
  | h0 => intro _; exact h
  | hs is i ih =>
    intro hi
    rw [flips_snoc]
    refine allIn_flip1 (ih fun j hj => hi j (by simp [hj])) ?_
    rw [length_flips]
    exact hi i (by simp)
/-- FlipBits' answer. -/
def flipA (xs is : List Int) : List Int × Int := if isBitsB xs = false then ([], 1) else if risesB is (xs.length : Int) = false then ([], 2) else (flips xs is, 0)
theorem flipA_len (xs is : List Int) : (flipA xs is).1.length ≤ 16384 := by
  unfold flipA
  split
  · simp
  · rename_i h
    split
    · simp
    · have := (isBitsB_yes (by simpa using h : isBitsB xs = true)).1
      simp only [length_flips]
      omega

set_option maxHeartbeats 1000000 in
theorem isRising_any (v : Value) (xs : List Int) (n : Int) (w : World) (hr : Rd .i64 w v xs) : Calls Try.prog 58 #[v, .int .i64 n] w fun e w' => e = .returned (.bool (risesB xs n)) ∧ w = w' := by
  obtain ⟨a, cap, rfl, hl, hm, hn, hc⟩ := hr
  unfold maxLen at hm
  have HC := Lib.hid hc
  clear hc hn
  go_enter Try.func58, Try.ntmps58
  go_wp2
  go_loop [5, 6, 9] (fun p q i => ∃ (k : Nat) (p0 q0 : Value), k ≤ xs.length ∧ p0 = p ∧ q0 = q ∧ i = .int .i64 k ∧ risesUpto xs n k = true) (fun _ _ i => xs.length - (intOf i).toNat)
  case atStart => exact ⟨0, _, _, Nat.zero_le _, rfl, rfl, rfl, rfl⟩
  case round =>
    obtain ⟨k, p0, q0, hk, rfl, rfl, rfl, hv⟩ := hrel
    have HV := Lib.hid hv
    clear hv
    by_cases hlt : k < xs.length
    · obtain ⟨b, off, rfl, hcell⟩ := HC.out k hlt
      have hbad := fun h => risesUpto_bad (xs := xs) (n := n) (k := k) (m := xs.length) hlt h
      have hsu := risesUpto_succ xs n k
      have HBAD := Lib.hid hbad
      have HSU := Lib.hid hsu
      have HRA : Hid (riseAt xs n k = (inB (xs.getD k 0) 0 (n - 1) && (decide (k = 0) || decide (xs.getD (k - 1) 0 < xs.getD k 0)))) := rfl
      clear hbad hsu
      obtain ⟨x, hx⟩ : ∃ x, x = xs.getD k 0 := ⟨_, rfl⟩
      rw [← hx] at hcell HRA
      have HX := Lib.hid hx
      clear hx
      by_cases h1 : x < 0
      · have hb : inB x 0 (n - 1) = false := inB_mk_no (by omega)
        have HF := Lib.hid (HBAD.out (by rw [HRA.out, hb]; rfl))
        clear hb
        go_wp2
        go_ret
        exact ⟨by unfold risesB; rw [HF.out]; rfl, rfl⟩
      · by_cases h2 : n ≤ x
        · have hb : inB x 0 (n - 1) = false := inB_mk_no (by omega)
          have HF := Lib.hid (HBAD.out (by rw [HRA.out, hb]; rfl))
          clear hb
          go_wp2
          go_ret
          exact ⟨by unfold risesB; rw [HF.out]; rfl, rfl⟩
        · have hb : inB x 0 (n - 1) = true := inB_mk (by omega)
          have HB := Lib.hid hb
          clear hb
          cases k with
          | zero =>
            have HT : Hid (risesUpto xs n (0 + 1) = true) := by
              show risesUpto xs n (0 + 1) = true
              rw [HSU.out, HV.out, HRA.out, HB.out]; rfl
            rw [Nat.add_zero] at hcell
            go_wp2
            go_round
            case rel => exact ⟨1, _, _, by omega, rfl, rfl, by go_num, HT.out⟩
            case measure => simp [intOf]; omega
          | succ j =>
            obtain ⟨b', off', hbb, hcell'⟩ := HC.out j (by omega)
            simp only [Option.some.injEq, Addr.mk.injEq, and_true] at hbb
            obtain ⟨rfl, rfl⟩ := hbb
            have e1 : j + 1 - 1 = j := by omega
            rw [e1] at HRA
            obtain ⟨y, hy⟩ : ∃ y, y = xs.getD j 0 := ⟨_, rfl⟩
            rw [← hy] at hcell' HRA
            clear hy e1
            have hjx : (j : Int) < (xs.length : Int) := by omega
            have hj0 : (0 : Int) ≤ (j : Int) := by omega
            have hpos : (0 : Int) < (j : Int) + 1 := by omega
            have esub : (j : Int) + 1 - 1 = (j : Int) := by omega
            by_cases h3 : x ≤ y
            · have HF := Lib.hid (HBAD.out (by rw [HRA.out, HB.out]; simp; omega))
              go_wp2
              go_ret
              exact ⟨by unfold risesB; rw [HF.out]; rfl, rfl⟩
            · have HT : Hid (risesUpto xs n (j + 1 + 1) = true) := by
                show risesUpto xs n (j + 1 + 1) = true
                rw [HSU.out, HV.out, HRA.out, HB.out]; simp; omega
              go_wp2
              go_round
              case rel => exact ⟨j + 1 + 1, _, _, by omega, rfl, rfl, by go_num, HT.out⟩
              case measure => simp [intOf]; omega
    · have : k = xs.length := by omega
      subst this
      go_wp2
      go_ret
      exact ⟨by unfold risesB; rw [HV.out]; rfl, rfl⟩
set_option maxHeartbeats 2000000 in
theorem l01Rises_any (v : Value) (xs : List Int) (n : Int) (w : World) (hr : Rd .i64 w v xs) (hn1 : 0 ≤ n) (hn2 : n ≤ 4294967296) : Calls Try.prog 73 #[v, .int .i64 n] w fun e w' => e = .returned (.bool (risesB xs n)) ∧ Below w.heap.size w w' := by
  obtain ⟨a, cap, rfl, hl, hm, hn, hc⟩ := hr
  unfold maxLen at hm
  have HC := Lib.hid hc
  clear hc hn
  have hwn : IntKind.i64.wrap (n - 1) = n - 1 := IntWalk.i64_in _ (by omega)
  go_enter Try.func73, Try.ntmps73
  go_wp2
  go_loopw [5] (fun i wr => ∃ k : Nat, k ≤ xs.length ∧ i = .int .i64 k ∧ risesUpto xs n k = true ∧ Below w.heap.size w wr) (fun i _ => xs.length - (intOf i).toNat)
  case atStart => exact ⟨0, Nat.zero_le _, rfl, rfl, Below.refl _ _⟩
  case round =>
    obtain ⟨k, hk, rfl, hv, hbw⟩ := hrel
    have HV := Lib.hid hv
    have HBW := Lib.hid hbw
    clear hv
    by_cases hlt : k < xs.length
    · obtain ⟨b, off, rfl, hcell0⟩ := HC.out k hlt
      have hcell : wr.cell? ⟨b, off + k, none⟩ = some (.int .i64 (xs.getD k 0)) := (hbw.cell (p := ⟨b, off + k, none⟩) (World.block_lt_of_cell? w _ hcell0)).trans hcell0
      have hbad := fun h => risesUpto_bad (xs := xs) (n := n) (k := k) (m := xs.length) hlt h
      have hsu := risesUpto_succ xs n k
      have HBAD := Lib.hid hbad
      have HSU := Lib.hid hsu
      have HRA : Hid (riseAt xs n k = (inB (xs.getD k 0) 0 (n - 1) && (decide (k = 0) || decide (xs.getD (k - 1) 0 < xs.getD k 0)))) := rfl
      clear hbad hsu hcell0
      obtain ⟨x, hx⟩ : ∃ x, x = xs.getD k 0 := ⟨_, rfl⟩
      rw [← hx] at hcell HRA
      have HX := Lib.hid hx
      have hkx : (k : Int) < (xs.length : Int) := by omega
      have hkx0 : (0 : Int) ≤ (k : Int) := by omega
      clear hx
      cases hb : inB x 0 (n - 1)
      · have HF := Lib.hid (HBAD.out (by rw [HRA.out, hb]; rfl))
        clear hbw
        go_wp2
        go_quiet ((go_at_call 66; exact Calls.quiet_of_same (qt (l01In_any _ _ _ _))))
        go_wp2
        go_ret
        exact ⟨by unfold risesB; rw [HF.out]; rfl, below_drewN HBW.out _⟩
      · cases k with
        | zero =>
          have HT : Hid (risesUpto xs n (0 + 1) = true) := by
            show risesUpto xs n (0 + 1) = true
            rw [HSU.out, HV.out, HRA.out, hb]; rfl
          rw [Nat.add_zero] at hcell
          clear hbw
          have hd0 : decide ((0 : Int) < 0) = false := by decide
          go_wp2
          go_quiet ((go_at_call 66; exact Calls.quiet_of_same (qt (l01In_any _ _ _ _))))
          go_wp2
          go_roundw
          case rel => exact ⟨1, by omega, by go_num, HT.out, below_drewN HBW.out _⟩
          case measure => simp [intOf]; omega
        | succ j =>
          obtain ⟨b', off', hbb, hcell'0⟩ := HC.out j (by omega)
          simp only [Option.some.injEq, Addr.mk.injEq, and_true] at hbb
          obtain ⟨rfl, rfl⟩ := hbb
          have hcell' : wr.cell? ⟨b, off + j, none⟩ = some (.int .i64 (xs.getD j 0)) := (hbw.cell (p := ⟨b, off + j, none⟩) (World.block_lt_of_cell? w _ hcell'0)).trans hcell'0
          have e1 : j + 1 - 1 = j := by omega
          rw [e1] at HRA
          obtain ⟨y, hy⟩ : ∃ y, y = xs.getD j 0 := ⟨_, rfl⟩
          rw [← hy] at hcell' HRA
          clear hy e1 hcell'0 hbw
          have hjx : (j : Int) < (xs.length : Int) := by omega
          have hj0 : (0 : Int) ≤ (j : Int) := by omega
          have hpos : (0 : Int) < (j : Int) + 1 := by omega
          have hdp : decide ((0 : Int) < (j : Int) + 1) = true := decide_eq_true hpos
          have hwj : IntKind.i64.wrap ((j : Int) + 1 - 1) = (j : Int) := by rw [IntWalk.i64_in _ (by omega)]; omega
          have hwj2 : IntKind.i64.wrap (j : Int) = (j : Int) := IntWalk.i64_in _ (by omega)
          by_cases h3 : x ≤ y
          · have HF := Lib.hid (HBAD.out (by rw [HRA.out, hb]; simp; omega))
            have hd3 : decide (x ≤ y) = true := decide_eq_true h3
            go_wp2
            go_quiet ((go_at_call 66; exact Calls.quiet_of_same (qt (l01In_any _ _ _ _))))
            go_wp2
            go_ret
            exact ⟨by unfold risesB; rw [HF.out]; rfl, below_drewN HBW.out _⟩
          · have HT : Hid (risesUpto xs n (j + 1 + 1) = true) := by
              show risesUpto xs n (j + 1 + 1) = true
              rw [HSU.out, HV.out, HRA.out, hb]; simp; omega
            have hd3 : decide (x ≤ y) = false := decide_eq_false h3
            go_wp2
            go_quiet ((go_at_call 66; exact Calls.quiet_of_same (qt (l01In_any _ _ _ _))))
            go_wp2
            go_roundw
            case rel => exact ⟨j + 1 + 1, by omega, by go_num, HT.out, below_drewN HBW.out _⟩
            case measure => simp [intOf]; omega
    · have : k = xs.length := by omega
      subst this
      clear hbw
      go_wp2
      go_ret
      exact ⟨by unfold risesB; rw [HV.out]; rfl, HBW.out⟩

theorem flip_step {E : TypeId} {w : World} {B g cap n : Nat} {xs is : List Int} {x : Int} (h : Own E w B (.slice (some ⟨g, 0, none⟩) n cap) (flips xs is)) (m : Nat) (hm : x = (m : Int)) :
    Own E (w.setCell ⟨g, m, none⟩ (.int .i64 (1 - (flips xs is).getD m 0))) B (.slice (some ⟨g, 0, none⟩) n cap) (flips xs (is ++ [x])) := by
  have := (h.set m (1 - (flips xs is).getD m 0)).1
  rw [flips_snoc, flip1, hm, Int.toNat_natCast]
  exact this
theorem flips_pre {xs is : List Int} (h : ∀ i ∈ is, 0 ≤ i ∧ i < (xs.length : Int)) (hb : allIn xs 0 1 = true) (k : Nat) : allIn (flips xs (is.take k)) 0 1 = true :=
  allIn_flips hb _ fun i hi => by have := h i (List.mem_of_mem_take hi); omega
theorem risesB_mem {is : List Int} {n : Int} (h : risesB is n = true) : ∀ i ∈ is, 0 ≤ i ∧ i < n := by
  intro i hi
  obtain ⟨k, hk, rfl⟩ := List.getElem_of_mem hi
  rw [← getD_of_lt _ _ hk]
  exact risesB_at h k hk

set_option maxHeartbeats 1000000 in
theorem l01Flip_any (u v : Value) (xs is : List Int) (w : World) (hr : Rd .i64 w u xs) (hr2 : Rd .i64 w v is) (hb : allIn xs 0 1 = true) (hi : ∀ i ∈ is, 0 ≤ i ∧ i < (xs.length : Int)) (hsm : xs.length ≤ 4294967296) :
    Calls Try.prog 61 #[u, v] w (OwnRes 2 w (flips xs is)) := by
  obtain ⟨a2, cap2, rfl, hl2, hm2, hn2, hc2⟩ := hr2
  obtain ⟨i0, hii, hz0, hz1, hz2⟩ := info_parts infoE
  unfold maxLen at hm2
  have HC2 := Lib.hid hc2
  have HBX := Lib.hid hb
  have HII := Lib.hid hi
  have HM := Lib.hid (Own.made 2 w w.heap.size (Nat.le_refl _))
  have HR := Lib.hid (hr.below ((Below.refl w.heap.size w).alloc (Nat.le_refl _) (.cells #[] 2)))
  clear hc2 hn2 hb hi hr
  go_enter Try.func61, Try.ntmps61
  go_wp2_with (at_builtin; refine wpList_appAll Try.underlying26 hii hz0 hz1 hz2 rfl _ _ rfl _ w.heap.size (.slice (some ⟨w.heap.size, 0, none⟩) 0 0) u [] xs rfl rfl HM.out HR.out (by simp) (by omega) (by simp) ?_)
  intro v' w1 hO' hb' _
  have HB' := Lib.hid (((Below.refl w.heap.size w).alloc (Nat.le_refl _) (.cells #[] 2)).trans hb')
  have hO' : Own 2 w1 w.heap.size v' xs := by simpa using hO'
  clear hb'
  rcases hO'.shape with ⟨rfl, hxs⟩ | ⟨g, cap, rfl, hBg, hgs, hlc, hcm⟩
  · have hil : is.length = 0 := by
      cases is with
      | nil => rfl
      | cons i is => have h1 := HII.out i (by simp); rw [hxs] at h1; simp at h1; omega
    have his : is = [] := List.eq_nil_of_length_eq_zero hil
    subst his
    subst hxs
    have HO' := Lib.hid hO'
    clear hO'
    go_wp2
    refine wp_loop_rounds 1 ?_
    rw [rounds_succ]
    go_wp2
    go_ret
    exact ⟨_, rfl, HO'.out, HB'.out⟩
  · unfold maxLen at hcm
    have HO' := Lib.hid hO'
    clear hO'
    go_wp2
    go_loopw [6] (fun i wr => ∃ k : Nat, k ≤ is.length ∧ i = .int .i64 k ∧ Own 2 wr w.heap.size (.slice (some ⟨g, 0, none⟩) xs.length cap) (flips xs (is.take k)) ∧ Below w.heap.size w wr) (fun i _ => is.length - (intOf i).toNat)
    case atStart => exact ⟨0, Nat.zero_le _, rfl, HO'.out, HB'.out⟩
    case round =>
      obtain ⟨k, hk, rfl, hO, hbw⟩ := hrel
      by_cases hlt : k < is.length
      · obtain ⟨b, off, rfl, hcell0⟩ := HC2.out k hlt
        have hcell1 : wr.cell? ⟨b, off + k, none⟩ = some (.int .i64 (is.getD k 0)) := (hbw.cell (p := ⟨b, off + k, none⟩) (World.block_lt_of_cell? w _ hcell0)).trans hcell0
        have hx := HII.out (is.getD k 0) (by rw [getD_of_lt _ _ hlt]; exact List.getElem_mem hlt)
        have hT := take_succ_getD is k hlt
        obtain ⟨x, hx0⟩ : ∃ x, x = is.getD k 0 := ⟨_, rfl⟩
        rw [← hx0] at hcell1 hx hT
        obtain ⟨hx1, hx2⟩ := hx
        obtain ⟨m, rfl⟩ := Int.eq_ofNat_of_zero_le hx1
        have hml : m < (flips xs (is.take k)).length := by rw [length_flips]; omega
        have hy := allIn_at (flips_pre HII.out HBX.out k) m hml
        have hs : Own 2 (wr.drew.setCell ⟨g, m, none⟩ (.int .i64 (1 - (flips xs (is.take k)).getD m 0))) w.heap.size (.slice (some ⟨g, 0, none⟩) xs.length cap) (flips xs (is.take (k + 1))) := by
          rw [hT]; exact flip_step (w := wr.drew) hO.drew m rfl
        have hb2 := (hbw.drew).setCell (p := ⟨g, m, none⟩) hBg (.int .i64 (1 - (flips xs (is.take k)).getD m 0))
        have hoc : wr.cell? ⟨g, m, none⟩ = some (.int .i64 ((flips xs (is.take k)).getD m 0)) := hO.cell m hml
        have hof : wr.frozen? ⟨g, m, none⟩ = false := hO.free m
        obtain ⟨y, hy0⟩ : ∃ y, y = (flips xs (is.take k)).getD m 0 := ⟨_, rfl⟩
        rw [← hy0] at hy hs hb2 hoc
        obtain ⟨hy1, hy2⟩ := hy
        have hwr : IntKind.i64.wrap (1 - y) = 1 - y := IntWalk.i64_in _ (by omega)
        have hc1 : wr.drew.cell? ⟨b, off + k, none⟩ = some (.int .i64 (m : Int)) := hcell1
        have hoc2 : wr.drew.cell? ⟨g, m, none⟩ = some (.int .i64 y) := hoc
        have hof2 : wr.drew.frozen? ⟨g, m, none⟩ = false := hof
        have HS := Lib.hid hs
        have HB2 := Lib.hid hb2
        have hkx : (k : Int) < (is.length : Int) := by omega
        have hkx2 : (0 : Int) ≤ (k : Int) := by omega
        have hmx : (m : Int) < (xs.length : Int) := by omega
        clear hO hbw hcell0 hT hx0 hml hs hb2 hy0
        go_wp2
        go_still_tail 14, (by kernel_rfl)
        change wpList _ _ _ _ _ wr.drew
        obtain ⟨w2, hw2⟩ : ∃ w2, w2 = wr.drew := ⟨_, rfl⟩
        rw [← hw2] at HS HB2 hc1 hoc2 hof2 ⊢
        clear hw2 hcell1 hoc hof
        go_wp2
        go_roundw
        case rel => exact ⟨k + 1, by omega, by go_num, HS.out, HB2.out⟩
        case measure => simp [intOf]; omega
      · have : k = is.length := by omega
        subst this
        have HO := Lib.hid hO
        have HBW := Lib.hid hbw
        clear hO hbw
        go_wp2
        go_ret
        exact ⟨_, rfl, by have := HO.out; rwa [List.take_length] at this, HBW.out⟩
set_option maxHeartbeats 1000000 in
theorem flipBits_any (u v : Value) (xs is : List Int) (w : World) (hr : Rd .i64 w u xs) (hr2 : Rd .i64 w v is) :
    Calls Try.prog 31 #[u, v] w (OwnRes2 2 w (flipA xs is).1 (flipA xs is).2) := by
  have hr0 := hr
  have hr20 := hr2
  obtain ⟨a, cap0, rfl, hl, hm, hn, hc⟩ := hr
  obtain ⟨a2, cap2, rfl, hl2, hm2, hn2, hc2⟩ := hr2
  have HR := Lib.hid hr0
  have HR2 := Lib.hid hr20
  have HC2 := Lib.hid hc2
  unfold maxLen at hm hm2
  clear hr0 hr20 hc hc2 hn hn2
  cases h1 : isBitsB xs
  · have hf : flipA xs is = ([], 1) := by simp [flipA, h1]
    rw [hf]; clear hf
    go_enter Try.func31, Try.ntmps31
    go_wp2_with (go_at_call 34; refine (isBits_any _ xs _ HR.out).mono ?_; rintro e w' ⟨rfl, rfl⟩)
    go_ret2
    exact ⟨_, rfl, Own.nil _ _ _, Below.refl _ _⟩
  cases h2 : risesB is (xs.length : Int)
  · have hf : flipA xs is = ([], 2) := by simp [flipA, h1, h2]
    rw [hf]; clear hf
    go_enter Try.func31, Try.ntmps31
    go_wp2_with (first | (go_at_call 34; refine (isBits_any _ xs _ HR.out).mono ?_; rintro e w' ⟨rfl, rfl⟩) | (go_at_call 58; refine (isRising_any _ is _ _ HR2.out).mono ?_; rintro e w' ⟨rfl, rfl⟩))
    go_ret2
    exact ⟨_, rfl, Own.nil _ _ _, Below.refl _ _⟩
  have hf : flipA xs is = (flips xs is, 0) := by simp [flipA, h1, h2]
  rw [hf]; clear hf
  obtain ⟨hb1, hb2⟩ := isBitsB_yes h1
  have HBX := Lib.hid hb2
  have HII := Lib.hid (risesB_mem h2)
  clear hb2
  go_enter Try.func31, Try.ntmps31
  go_wp2_with (first | (go_at_call 34; refine (isBits_any _ xs _ HR.out).mono ?_; rintro e w' ⟨rfl, rfl⟩) | (go_at_call 58; refine (isRising_any _ is _ _ HR2.out).mono ?_; rintro e w' ⟨rfl, rfl⟩))
  refine (clone_any _ xs _ HR.out (by omega)).mono ?_
  rintro e w1 ⟨v', rfl, hO', hb'⟩
  have HB' := Lib.hid hb'
  clear hb'
  rcases hO'.shape with ⟨rfl, hxs⟩ | ⟨g, cap, rfl, hBg, hgs, hlc, hcm⟩
  · have hil : is.length = 0 := by
      cases is with
      | nil => rfl
      | cons i is => have h1 := HII.out i (by simp); rw [hxs] at h1; simp at h1; omega
    have his : is = [] := List.eq_nil_of_length_eq_zero hil
    subst his
    subst hxs
    have HO' := Lib.hid hO'
    clear hO'
    go_wp2
    refine wp_loop_rounds 1 ?_
    rw [rounds_succ]
    go_wp2
    go_ret2
    exact ⟨_, rfl, HO'.out, HB'.out⟩
  · unfold maxLen at hcm
    have HO' := Lib.hid hO'
    clear hO'
    go_wp2
    go_loopw [8, 21] (fun q i wr => ∃ (k : Nat) (q0 : Value), k ≤ is.length ∧ q0 = q ∧ i = .int .i64 k ∧ Own 2 wr w.heap.size (.slice (some ⟨g, 0, none⟩) xs.length cap) (flips xs (is.take k)) ∧ Below w.heap.size w wr) (fun _ i _ => is.length - (intOf i).toNat)
    case atStart => exact ⟨0, _, Nat.zero_le _, rfl, rfl, HO'.out, HB'.out⟩
    case round =>
      obtain ⟨k, q0, hk, rfl, rfl, hO, hbw⟩ := hrel
      by_cases hlt : k < is.length
      · obtain ⟨b, off, rfl, hcell0⟩ := HC2.out k hlt
        have hcell1 : wr.cell? ⟨b, off + k, none⟩ = some (.int .i64 (is.getD k 0)) := (hbw.cell (p := ⟨b, off + k, none⟩) (World.block_lt_of_cell? w _ hcell0)).trans hcell0
        have hx := HII.out (is.getD k 0) (by rw [getD_of_lt _ _ hlt]; exact List.getElem_mem hlt)
        have hT := take_succ_getD is k hlt
        obtain ⟨x, hx0⟩ : ∃ x, x = is.getD k 0 := ⟨_, rfl⟩
        rw [← hx0] at hcell1 hx hT
        obtain ⟨hx1, hx2⟩ := hx
        obtain ⟨m, rfl⟩ := Int.eq_ofNat_of_zero_le hx1
        have hml : m < (flips xs (is.take k)).length := by rw [length_flips]; omega
        have hy := allIn_at (flips_pre HII.out HBX.out k) m hml
        have hs : Own 2 (wr.setCell ⟨g, m, none⟩ (.int .i64 (1 - (flips xs (is.take k)).getD m 0))) w.heap.size (.slice (some ⟨g, 0, none⟩) xs.length cap) (flips xs (is.take (k + 1))) := by
          rw [hT]; exact flip_step hO m rfl
        have hb2 := hbw.setCell (p := ⟨g, m, none⟩) hBg (.int .i64 (1 - (flips xs (is.take k)).getD m 0))
        have hoc : wr.cell? ⟨g, m, none⟩ = some (.int .i64 ((flips xs (is.take k)).getD m 0)) := hO.cell m hml
        have hof : wr.frozen? ⟨g, m, none⟩ = false := hO.free m
        obtain ⟨y, hy0⟩ : ∃ y, y = (flips xs (is.take k)).getD m 0 := ⟨_, rfl⟩
        rw [← hy0] at hy hs hb2 hoc
        obtain ⟨hy1, hy2⟩ := hy
        have HS := Lib.hid hs
        have HB2 := Lib.hid hb2
        have hmx : (m : Int) < (xs.length : Int) := by omega
        clear hO hbw hcell0 hT hx0 hml hs hb2 hy0
        go_wp2
        go_roundw
        case rel => exact ⟨k + 1, _, by omega, rfl, by go_num, HS.out, HB2.out⟩
        case measure => simp [intOf]; omega
      · have : k = is.length := by omega
        subst this
        have HO := Lib.hid hO
        have HBW := Lib.hid hbw
        clear hO hbw
        go_wp2
        go_ret2
        exact ⟨_, rfl, by have := HO.out; rwa [List.take_length] at this, HBW.out⟩
theorem sFlipBits_any (u v : Value) (xs is : List Int) (w : World) (hr : Rd .i64 w u xs) (hr2 : Rd .i64 w v is) :
    Calls Try.prog 70 #[u, v] w (OwnRes2 2 w (flipA xs is).1 (flipA xs is).2) := by
  have hr0 := hr
  obtain ⟨a, cap0, rfl, hl, hm, hn, hc⟩ := hr
  have HR := Lib.hid hr0
  have HR2 := Lib.hid hr2
  unfold maxLen at hm
  clear hr0 hr2 hc hn
  cases h1 : isBitsB xs
  · have hf : flipA xs is = ([], 1) := by simp [flipA, h1]
    rw [hf]; clear hf
    go_enter Try.func70, Try.ntmps70
    go_wp2_with (go_at_call 41; refine (sIsBits_any _ xs _ HR.out).mono ?_; rintro e w' ⟨rfl, rfl⟩)
    go_ret2
    exact ⟨_, rfl, Own.nil _ _ _, Below.refl _ _⟩
  obtain ⟨hb1, hb2⟩ := isBitsB_yes h1
  have HBX := Lib.hid hb2
  clear hb2
  cases h2 : risesB is (xs.length : Int)
  · have hf : flipA xs is = ([], 2) := by simp [flipA, h1, h2]
    rw [hf]; clear hf
    go_enter Try.func70, Try.ntmps70
    go_wp2_with (go_at_call 41; refine (sIsBits_any _ xs _ HR.out).mono ?_; rintro e w' ⟨rfl, rfl⟩)
    refine (l01Rises_any _ is _ _ HR2.out (by omega) (by omega)).mono ?_
    rintro e w1 ⟨rfl, hbl⟩
    have HB := Lib.hid hbl
    clear hbl
    go_wp2_with fail
    go_ret2
    exact ⟨_, rfl, Own.nil _ _ _, HB.out⟩
  · have hf : flipA xs is = (flips xs is, 0) := by simp [flipA, h1, h2]
    rw [hf]; clear hf
    have HII := Lib.hid (risesB_mem h2)
    go_enter Try.func70, Try.ntmps70
    go_wp2_with (go_at_call 41; refine (sIsBits_any _ xs _ HR.out).mono ?_; rintro e w' ⟨rfl, rfl⟩)
    refine (l01Rises_any _ is _ _ HR2.out (by omega) (by omega)).mono ?_
    rintro e w1 ⟨rfl, hbl⟩
    have HB := Lib.hid hbl
    have HRx := Lib.hid (HR.out.below hbl)
    have HR2x := Lib.hid (HR2.out.below hbl)
    clear hbl
    go_wp2_with fail
    refine (l01Flip_any _ _ xs is _ HRx.out HR2x.out HBX.out HII.out (by omega)).mono ?_
    rintro e w2 ⟨v2, rfl, hO2, hb2⟩
    have HO2 := Lib.hid (hO2.mono HB.out.size)
    have HB2 := Lib.hid (bthen HB.out hb2)
    clear hO2 hb2
    go_wp2_with fail
    go_ret2
    exact ⟨_, rfl, HO2.out, HB2.out⟩
end Go.Proofs.Ytmlingcnbdpbmaa
