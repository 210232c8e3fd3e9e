/- The contracts of Bits, Int and the reference's Int, Of. -/
import Derived.Test.YtgogfjehbaiklaaNatU
import Derived.Test.YtgogfjehbaiklaaShelf
import Derived.Deep.RegionHeld3
namespace Go.Proofs.Ytgogfjehbaiklaa
open Go.RowKit NatMath
set_option linter.unusedVariables false

theorem len32 (x : Nat) (w : World) (hx : x < 4294967296) :
    Calls Try.prog 55 #[.int .u32 (x : Int)] w fun e w' => e = .returned (.int .i64 (bl x : Nat)) ∧ w' = w := by
  have h := Try.bits_Len32 (x : Int) w (by omega) (by omega)
  rw [Int.toNat_natCast, bitLen_bl 32 x hx (by omega)] at h
  exact h

set_option maxHeartbeats 400000 in
theorem Bits_c (v : Value) (N : Nat) (w : World) (h : Nt w v N) (hl : len N ≤ 64) :
    Calls Try.prog 28 #[.agg #[v]] w fun e w' => e = .returned (.int .i64 (bl N : Nat)) ∧ Below w.heap.size w w' := by
  have cv := Lib.hid (fun W h => Valid_c v (digs N) W h)
  rw [vld_digs, decide_eq_true hl] at cv
  have HV := Lib.hid h
  obtain ⟨ao, cap, rfl, h1, h2, h3⟩ := h.open
  by_cases h0 : N = 0
  · subst h0
    rw [bl_zero]
    rw [len_zero] at *
    clear h h3
    go_enter Try.func28, Try.ntmps28
    go_wp2_with fail
    refine (cv.out _ (HV.out.below' (below_one _ _))).mono ?_
    rintro e w1 ⟨rfl, hb1⟩
    have p1 := (hb1.cell (p := ⟨w.heap.size, 0, none⟩) (by simp)).trans (box1a _ _ _)
    have B1 := Lib.hid (below_step2 (below_one w _) hb1)
    clear hb1
    go_wp2
    go_ret
    exact ⟨rfl, B1.out⟩
  · obtain ⟨b, off, rfl, hb, hc⟩ := h3 h0
    have hn : len N ≠ 0 := fun e => h0 (len_eq_zero.1 e)
    have c1 := hc (len N - 1) (by omega)
    have hB := bl_top h0
    have hu := dig_lt N (len N - 1)
    generalize dig N (len N - 1) = u at *
    have hbu : bl u ≤ 32 := bl_le_iff.2 hu
    have cl := Lib.hid (fun W => len32 u W hu)
    generalize bl u = r at *
    rw [hB]
    generalize hL : len N = n at *
    have e1 : (n : Int) - 1 = ((n - 1 : Nat) : Int) := by omega
    have hj : n - 1 < n := by omega
    have g1 : ((n : Int) == 0) = false := by simp; omega
    have e2 : (32 : Int) * ((n - 1 : Nat) : Int) = ((32 * (n - 1) : Nat) : Int) := by omega
    have hp : 32 * (n - 1) ≤ 2048 := by omega
    generalize 32 * (n - 1) = p at *
    generalize n - 1 = m at *
    clear hB h h3 hc h0 hn hL hl
    go_enter Try.func28, Try.ntmps28
    go_wp2_with fail
    refine (cv.out _ (HV.out.below' (below_one _ _))).mono ?_
    rintro e w1 ⟨rfl, hb1⟩
    have p1 := (hb1.cell (p := ⟨w.heap.size, 0, none⟩) (by simp)).trans (box1a _ _ _)
    have c2 := (((below_one w (.cells #[.slice (some ⟨b, off, none⟩) n cap] 24)).trans (hb1.mono (by simp))).cell (p := ⟨b, off + m, none⟩) ‹_›).trans c1
    have B1 := Lib.hid (below_step2 (below_one w _) hb1)
    clear hb1 c1
    go_wp2_with fail
    go_quiet ((go_at_call 55; exact Calls.quiet_of_same (cl.out _)))
    go_wp2
    go_ret
    exact ⟨reti (by omega), B1.out.trans (below_drewN (Below.refl _ _) _)⟩

theorem ret_i2 {a b : Int} {c d : Value} (h : a = b) (k : c = d) : Ending.returned (.tuple #[.int .i64 a, c]) = .returned (.tuple #[.int .i64 b, d]) := by rw [h, k]

set_option maxHeartbeats 400000 in
theorem Bits_bad (v : Value) (l : List Nat) (w : World) (h : Sl w v l) (hv : vld l = false) :
    Calls Try.prog 28 #[.agg #[v]] w fun e w' => e = .returned (.int .i64 0) ∧ Below w.heap.size w w' := by
  have cv := Lib.hid (fun W h => Valid_c v l W h)
  rw [hv] at cv
  have HV := Lib.hid h
  clear h hv
  go_enter Try.func28, Try.ntmps28
  go_wp2_with fail
  refine (cv.out _ (HV.out.below' (below_one _ _))).mono ?_
  rintro e w1 ⟨rfl, hb1⟩
  have B1 := Lib.hid (below_step2 (below_one w _) hb1)
  clear hb1
  go_wp2
  go_ret
  exact ⟨rfl, B1.out⟩

set_option maxHeartbeats 400000 in
theorem Int_bad (v : Value) (l : List Nat) (w : World) (h : Sl w v l) (hv : vld l = false) :
    Calls Try.prog 26 #[.agg #[v]] w fun e w' => e = .returned (.tuple #[.int .i64 0, .int .i64 1]) ∧ Below w.heap.size w w' := by
  have cv := Lib.hid (fun W h => Valid_c v l W h)
  rw [hv] at cv
  have HV := Lib.hid h
  clear h hv
  go_enter Try.func26, Try.ntmps26
  go_wp2_with fail
  refine (cv.out _ (HV.out.below' (below_one _ _))).mono ?_
  rintro e w1 ⟨rfl, hb1⟩
  have B1 := Lib.hid (below_step2 (below_one w _) hb1)
  clear hb1
  go_wp2
  go_ret2
  exact ⟨rfl, B1.out⟩

/-- what Int gives: the number, or 0 and the code for too big -/
def iv (N : Nat) : Nat := if N < 9223372036854775808 then N else 0
def ic (N : Nat) : Int := if N < 9223372036854775808 then 0 else 9

theorem mod_step' (X k : Nat) : X % Bp (k + 1) = X % Bp k + dig X k * 2 ^ (32 * k) := by rw [mod_step, ← Bp_two, Nat.mul_comm, Nat.add_comm]

set_option maxHeartbeats 400000 in
theorem Int_c (v : Value) (N : Nat) (w : World) (h : Nt w v N) (hl : len N ≤ 64) :
    Calls Try.prog 26 #[.agg #[v]] w fun e w' => e = .returned (.tuple #[.int .i64 (iv N : Nat), .int .i64 (ic N)]) ∧ Below w.heap.size w w' := by
  have cv := Lib.hid (fun W h => Valid_c v (digs N) W h)
  rw [vld_digs, decide_eq_true hl] at cv
  have HV := Lib.hid h
  obtain ⟨ao, cap, rfl, h1, h2, h3⟩ := h.open
  by_cases h2 : len N ≤ 2
  · have hN : N < 18446744073709551616 := by have := len_le_iff.1 h2; unfold Bp at this; exact this
    have hz : Hid (len N ≠ 0 → N ≠ 0) := Lib.hid (fun h e => h (by rw [e, len_zero]))
    have hend : Hid (N % Bp (len N) = N) := Lib.hid (Nat.mod_eq_of_lt (lt_Bp_len N))
    have g1 : decide (2 < ((len N : Nat) : Int)) = false := decide_eq_false (by omega)
    have H3 := Lib.hid h3
    have hn0 : Hid (N % Bp 0 = 0) := Lib.hid (by rw [Bp_zero, Nat.mod_one])
    clear h h3
    generalize hL : len N = n at *
    clear hL
    go_enter Try.func26, Try.ntmps26
    go_wp2_with fail
    refine (cv.out _ (HV.out.below' (below_one _ _))).mono ?_
    rintro e w1 ⟨rfl, hb1⟩
    have p1 := (hb1.cell (p := ⟨w.heap.size, 0, none⟩) (by simp)).trans (box1a _ _ _)
    have C1 := Lib.hid (fun b o hb => (((below_one w (.cells #[.slice ao n cap] 24)).trans (hb1.mono (by simp))).cell (p := ⟨b, o, none⟩) hb))
    have B1 := Lib.hid (below_step2 (below_one w _) hb1)
    clear hb1
    have hnn : (n : Int) ≤ 2 := by omega
    go_wp2
    go_loop [4, 17] (fun s4 s17 => ∃ k : Nat, s17 = .int .i64 (k : Int) ∧ k ≤ n ∧ s4 = .int .u64 ((N % Bp k : Nat) : Int)) (fun _ s17 => n - (RowKit.intOf s17).toNat)
    case atStart => exact ⟨0, rfl, Nat.zero_le _, by rw [hn0.out]; rfl⟩
    case round =>
      obtain ⟨k, rfl, hk, rfl⟩ := hrel
      by_cases hkn : k < n
      · obtain ⟨b, off, rfl, hb, hc⟩ := H3.out (hz.out (by omega))
        have c1 := (C1.out b (off + k) hb).trans (hc k hkn)
        have hu := dig_lt N k
        have hs := Lib.hid (mod_step' N k)
        have hx : N % Bp k < 2 ^ (32 * k) := by rw [← Bp_two]; exact Nat.mod_lt _ (Bp_pos k)
        have hy : N % Bp (k + 1) < 18446744073709551616 := Nat.lt_of_le_of_lt (Nat.mod_le _ _) hN
        have hor : Hid (N % Bp k ||| dig N k * 2 ^ (32 * k) = N % Bp (k + 1)) := Lib.hid (by rw [or_shift hx, hs.out])
        generalize N % Bp k = x at *
        generalize hyy : N % Bp (k + 1) = y at *
        have HY := Lib.hid hyy
        clear hyy
        generalize dig N k = u at *
        have hut : u * 2 ^ (32 * k) < 18446744073709551616 := by have := hs.out; omega
        have hxl : x < 18446744073709551616 := by have := hs.out; omega
        have e2 : (32 : Int) * (k : Int) = ((32 * k : Nat) : Int) := by omega
        have hm : 32 * k ≤ 32 := by omega
        generalize 32 * k = m at *
        have e3 : IntKind.u64.wrap ((u : Int) * 2 ^ m) = ((u * 2 ^ m : Nat) : Int) := by
          rw [show (u : Int) * 2 ^ m = ((u * 2 ^ m : Nat) : Int) from by push_cast; rfl]
          exact IntWalk.u64_in _ (by omega)
        generalize u * 2 ^ m = t at *
        have e4 : bits .or .u64 (x : Int) (t : Int) = (y : Int) := by rw [u64_or_nat x t hxl hut, hor.out]
        clear hc hx hs hor
        go_wp2
        go_round
        case rel => exact ⟨k + 1, by go_num, by omega, by rw [HY.out]⟩
        case measure => simp [RowKit.intOf]; omega
      · obtain rfl : k = n := by omega
        rw [hend.out]
        by_cases hb : N < 9223372036854775808
        · have g3 : decide (9223372036854775807 < N) = false := decide_eq_false (by omega)
          have hv : Hid (iv N = N ∧ ic N = 0) := Lib.hid (by unfold iv ic; rw [if_pos hb, if_pos hb]; exact ⟨rfl, rfl⟩)
          go_wp2
          go_ret2
          exact ⟨by rw [hv.out.1, hv.out.2]; rfl, B1.out⟩
        · have g3 : decide (9223372036854775807 < N) = true := decide_eq_true (by omega)
          have hv : Hid (iv N = 0 ∧ ic N = 9) := Lib.hid (by unfold iv ic; rw [if_neg hb, if_neg hb]; exact ⟨rfl, rfl⟩)
          go_wp2
          go_ret2
          exact ⟨by rw [hv.out.1, hv.out.2]; rfl, B1.out⟩
  · have hN : ¬ N < 9223372036854775808 := fun hh => h2 (len_le_iff.2 (by unfold Bp; omega))
    have hv : iv N = 0 ∧ ic N = 9 := by unfold iv ic; rw [if_neg hN, if_neg hN]; exact ⟨rfl, rfl⟩
    rw [hv.1, hv.2]
    have g1 : decide (2 < ((len N : Nat) : Int)) = true := decide_eq_true (by omega)
    generalize len N = n at *
    clear h h3 hv hN
    go_enter Try.func26, Try.ntmps26
    go_wp2_with fail
    refine (cv.out _ (HV.out.below' (below_one _ _))).mono ?_
    rintro e w1 ⟨rfl, hb1⟩
    have p1 := (hb1.cell (p := ⟨w.heap.size, 0, none⟩) (by simp)).trans (box1a _ _ _)
    have B1 := Lib.hid (below_step2 (below_one w _) hb1)
    clear hb1
    go_wp2
    go_ret2
    exact ⟨rfl, B1.out⟩

theorem word_0 (v : Value) (N : Nat) (w : World) (h : Nt w v N) :
    Calls Try.prog 56 #[.agg #[v], .int .i64 0] w fun e w' => e = .returned (.int .i64 (dig N 0 : Nat)) ∧ Below w.heap.size w w' := by
  have := word_c v (digs N) 0 w h (by omega)
  rw [dig_digs] at this; exact this
theorem word_1 (v : Value) (N : Nat) (w : World) (h : Nt w v N) :
    Calls Try.prog 56 #[.agg #[v], .int .i64 1] w fun e w' => e = .returned (.int .i64 (dig N 1 : Nat)) ∧ Below w.heap.size w w' := by
  have := word_c v (digs N) 1 w h (by omega)
  rw [dig_digs] at this; exact this

theorem two_words {N : Nat} (h : N < 9223372036854775808) : dig N 1 < 2147483648 ∧ dig N 1 * 4294967296 + dig N 0 = N := by
  unfold dig; rw [Bp_one, Bp_zero]; omega
theorem two_words_not {N : Nat} (h : ¬ N < 9223372036854775808) (hl : len N ≤ 2) : ¬ dig N 1 < 2147483648 := by
  have := len_le_iff.1 hl; unfold Bp at this
  unfold dig; rw [Bp_one]; omega

set_option maxHeartbeats 400000 in
theorem refInt_c (v : Value) (N : Nat) (w : World) (h : Nt w v N) :
    Calls Try.prog 32 #[.agg #[v]] w fun e w' => e = .returned (.tuple #[.int .i64 (iv N : Nat), .bool (decide (N < 9223372036854775808))]) ∧ Below w.heap.size w w' := by
  have HV := Lib.hid h
  obtain ⟨ao, cap, rfl, h1, h2, _⟩ := h.open
  by_cases hN : N < 9223372036854775808
  · have hl : len N ≤ 2 := len_le_iff.2 (by unfold Bp; omega)
    have g1 : decide (2 < ((len N : Nat) : Int)) = false := decide_eq_false (by omega)
    have hv : iv N = N := if_pos hN
    rw [hv, decide_eq_true hN]
    obtain ⟨t1, t2⟩ := two_words hN
    have hd0 := dig_lt N 0
    have C0 := Lib.hid (fun W hW => word_0 (.slice ao (len N) cap) N W hW)
    have C1 := Lib.hid (fun W hW => word_1 (.slice ao (len N) cap) N W hW)
    generalize dig N 1 = x at *
    generalize dig N 0 = y at *
    have T2 := Lib.hid t2
    have e1 : (x : Int) * 4294967296 = ((x * 4294967296 : Nat) : Int) := by omega
    have g2 : decide (2147483648 ≤ (x : Int)) = false := decide_eq_false (by omega)
    have hz : x * 4294967296 ≤ 9223372032559808512 := by omega
    have T3 : Hid (x * 4294967296 + y = N) := T2
    clear t2 T2
    generalize hzz : x * 4294967296 = z at *
    have hzy : z + y < 9223372036854775808 := by have := T3.out; omega
    have f1 : IntKind.i64.wrap (z : Int) = (z : Int) := IntWalk.i64_in _ (by omega)
    have f2 : IntKind.i64.wrap ((z : Int) + (y : Int)) = (N : Int) := by rw [IntWalk.i64_in _ (by omega)]; have := T3.out; omega
    clear hzz hv h hN
    generalize len N = n at *
    go_enter Try.func32, Try.ntmps32
    go_wp2_with fail
    refine (C1.out _ (HV.out.below' (below_one _ _))).mono ?_
    rintro e w1 ⟨rfl, hb1⟩
    have p1 := (hb1.cell (p := ⟨w.heap.size, 0, none⟩) (by simp)).trans (box1a _ _ _)
    have q1 : w.heap.size < w1.heap.size := Nat.lt_of_lt_of_le (by simp) hb1.size
    have B1 := Lib.hid (below_step2 (below_one w _) hb1)
    clear hb1
    go_wp2_with fail
    have BB : Hid (Below w1.heap.size w1 w1.drew) := Lib.hid (below_drewN (Below.refl _ _) 1)
    have z1 := (BB.out.cell (p := ⟨w.heap.size, 0, none⟩) q1).trans p1
    go_region_held3 (fun w' => w'.cell? ⟨w.heap.size, 0, none⟩ = some (.slice ao n cap) ∧ Hid (Below w1.heap.size w1 w')) (first | exact ⟨z1, BB⟩)
      (first | (go_at_call_of 56 (Value.int .i64 1); refine (C1.out _ ?_).mono ?_; (exact HV.out.below' (B1.out.trans (BB.out.mono B1.out.size))); rintro e w2 ⟨rfl, hb2⟩; have BB := Lib.hid (below_step2 BB.out hb2); have z1 := (BB.out.cell (p := ⟨w.heap.size, 0, none⟩) q1).trans p1) | (go_at_call_of 56 (Value.int .i64 0); refine (C0.out _ ?_).mono ?_; (exact HV.out.below' (B1.out.trans (BB.out.mono B1.out.size))); rintro e w2 ⟨rfl, hb2⟩; have BB := Lib.hid (below_step2 BB.out hb2); have z1 := (BB.out.cell (p := ⟨w.heap.size, 0, none⟩) q1).trans p1))
    have hfin := Lib.hid (B1.out.trans (BB.out.mono B1.out.size))
    go_wp2
    go_ret2
    exact ⟨rfl, hfin.out⟩
  · have hv : iv N = 0 := if_neg hN
    rw [hv, decide_eq_false hN]
    by_cases hl : len N ≤ 2
    · have g1 : decide (2 < ((len N : Nat) : Int)) = false := decide_eq_false (by omega)
      have t1 := two_words_not hN hl
      have C1 := Lib.hid (fun W hW => word_1 (.slice ao (len N) cap) N W hW)
      generalize dig N 1 = x at *
      have g2 : decide (2147483648 ≤ (x : Int)) = true := decide_eq_true (by omega)
      clear hv h hN
      generalize len N = n at *
      go_enter Try.func32, Try.ntmps32
      go_wp2_with fail
      refine (C1.out _ (HV.out.below' (below_one _ _))).mono ?_
      rintro e w1 ⟨rfl, hb1⟩
      have B1 := Lib.hid (below_step2 (below_one w _) hb1)
      clear hb1
      go_wp2
      go_ret2
      exact ⟨rfl, B1.out⟩
    · have g1 : decide (2 < ((len N : Nat) : Int)) = true := decide_eq_true (by omega)
      clear hv h hN
      generalize len N = n at *
      go_enter Try.func32, Try.ntmps32
      go_wp2
      go_ret2
      exact ⟨rfl, below_one _ _⟩

set_option maxHeartbeats 400000 in
theorem refOf_c (x : Nat) (w : World) (hx : (x : Int) ≤ 9223372036854775807) :
    Calls Try.prog 27 #[.int .i64 x] w fun e w' => (∃ ao c, e = .returned (.agg #[.slice ao (len x) c]) ∧ Hid (Nt w' (.slice ao (len x) c) x ∧ Fr w.heap.size (.slice ao (len x) c))) ∧ Below w.heap.size w w' := by
  have hw : words [x % 4294967296, x / 4294967296] := by intro u hu; simp at hu; omega
  have hv : val [x % 4294967296, x / 4294967296] = x := by simp [val]; omega
  have r1 : (x : Int) % 4294967296 = ((x % 4294967296 : Nat) : Int) := by omega
  have r2 : (x : Int) / 4294967296 = ((x / 4294967296 : Nat) : Int) := by omega
  have b1 : x % 4294967296 < 4294967296 := Nat.mod_lt _ (by omega)
  have b2 : x / 4294967296 < 4294967296 := by omega
  have C := Lib.hid (fun W g h => trim_c (.slice (some ⟨g, 0, none⟩) 2 2) [x % 4294967296, x / 4294967296] W h (by simp))
  rw [hv] at C
  have HW := Lib.hid hw
  clear hw hv
  generalize x % 4294967296 = a at *
  generalize x / 4294967296 = b at *
  go_enter Try.func27, Try.ntmps27
  go_wp2_with fail
  refine (C.out _ (w.heap.size + 1) ((Own.two w _ a b).sl HW.out (by simp))).mono ?_
  rintro e w1 ⟨⟨ao, c, rfl, hN⟩, hb⟩
  have r3 := (hb.cell (p := ⟨w.heap.size, 0, none⟩) (by simp; omega)).trans (box2a ..)
  have r4 := (hb.frozen (p := ⟨w.heap.size, 0, none⟩) (by simp; omega)).trans (box1f' ..)
  have hs1 : w.heap.size < w1.heap.size := Nat.lt_of_lt_of_le (by simp; omega) hb.size
  have B1 := Lib.hid ((below_two w _ _).trans (hb.mono (by simp; omega)))
  clear hb
  have HF : Fr (w.heap.size + 1) (.slice ao (len x) c) := Fr.mono hN.out.2 (by simp)
  have hN2 := Lib.hid (And.intro (hN.out.1.set (a := ⟨w.heap.size, 0, none⟩) HF (by simp) (.slice ao (len x) c)) (Fr.mono HF (by omega) : Fr w.heap.size (.slice ao (len x) c)))
  clear hN HF
  go_wp2
  exact bodyPost_ret (v := .agg #[.slice ao (len x) c]) (by simp [results, Try.results27, go_sem, r3]) rfl ⟨⟨ao, c, rfl, hN2⟩, B1.out.setCell (Nat.le_refl _) _⟩
end Go.Proofs.Ytgogfjehbaiklaa
