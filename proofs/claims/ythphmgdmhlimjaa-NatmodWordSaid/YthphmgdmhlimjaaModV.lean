/- The contracts of Bits, Int and the reference's Int, Of. -/
import Derived.Test.YthphmgdmhlimjaaModU
import Derived.Test.YthphmgdmhlimjaaShelf
import Derived.Deep.RegionHeld3
namespace Go.Proofs.Ythphmgdmhlimjaa
open Go.RowKit NatMath
set_option linter.unusedVariables false

theorem len32 (x : Nat) (w : World) (hx : x < 4294967296) :
    Calls Try.prog 91 #[.int .u32 (x : Int)] w fun e w' => e = .returned (.int .i64 (bl x : Nat)) ∧ w' = w := by
  have h := Try.bits_Len32 (x : Int) w (by omega) (by omega)
  rw [Int.toNat_natCast, bitLen_bl 32 x hx (by omega)] at h
  exact h

set_option maxHeartbeats 400000 in
theorem Bits_c (v : Value) (N : Nat) (w : World) (h : Nt w v N) (hl : len N ≤ 64) :
    Calls Try.prog 75 #[.agg #[v]] w fun e w' => e = .returned (.int .i64 (bl N : Nat)) ∧ Below w.heap.size w w' := by
  have cv := Lib.hid (fun W h => Valid_c v (digs N) W h)
  rw [vld_digs, decide_eq_true hl] at cv
  have HV := Lib.hid h
  obtain ⟨ao, cap, rfl, h1, h2, h3⟩ := h.open
  by_cases h0 : N = 0
  · subst h0
    rw [bl_zero]
    rw [len_zero] at *
    clear h h3
    go_enter Try.func75, Try.ntmps75
    go_wp2_with fail
    refine (cv.out _ (HV.out.below' (below_one _ _))).mono ?_
    rintro e w1 ⟨rfl, hb1⟩
    have p1 := (hb1.cell (p := ⟨w.heap.size, 0, none⟩) (by simp)).trans (box1a _ _ _)
    have B1 := Lib.hid (below_step2 (below_one w _) hb1)
    clear hb1
    go_wp2
    go_ret
    exact ⟨rfl, B1.out⟩
  · obtain ⟨b, off, rfl, hb, hc⟩ := h3 h0
    have hn : len N ≠ 0 := fun e => h0 (len_eq_zero.1 e)
    have c1 := hc (len N - 1) (by omega)
    have hB := bl_top h0
    have hu := dig_lt N (len N - 1)
    generalize dig N (len N - 1) = u at *
    have hbu : bl u ≤ 32 := bl_le_iff.2 hu
    have cl := Lib.hid (fun W => len32 u W hu)
    generalize bl u = r at *
    rw [hB]
    generalize hL : len N = n at *
    have e1 : (n : Int) - 1 = ((n - 1 : Nat) : Int) := by omega
    have hj : n - 1 < n := by omega
    have g1 : ((n : Int) == 0) = false := by simp; omega
    have e2 : (32 : Int) * ((n - 1 : Nat) : Int) = ((32 * (n - 1) : Nat) : Int) := by omega
    have hp : 32 * (n - 1) ≤ 2048 := by omega
    generalize 32 * (n - 1) = p at *
    generalize n - 1 = m at *
    clear hB h h3 hc h0 hn hL hl
    go_enter Try.func75, Try.ntmps75
    go_wp2_with fail
    refine (cv.out _ (HV.out.below' (below_one _ _))).mono ?_
    rintro e w1 ⟨rfl, hb1⟩
    have p1 := (hb1.cell (p := ⟨w.heap.size, 0, none⟩) (by simp)).trans (box1a _ _ _)
    have c2 := (((below_one w (.cells #[.slice (some ⟨b, off, none⟩) n cap] 24)).trans (hb1.mono (by simp))).cell (p := ⟨b, off + m, none⟩) ‹_›).trans c1
    have B1 := Lib.hid (below_step2 (below_one w _) hb1)
    clear hb1 c1
    go_wp2_with fail
    go_quiet ((go_at_call 91; exact Calls.quiet_of_same (cl.out _)))
    go_wp2
    go_ret
    exact ⟨reti (by omega), B1.out.trans (below_drewN (Below.refl _ _) _)⟩

theorem ret_i2 {a b : Int} {c d : Value} (h : a = b) (k : c = d) : Ending.returned (.tuple #[.int .i64 a, c]) = .returned (.tuple #[.int .i64 b, d]) := by rw [h, k]

set_option maxHeartbeats 400000 in
theorem Bits_bad (v : Value) (l : List Nat) (w : World) (h : Sl w v l) (hv : vld l = false) :
    Calls Try.prog 75 #[.agg #[v]] w fun e w' => e = .returned (.int .i64 0) ∧ Below w.heap.size w w' := by
  have cv := Lib.hid (fun W h => Valid_c v l W h)
  rw [hv] at cv
  have HV := Lib.hid h
  clear h hv
  go_enter Try.func75, Try.ntmps75
  go_wp2_with fail
  refine (cv.out _ (HV.out.below' (below_one _ _))).mono ?_
  rintro e w1 ⟨rfl, hb1⟩
  have B1 := Lib.hid (below_step2 (below_one w _) hb1)
  clear hb1
  go_wp2
  go_ret
  exact ⟨rfl, B1.out⟩

/-- what Int gives: the number, or 0 and the code for too big -/
def iv (N : Nat) : Nat := if N < 9223372036854775808 then N else 0
def ic (N : Nat) : Int := if N < 9223372036854775808 then 0 else 9

theorem mod_step' (X k : Nat) : X % Bp (k + 1) = X % Bp k + dig X k * 2 ^ (32 * k) := by rw [mod_step, ← Bp_two, Nat.mul_comm, Nat.add_comm]

theorem two_words {N : Nat} (h : N < 9223372036854775808) : dig N 1 < 2147483648 ∧ dig N 1 * 4294967296 + dig N 0 = N := by
  unfold dig; rw [Bp_one, Bp_zero]; omega
theorem two_words_not {N : Nat} (h : ¬ N < 9223372036854775808) (hl : len N ≤ 2) : ¬ dig N 1 < 2147483648 := by
  have := len_le_iff.1 hl; unfold Bp at this
  unfold dig; rw [Bp_one]; omega

end Go.Proofs.Ythphmgdmhlimjaa
