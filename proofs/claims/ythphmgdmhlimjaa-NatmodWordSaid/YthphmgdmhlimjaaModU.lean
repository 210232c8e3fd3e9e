/- The contracts of Bit, Bits (the program's and the reference's). -/
import Derived.Test.YthphmgdmhlimjaaNatMath3
import Derived.Test.YthphmgdmhlimjaaModRb
import Derived.Laws.BitsAllLaws
namespace Go.Proofs.Ythphmgdmhlimjaa
open Go.RowKit NatMath
set_option linter.unusedVariables false

theorem retb {a b : Bool} (h : a = b) : Ending.returned (.bool a) = .returned (.bool b) := by rw [h]
theorem reti {k : IntKind} {a b : Int} (h : a = b) : Ending.returned (.int k a) = .returned (.int k b) := by rw [h]
theorem below_step2 {a b c : World} (h : Below a.heap.size a b) (hb : Below b.heap.size b c) : Below a.heap.size a c := h.trans (hb.mono h.size)

set_option maxHeartbeats 400000 in
theorem Bit_c (v : Value) (N i : Nat) (w : World) (h : Nt w v N) (hl : len N ≤ 64) (hi : (i : Int) ≤ 9223372036854775807) :
    Calls Try.prog 76 #[.agg #[v], .int .i64 i] w fun e w' => e = .returned (.bool (bt N i)) ∧ Below w.heap.size w w' := by
  have cv := Lib.hid (fun W h => Valid_c v (digs N) W h)
  rw [vld_digs, decide_eq_true hl] at cv
  have HV := Lib.hid h
  obtain ⟨ao, cap, rfl, h1, h2, h3⟩ := h.open
  have n0 : decide (0 ≤ (i : Int)) = true := decide_eq_true (by omega)
  have r1 : (i : Int) / 32 = ((i / 32 : Nat) : Int) := by omega
  by_cases hb : 32 * len N ≤ i
  · rw [bt_above hb]
    have g1 : decide (i / 32 < len N) = false := decide_eq_false (by omega)
    generalize hk : i / 32 = k at *
    generalize len N = n at *
    clear h h3 hk
    go_enter Try.func76, Try.ntmps76
    go_wp2_with fail
    refine (cv.out _ (HV.out.below' (below_one _ _))).mono ?_
    rintro e w1 ⟨rfl, hb1⟩
    have p1 := (hb1.cell (p := ⟨w.heap.size, 0, none⟩) (by simp)).trans (box1a _ _ _)
    have B1 := Lib.hid (below_step2 (below_one w _) hb1)
    clear hb1
    go_wp2
    go_ret
    exact ⟨rfl, B1.out⟩
  · have hN : N ≠ 0 := by rintro rfl; rw [len_zero] at hb; omega
    obtain ⟨b, off, rfl, hb, hc⟩ := h3 hN
    have hk : i / 32 < len N := by omega
    have g1 : decide (i / 32 < len N) = true := decide_eq_true (by omega)
    have c1 := hc (i / 32) hk
    rw [bt_dig]
    have hs : i % 32 < 32 := Nat.mod_lt _ (by omega)
    have hu := dig_lt N (i / 32)
    have r2 : (i : Int) % 32 = ((i % 32 : Nat) : Int) := by omega
    generalize dig N (i / 32) = u at *
    generalize i / 32 = k at *
    generalize i % 32 = s at *
    have r3 : (u : Int) / 2 ^ s = ((u / 2 ^ s : Nat) : Int) := by simp
    have hq : u / 2 ^ s < 4294967296 := Nat.lt_of_le_of_lt (Nat.div_le_self _ _) hu
    generalize u / 2 ^ s = q at *
    have r4 : bits .and .u32 (q : Int) 1 = ((q % 2 : Nat) : Int) := by
      have := u32_and_nat q 1 hq (by omega)
      rw [Nat.and_one_is_mod] at this; exact this
    generalize len N = n at *
    clear h h3 hc hN
    go_enter Try.func76, Try.ntmps76
    go_wp2_with fail
    refine (cv.out _ (HV.out.below' (below_one _ _))).mono ?_
    rintro e w1 ⟨rfl, hb1⟩
    have p1 := (hb1.cell (p := ⟨w.heap.size, 0, none⟩) (by simp)).trans (box1a _ _ _)
    have c2 := (((below_one w (.cells #[.slice (some ⟨b, off, none⟩) n cap] 24)).trans (hb1.mono (by simp))).cell (p := ⟨b, off + k, none⟩) ‹_›).trans c1
    have B1 := Lib.hid (below_step2 (below_one w _) hb1)
    clear hb1 c1
    go_wp2
    go_ret
    exact ⟨retb (by rw [Bool.eq_iff_iff]; simp; omega), B1.out⟩

set_option maxHeartbeats 400000 in
theorem Bit_neg (v : Value) (l : List Nat) (i : Int) (w : World) (h : Sl w v l) (hi : i < 0 ∨ vld l = false) :
    Calls Try.prog 76 #[.agg #[v], .int .i64 i] w fun e w' => e = .returned (.bool false) ∧ Below w.heap.size w w' := by
  have cv := Lib.hid (fun W h => Valid_c v l W h)
  have HV := Lib.hid h
  clear h
  cases hv : vld l
  · rw [hv] at cv
    clear hi hv
    go_enter Try.func76, Try.ntmps76
    go_wp2_with fail
    refine (cv.out _ (HV.out.below' (below_one _ _))).mono ?_
    rintro e w1 ⟨rfl, hb1⟩
    have B1 := Lib.hid (below_step2 (below_one w _) hb1)
    clear hb1
    go_wp2
    go_ret
    exact ⟨rfl, B1.out⟩
  · rw [hv] at cv
    have h0 : i < 0 := by rcases hi with h | h; exact h; rw [hv] at h; cases h
    have n0 : decide (0 ≤ (i : Int)) = false := decide_eq_false (by omega)
    clear hi hv
    go_enter Try.func76, Try.ntmps76
    go_wp2_with fail
    refine (cv.out _ (HV.out.below' (below_one _ _))).mono ?_
    rintro e w1 ⟨rfl, hb1⟩
    have B1 := Lib.hid (below_step2 (below_one w _) hb1)
    clear hb1
    go_wp2
    go_ret
    exact ⟨rfl, B1.out⟩

end Go.Proofs.Ythphmgdmhlimjaa
