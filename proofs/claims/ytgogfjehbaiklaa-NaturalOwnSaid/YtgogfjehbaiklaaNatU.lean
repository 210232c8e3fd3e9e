/- The contracts of Bit, Bits (the program's and the reference's). -/
import Derived.Test.YtgogfjehbaiklaaNatMath3
import Derived.Test.YtgogfjehbaiklaaNatRd
import Derived.Laws.BitsAllLaws
namespace Go.Proofs.Ytgogfjehbaiklaa
open Go.RowKit NatMath
set_option linter.unusedVariables false

theorem retb {a b : Bool} (h : a = b) : Ending.returned (.bool a) = .returned (.bool b) := by rw [h]
theorem reti {k : IntKind} {a b : Int} (h : a = b) : Ending.returned (.int k a) = .returned (.int k b) := by rw [h]
theorem below_step2 {a b c : World} (h : Below a.heap.size a b) (hb : Below b.heap.size b c) : Below a.heap.size a c := h.trans (hb.mono h.size)

set_option maxHeartbeats 400000 in
theorem refBit_c (v : Value) (N i : Nat) (w : World) (h : Nt w v N) (hl : len N ≤ 1000000) (hi : (i : Int) ≤ 9223372036854775807) :
    Calls Try.prog 31 #[.agg #[v], .int .i64 i] w fun e w' => e = .returned (.bool (bt N i)) ∧ Below w.heap.size w w' := by
  obtain ⟨ao, cap, rfl, h1, h2, h3⟩ := h.open
  have n0 : decide ((i : Int) < 0) = false := decide_eq_false (by omega)
  by_cases hb : 32 * len N ≤ i
  · rw [bt_above hb]
    have g1 : decide (32 * ((len N : Nat) : Int) ≤ (i : Int)) = true := decide_eq_true (by omega)
    generalize len N = n at *
    clear h h3
    go_enter Try.func31, Try.ntmps31
    go_wp2
    go_ret
    exact ⟨rfl, below_one _ _⟩
  · have g1 : decide (32 * ((len N : Nat) : Int) ≤ (i : Int)) = false := decide_eq_false (by omega)
    have hN : N ≠ 0 := by rintro rfl; rw [len_zero] at hb; omega
    obtain ⟨b, off, rfl, hb, hc⟩ := h3 hN
    have hk : i / 32 < len N := by omega
    have c1 := hc (i / 32) hk
    rw [bt_dig]
    have hs : i % 32 < 32 := Nat.mod_lt _ (by omega)
    have hu := dig_lt N (i / 32)
    have r1 : (i : Int) / 32 = ((i / 32 : Nat) : Int) := by omega
    have r2 : (i : Int) % 32 = ((i % 32 : Nat) : Int) := by omega
    generalize dig N (i / 32) = u at *
    generalize i / 32 = k at *
    generalize i % 32 = s at *
    have r3 : (u : Int) / 2 ^ s = ((u / 2 ^ s : Nat) : Int) := by simp
    generalize u / 2 ^ s = q at *
    generalize len N = n at *
    clear h h3 hc hN
    go_enter Try.func31, Try.ntmps31
    go_wp2
    go_ret
    exact ⟨retb (by rw [Bool.eq_iff_iff]; simp; omega), below_one _ _⟩

theorem refBit_neg (v : Value) (i : Int) (w : World) (hi : i < 0) :
    Calls Try.prog 31 #[.agg #[v], .int .i64 i] w fun e w' => e = .returned (.bool false) ∧ Below w.heap.size w w' := by
  have n0 : decide ((i : Int) < 0) = true := decide_eq_true (by omega)
  go_enter Try.func31, Try.ntmps31
  go_wp2
  go_ret
  exact ⟨rfl, below_one _ _⟩

set_option maxHeartbeats 400000 in
theorem Bit_c (v : Value) (N i : Nat) (w : World) (h : Nt w v N) (hl : len N ≤ 64) (hi : (i : Int) ≤ 9223372036854775807) :
    Calls Try.prog 29 #[.agg #[v], .int .i64 i] w fun e w' => e = .returned (.bool (bt N i)) ∧ Below w.heap.size w w' := by
  have cv := Lib.hid (fun W h => Valid_c v (digs N) W h)
  rw [vld_digs, decide_eq_true hl] at cv
  have HV := Lib.hid h
  obtain ⟨ao, cap, rfl, h1, h2, h3⟩ := h.open
  have n0 : decide (0 ≤ (i : Int)) = true := decide_eq_true (by omega)
  have r1 : (i : Int) / 32 = ((i / 32 : Nat) : Int) := by omega
  by_cases hb : 32 * len N ≤ i
  · rw [bt_above hb]
    have g1 : decide (i / 32 < len N) = false := decide_eq_false (by omega)
    generalize hk : i / 32 = k at *
    generalize len N = n at *
    clear h h3 hk
    go_enter Try.func29, Try.ntmps29
    go_wp2_with fail
    refine (cv.out _ (HV.out.below' (below_one _ _))).mono ?_
    rintro e w1 ⟨rfl, hb1⟩
    have p1 := (hb1.cell (p := ⟨w.heap.size, 0, none⟩) (by simp)).trans (box1a _ _ _)
    have B1 := Lib.hid (below_step2 (below_one w _) hb1)
    clear hb1
    go_wp2
    go_ret
    exact ⟨rfl, B1.out⟩
  · have hN : N ≠ 0 := by rintro rfl; rw [len_zero] at hb; omega
    obtain ⟨b, off, rfl, hb, hc⟩ := h3 hN
    have hk : i / 32 < len N := by omega
    have g1 : decide (i / 32 < len N) = true := decide_eq_true (by omega)
    have c1 := hc (i / 32) hk
    rw [bt_dig]
    have hs : i % 32 < 32 := Nat.mod_lt _ (by omega)
    have hu := dig_lt N (i / 32)
    have r2 : (i : Int) % 32 = ((i % 32 : Nat) : Int) := by omega
    generalize dig N (i / 32) = u at *
    generalize i / 32 = k at *
    generalize i % 32 = s at *
    have r3 : (u : Int) / 2 ^ s = ((u / 2 ^ s : Nat) : Int) := by simp
    have hq : u / 2 ^ s < 4294967296 := Nat.lt_of_le_of_lt (Nat.div_le_self _ _) hu
    generalize u / 2 ^ s = q at *
    have r4 : bits .and .u32 (q : Int) 1 = ((q % 2 : Nat) : Int) := by
      have := u32_and_nat q 1 hq (by omega)
      rw [Nat.and_one_is_mod] at this; exact this
    generalize len N = n at *
    clear h h3 hc hN
    go_enter Try.func29, Try.ntmps29
    go_wp2_with fail
    refine (cv.out _ (HV.out.below' (below_one _ _))).mono ?_
    rintro e w1 ⟨rfl, hb1⟩
    have p1 := (hb1.cell (p := ⟨w.heap.size, 0, none⟩) (by simp)).trans (box1a _ _ _)
    have c2 := (((below_one w (.cells #[.slice (some ⟨b, off, none⟩) n cap] 24)).trans (hb1.mono (by simp))).cell (p := ⟨b, off + k, none⟩) ‹_›).trans c1
    have B1 := Lib.hid (below_step2 (below_one w _) hb1)
    clear hb1 c1
    go_wp2
    go_ret
    exact ⟨retb (by rw [Bool.eq_iff_iff]; simp; omega), B1.out⟩

set_option maxHeartbeats 400000 in
theorem Bit_neg (v : Value) (l : List Nat) (i : Int) (w : World) (h : Sl w v l) (hi : i < 0 ∨ vld l = false) :
    Calls Try.prog 29 #[.agg #[v], .int .i64 i] w fun e w' => e = .returned (.bool false) ∧ Below w.heap.size w w' := by
  have cv := Lib.hid (fun W h => Valid_c v l W h)
  have HV := Lib.hid h
  clear h
  cases hv : vld l
  · rw [hv] at cv
    clear hi hv
    go_enter Try.func29, Try.ntmps29
    go_wp2_with fail
    refine (cv.out _ (HV.out.below' (below_one _ _))).mono ?_
    rintro e w1 ⟨rfl, hb1⟩
    have B1 := Lib.hid (below_step2 (below_one w _) hb1)
    clear hb1
    go_wp2
    go_ret
    exact ⟨rfl, B1.out⟩
  · rw [hv] at cv
    have h0 : i < 0 := by rcases hi with h | h; exact h; rw [hv] at h; cases h
    have n0 : decide (0 ≤ (i : Int)) = false := decide_eq_false (by omega)
    clear hi hv
    go_enter Try.func29, Try.ntmps29
    go_wp2_with fail
    refine (cv.out _ (HV.out.below' (below_one _ _))).mono ?_
    rintro e w1 ⟨rfl, hb1⟩
    have B1 := Lib.hid (below_step2 (below_one w _) hb1)
    clear hb1
    go_wp2
    go_ret
    exact ⟨rfl, B1.out⟩

set_option maxHeartbeats 400000 in
theorem refBits_c (v : Value) (N : Nat) (w : World) (h : Nt w v N) (hl : len N ≤ 1000000) :
    Calls Try.prog 30 #[.agg #[v]] w fun e w' => e = .returned (.int .i64 (bl N : Nat)) ∧ Below w.heap.size w w' := by
  have H := Lib.hid h
  have cB := Lib.hid (fun i W hW hi => refBit_c v N i W hW hl hi)
  have H0 : Hid (N < 2 ^ (32 * len N)) := Lib.hid (bl_le_iff.1 (len_bl.1 (Nat.le_refl _)))
  obtain ⟨R, hR⟩ : ∃ R, Hid (R = bl N) := ⟨_, Lib.hid rfl⟩
  rw [← hR.out]
  obtain ⟨ao, cap, rfl, _, _, _⟩ := h.open
  clear h
  have e0 : (32 : Int) * (len N : Nat) = ((32 * len N : Nat) : Int) := by omega
  have hm : 32 * len N ≤ 32000000 := by omega
  generalize hL : len N = n at *
  generalize hM : 32 * n = m at *
  clear hL hM
  go_enter Try.func30, Try.ntmps30
  go_wp2
  go_loopw [3] (fun s3 wr => ∃ k : Nat, s3 = .int .i64 (k : Int) ∧ k ≤ m ∧ Hid (N < 2 ^ k) ∧ Hid (Below w.heap.size w wr) ∧ wr.cell? ⟨w.heap.size, 0, none⟩ = some (.slice ao n cap) ∧ w.heap.size < wr.heap.size) (fun s3 _ => (RowKit.intOf s3).toNat)
  case atStart => exact ⟨m, rfl, Nat.le_refl _, H0, Lib.hid (below_one _ _), box1a _ _ _, by simp⟩
  case round =>
    obtain ⟨k, rfl, hk, HI, HB, p1, q1⟩ := hrel
    by_cases h0 : k = 0
    · subst h0
      have hr0 : R = 0 := by
        rw [hR.out]; have := HI.out; simp at this; rw [this]; rfl
      subst hr0
      clear hR
      have g1 : decide (0 < (0 : Int)) = false := rfl
      go_wp2
      go_ret
      exact ⟨rfl, HB.out⟩
    · obtain ⟨j, rfl⟩ : ∃ j, k = j + 1 := ⟨k - 1, by omega⟩
      have g1 : decide (0 < ((j + 1 : Nat) : Int)) = true := decide_eq_true (by omega)
      have g2 : decide (0 < j + 1) = true := decide_eq_true (by omega)
      have ej : (((j + 1 : Nat) : Int) - 1) = (j : Int) := by omega
      go_wp2_with fail
      refine (cB.out j _ (H.out.below' HB.out) (by omega)).mono ?_
      rintro e w1 ⟨rfl, hb1⟩
      have p2 := (hb1.cell (p := ⟨w.heap.size, 0, none⟩) q1).trans p1
      have q2 : w.heap.size < w1.heap.size := Nat.lt_of_lt_of_le q1 hb1.size
      have HB2 := Lib.hid (HB.out.trans (hb1.mono (by omega)))
      clear p1 q1 hb1 HB
      cases ht : bt N j
      · have HI2 := Lib.hid (bl_down HI.out ht)
        clear ht HI
        go_wp2
        go_roundw
        case rel => exact ⟨j, rfl, by omega, HI2, HB2, p2, q2⟩
        case measure => simp [RowKit.intOf]
      · have hr1 : R = j + 1 := by rw [hR.out]; exact bl_found HI.out ht
        subst hr1
        clear ht HI hR
        go_wp2
        go_ret
        exact ⟨rfl, HB2.out⟩
end Go.Proofs.Ytgogfjehbaiklaa
