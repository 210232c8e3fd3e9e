/- Shift to the right. -/
import Derived.Test.YtgogfjehbaiklaaNatS2
namespace Go.Proofs.Ytgogfjehbaiklaa
open Go.RowKit NatMath
set_option linter.unusedVariables false
set_option linter.unusedSimpArgs false

namespace NatMath
theorem shr_word' (W s k : Nat) (hs : s < 32) : dig W k / 2 ^ s < 2 ^ (32 - s) ∧ dig W k / 2 ^ s ||| (dig W (k + 1) * 2 ^ (32 - s)) % 4294967296 = dig (W / 2 ^ s) k := by
  have hB : (4294967296 : Nat) = 2 ^ s * 2 ^ (32 - s) := by rw [← Nat.pow_add, show s + (32 - s) = 32 from by omega]
  have ha : dig W k / 2 ^ s < 2 ^ (32 - s) := by
    rw [Nat.div_lt_iff_lt_mul (Nat.two_pow_pos s), Nat.mul_comm (2 ^ (32 - s)) (2 ^ s), ← hB]; exact dig_lt _ _
  refine ⟨ha, ?_⟩
  rw [or_low ha (by omega)]
  have e1 : dig (W / 2 ^ s) k = W / Bp k / 2 ^ s % 4294967296 := by
    unfold dig; rw [Nat.div_div_eq_div_mul, Nat.mul_comm (2 ^ s), ← Nat.div_div_eq_div_mul]
  have e2 : W / Bp k = 4294967296 * (W / Bp (k + 1)) + dig W k := by have := div_step W k; omega
  have e3 : dig W (k + 1) = W / Bp (k + 1) % 4294967296 := rfl
  rw [e1, e2, e3]
  generalize dig W k = x at *
  generalize W / Bp (k + 1) = Z at *
  have e4 : (4294967296 * Z + x) / 2 ^ s = 2 ^ (32 - s) * Z + x / 2 ^ s := by
    rw [show 4294967296 * Z = 2 ^ s * (2 ^ (32 - s) * Z) from by rw [← Nat.mul_assoc, ← hB], Nat.mul_add_div (Nat.two_pow_pos s)]
  have e5 : Z % 4294967296 * 2 ^ (32 - s) % 4294967296 = Z % 2 ^ s * 2 ^ (32 - s) := by
    rw [Nat.mod_mul_mod]
    conv => lhs; rw [hB]
    rw [Nat.mul_mod_mul_right]
  rw [e4, e5]
  generalize x / 2 ^ s = a at *
  have e6 : 2 ^ (32 - s) * Z + a = 4294967296 * (Z / 2 ^ s) + (Z % 2 ^ s * 2 ^ (32 - s) + a) := by
    conv => lhs; rw [← Nat.div_add_mod Z (2 ^ s)]
    rw [Nat.mul_add, ← Nat.mul_assoc, Nat.mul_comm (2 ^ (32 - s)) (2 ^ s), ← hB, Nat.mul_comm (2 ^ (32 - s)), Nat.add_assoc]
  have e7 : Z % 2 ^ s * 2 ^ (32 - s) + a < 4294967296 := by
    have h1 : Z % 2 ^ s + 1 ≤ 2 ^ s := Nat.mod_lt _ (Nat.two_pow_pos s)
    have h2 := Nat.mul_le_mul_right (2 ^ (32 - s)) h1
    rw [← hB, Nat.add_mul, Nat.one_mul] at h2
    omega
  rw [e6, Nat.mul_add_mod, Nat.mod_eq_of_lt e7, Nat.add_comm]
theorem dig_shift (N k i : Nat) : dig N (k + i) = dig (N / Bp k) i := by unfold dig; rw [Nat.div_div_eq_div_mul, ← Bp_add]
end NatMath

set_option maxRecDepth 100000 in
set_option maxHeartbeats 1000000 in
theorem Shift_right (a : Value) (N m : Nat) (w : World) (ha : Nt w a N) (hl : len N ≤ 64) (h0 : N ≠ 0) (h1 : 1 ≤ m) (h2 : (m : Int) ≤ 10000) :
    Calls Try.prog 15 #[.agg #[a], .int .i64 (-(m : Int))] w fun e w' => RetN (fun w' v' => Nt w' v' (N / 2 ^ m) ∧ Fr w.heap.size v') e w' ∧ Below w.heap.size w w' := by
  have cv := Lib.hid (fun W h => Valid_c a (digs N) W h)
  rw [vld_digs, decide_eq_true hl] at cv
  have HV := Lib.hid ha
  obtain ⟨ao, ca, rfl, a1, a2, hca⟩ := ha.open
  have t1 : decide (-(m : Int) < -10000) = false := decide_eq_false (by omega)
  have t2 : decide (10000 < -(m : Int)) = false := decide_eq_false (by omega)
  have t3 : decide (0 ≤ -(m : Int)) = false := decide_eq_false (by omega)
  have t6 : decide (10000 < (m : Int)) = false := decide_eq_false (by omega)
  have t7 : decide (m = 0) = false := decide_eq_false (by omega)
  have t8 : decide ((m : Int) = 0) = false := decide_eq_false (by omega)
  have t4 : ((len N : Int) == 0) = false := by
    have : len N ≠ 0 := fun e => h0 (len_eq_zero.1 e)
    simp; omega
  have hln : (len N : Int) ≤ 64 := by omega
  have e3 : (m : Int) / 32 = ((m / 32 : Nat) : Int) := rfl
  have e4 : (m : Int) % 32 = ((m % 32 : Nat) : Int) := rfl
  have e5 : -(-(m : Int)) = (m : Int) := by omega
  have hsm : m % 32 < 32 := Nat.mod_lt _ (by omega)
  have hRR : N / 2 ^ m = N / Bp (m / 32) / 2 ^ (m % 32) := by
    rw [Bp_two, Nat.div_div_eq_div_mul, ← Nat.pow_add, Nat.div_add_mod]
  obtain ⟨b, off, rfl, hb, hc⟩ := hca h0
  have hk : m / 32 ≤ 312 := by omega
  have h32 : 32 * (m / 32) ≤ m := by omega
  rw [hRR]
  have HZ : Hid (len N ≤ m / 32 → N / Bp (m / 32) / 2 ^ (m % 32) = 0) := Lib.hid (fun h => by rw [Nat.div_eq_of_lt (Nat.lt_of_lt_of_le (lt_Bp_len N) (Bp_le h)), Nat.zero_div])
  generalize hkk : m / 32 = k at *
  generalize hss : m % 32 = s at *
  have HRl : Hid (N / Bp k / 2 ^ s < Bp (len N - k)) := Lib.hid (by
    refine Nat.lt_of_le_of_lt (Nat.div_le_self _ _) ?_
    rw [Nat.div_lt_iff_lt_mul (Bp_pos k), ← Bp_add]
    exact Nat.lt_of_lt_of_le (lt_Bp_len N) (Bp_le (by omega)))
  have HC : Hid (∀ i, k + i < len N → w.cell? ⟨b, off + (k + i), none⟩ = some (.int .u32 (dig (N / Bp k) i : Nat))) := Lib.hid (fun i hi => by rw [hc _ hi, dig_shift])
  have HT : Hid (∀ i, len N ≤ k + i → dig (N / Bp k) i = 0) := Lib.hid (fun i hi => by rw [← dig_shift]; exact dig_above hi)
  have hw := Lib.hid (fun i => shr_word' (N / Bp k) s i hsm)
  clear ha hca hc hRR h0 hkk hss h32 h1
  generalize N / Bp k / 2 ^ s = R at *
  by_cases hkl : len N ≤ k
  · have t5 : decide (len N ≤ k) = true := decide_eq_true hkl
    rw [HZ.out hkl]
    clear HZ HRl HC HT hw
    go_enter Try.func15, Try.ntmps15
    go_wp2_with fail
    refine (cv.out _ (HV.out.below' (below_two _ _ _))).mono ?_
    rintro e w1 ⟨rfl, hb1⟩
    have B1 := Lib.hid (BX.start w w1 _ hb1)
    clear hb1
    obtain ⟨_, z1, f1, f2, f3⟩ := B1.out
    go_wp2
    exact bodyPost_ret (v := .tuple #[.agg #[.slice none 0 0], .int .i64 0]) (by simp [results, Try.results15, go_sem, f2]) rfl ⟨⟨_, Lib.hid ⟨Nt.zero _, Fr.nil _⟩, rfl⟩, B1.out.1.setCell (by dsimp only; omega) _⟩
  · have t5 : decide (len N ≤ k) = false := decide_eq_false hkl
    have e6 : (len N : Int) - (k : Int) = ((len N - k : Nat) : Int) := by omega
    have hkN : (k : Int) ≤ (len N : Int) := by omega
    have hkN2 : k ≤ len N := by omega
    have hkc : k < ca := by omega
    have hkc2 : (k : Int) < (ca : Int) := by omega
    have hwn : words (fill (dig R) (len N - k) (len N - k)) := fill_words (dig_lt R)
    go_enter Try.func15, Try.ntmps15
    go_wp2_with fail
    refine (cv.out _ (HV.out.below' (below_two _ _ _))).mono ?_
    rintro e w1 ⟨rfl, hb1⟩
    have B1 := Lib.hid (BX.start w w1 _ hb1)
    clear hb1
    obtain ⟨_, z1, f1, f2, f3⟩ := B1.out
    generalize hn1 : len N - k = n1 at *
    have n1N : n1 ≤ len N := by omega
    have n1p : 1 ≤ n1 := by omega
    have HN1 := Lib.hid hn1
    go_wp2_with (at_make; go_loud (refine wpList_make_words _ rfl _ _ rfl n1 _ _ rfl rfl rfl rfl (by omega) _ rfl ?_; intro w5 hO hB))
    clear hn1
    have B5 := Lib.hid (B1.out.on hB)
    have HO5 : Hid (Own w5 w1.heap.size (fill (dig R) 0 n1)) := Lib.hid (by rw [fill_zero]; exact hO)
    have G1 : w.heap.size + 2 ≤ w1.heap.size := by omega
    obtain ⟨gr, hgr⟩ : ∃ g, g = w1.heap.size := ⟨_, rfl⟩
    rw [← hgr] at HO5 G1
    rw [← hgr]
    clear hO hB f1 f2 f3 hgr
    go_loopw [68] (fun s68 wx => ∃ i : Nat, s68 = .int .i64 (i : Int) ∧ i ≤ n1 ∧ Hid (Own wx gr (fill (dig R) i n1)) ∧ Hid (BX w (.slice (some ⟨b, off, none⟩) (len N) ca) wx)) (fun s68 _ => n1 - (RowKit.intOf s68).toNat)
    case atStart => exact ⟨0, rfl, Nat.zero_le _, HO5, B5⟩
    case round =>
      obtain ⟨i, rfl, hi, hO, hBX⟩ := hrel
      by_cases hin : i < n1
      · have u1 : decide (i < n1) = true := decide_eq_true hin
        obtain ⟨sw1, sw2⟩ := hw.out i
        have c1 := (hBX.out.1.cell (p := ⟨b, off + (k + i), none⟩) hb).trans (HC.out i (by have := HN1.out; omega))
        have d1 := dig_lt (N / Bp k) i
        have d2 := dig_lt (N / Bp k) (i + 1)
        have hfr := hO.out.frozen i
        have hcr := hO.out.cell (i := i) (by rw [fill_length]; omega)
        have hO1 := hO.out.set i (dig (N / Bp k) i / 2 ^ s)
        have hO2 := hO1.set i (dig R i)
        rw [List.set_set, fill_set _ hin] at hO2
        have hfr1 := hO1.frozen i
        have hcr1 := hO1.cell (i := i) (by rw [List.length_set, fill_length]; omega)
        rw [getD_set_eq (by rw [fill_length]; omega)] at hcr1
        have hne : b ≠ gr := by omega
        have k5 : ((dig (N / Bp k) i : Nat) : Int) / 2 ^ s = ((dig (N / Bp k) i / 2 ^ s : Nat) : Int) := by push_cast; rfl
        have hlo : dig (N / Bp k) i / 2 ^ s < 4294967296 := Nat.lt_of_le_of_lt (Nat.div_le_self _ _) d1
        have hB2 := Lib.hid (fun (u : Value) => (⟨hBX.out.1.setCell (p := ⟨gr, i, none⟩) (by dsimp only; omega) u, by simpa using hBX.out.2.1, (World.cell?_setCell_far wr ⟨gr, i, none⟩ ⟨w.heap.size, 0, none⟩ u (by dsimp only; omega)).trans hBX.out.2.2.1, (World.cell?_setCell_far wr ⟨gr, i, none⟩ ⟨w.heap.size + 1, 0, none⟩ u (by dsimp only; omega)).trans hBX.out.2.2.2.1, (World.frozen?_setCell _ _ _ _).trans hBX.out.2.2.2.2⟩ : BX w (.slice (some ⟨b, off, none⟩) (len N) ca) (wr.setCell ⟨gr, i, none⟩ u)))
        have eoff : off + (k + i) = off + k + i := by omega
        rw [eoff] at c1
        clear eoff
        by_cases hlast : i + 1 < n1
        · have u2 : decide (i + 1 < n1) = true := decide_eq_true hlast
          have u3 : decide ((i : Int) + 1 < (n1 : Int)) = true := decide_eq_true (by omega)
          have c2 := (hBX.out.1.cell (p := ⟨b, off + (k + (i + 1)), none⟩) hb).trans (HC.out (i + 1) (by have := HN1.out; omega))
          rw [show off + (k + (i + 1)) = off + k + (i + 1) from by omega] at c2
          generalize dig (N / Bp k) i = x1 at *
          generalize dig (N / Bp k) (i + 1) = x2 at *
          have k1 : IntKind.i64.wrap ((i : Int) + 1) = ((i + 1 : Nat) : Int) := by rw [IntWalk.i64_in _ (by omega)]; omega
          have hp : x2 * 2 ^ (32 - s) < 18446744073709551616 := by
            have h1 : 2 ^ (32 - s) ≤ 2 ^ 32 := Nat.pow_le_pow_right (by omega) (by omega)
            have := Nat.mul_le_mul (show x2 ≤ 4294967295 from by omega) h1
            omega
          have k2 : IntKind.i64.wrap (32 - (s : Int)) = ((32 - s : Nat) : Int) := by rw [IntWalk.i64_in _ (by omega)]; omega
          have hs3 : 32 - s ≤ 32 := by omega
          generalize 32 - s = s2 at *
          have k0 : IntKind.u64.wrap (x2 : Int) = (x2 : Int) := IntWalk.u64_in _ (by omega)
          have k3 : IntKind.u64.wrap ((x2 : Int) * 2 ^ s2) = ((x2 * 2 ^ s2 : Nat) : Int) := by
            rw [show (x2 : Int) * 2 ^ s2 = ((x2 * 2 ^ s2 : Nat) : Int) from by push_cast; rfl]
            exact IntWalk.u64_in _ (by omega)
          generalize x2 * 2 ^ s2 = t at *
          have k4 : IntKind.u32.wrap (t : Int) = ((t % 4294967296 : Nat) : Int) := by rw [IntKind.wrap_u32]; omega
          have htl : t % 4294967296 < 4294967296 := Nat.mod_lt _ (by omega)
          generalize t % 4294967296 = tl at *
          generalize x1 / 2 ^ s = h at *
          have k6 : bits .or .u32 (h : Int) (tl : Int) = ((dig R i : Nat) : Int) := by rw [u32_or_nat h tl hlo htl, sw2]
          generalize dig R i = rk at *
          generalize (fill (dig R) i n1).getD i 0 = oo at *
          obtain ⟨kk, hkk⟩ : ∃ kk, kk = i + 1 := ⟨_, rfl⟩
          rw [← hkk] at k1 c2 u2
          have kL1 : (kk : Int) < (n1 : Int) := by omega
          have kL3 : (i : Int) < (n1 : Int) := by omega
          have kL4 : kk < n1 := by omega
          have c2' : (wr.setCell ⟨gr, i, none⟩ (.int .u32 (h : Int))).cell? ⟨b, off + k + kk, none⟩ = some (.int .u32 (x2 : Int)) := (World.cell?_setCell_far wr ⟨gr, i, none⟩ ⟨b, off + k + kk, none⟩ _ (by dsimp only; omega)).trans c2
          have HC2 := Lib.hid c2'
          have HCR := Lib.hid hcr1
          have HFR := Lib.hid hfr1
          have HO2 := Lib.hid hO2
          have HB3 := Lib.hid (hB2.out (.int .u32 (h : Int)))
          have HB4 := Lib.hid (show BX w (.slice (some ⟨b, off, none⟩) (len N) ca) ((wr.setCell ⟨gr, i, none⟩ (.int .u32 (h : Int))).setCell ⟨gr, i, none⟩ (.int .u32 (rk : Int))) from
            ⟨HB3.out.1.setCell (p := ⟨gr, i, none⟩) (by dsimp only; omega) _, by simpa using hBX.out.2.1, (World.cell?_setCell_far _ ⟨gr, i, none⟩ ⟨w.heap.size, 0, none⟩ _ (by dsimp only; omega)).trans HB3.out.2.2.1, (World.cell?_setCell_far _ ⟨gr, i, none⟩ ⟨w.heap.size + 1, 0, none⟩ _ (by dsimp only; omega)).trans HB3.out.2.2.2.1, (World.frozen?_setCell _ _ _ _).trans HB3.out.2.2.2.2⟩)
          clear hkk sw1 sw2 hO2 hO1 hcr1 hfr1 c2 c2' hp hB2 hO hBX
          go_wp2_with fail
          generalize hWW : wr.setCell ⟨gr, i, none⟩ (.int .u32 (h : Int)) = WW at *
          have c2 := HC2.out
          have hcr1 := HCR.out
          have hfr1 := HFR.out
          refine wp_region_held_drew (S := fun w' => w'.cell? ⟨b, off + k + kk, none⟩ = some (.int .u32 (x2 : Int))) (by kernel_rfl) (by exact c2) (fun hHeld => ?_)
          refine takeW (i := 0) (some 84) (v := ?_) rfl rfl (by kernel_rfl) (by kernel_rfl) (by kernel_rfl) (fun _ _ _ h => h) (by rfl) (by assumption) ?_ ?_
          rotate_left
          · (intro wS hSw; (try dsimp only at hSw); go_simp; try with_reducible rfl)
          try simp only [Act.put, List.setIfInBounds_toArray, List.set_cons_zero, List.set_cons_succ]
          refine takeW (i := 1) (some 85) (v := ?_) rfl rfl (by kernel_rfl) (by kernel_rfl) (by kernel_rfl) (fun _ _ _ h => h) (by rfl) (by assumption) ?_ ?_
          rotate_left
          · (intro wS hSw; (try dsimp only at hSw); go_simp; try with_reducible rfl)
          try simp only [Act.put, List.setIfInBounds_toArray, List.set_cons_zero, List.set_cons_succ]
          refine takeW (i := 2) (some 86) (v := ?_) rfl rfl (by kernel_rfl) (by kernel_rfl) (by kernel_rfl) (fun _ _ _ h => h) (by rfl) (by assumption) ?_ ?_
          rotate_left
          · (intro wS hSw; (try dsimp only at hSw); go_simp; try with_reducible rfl)
          try simp only [Act.put, List.setIfInBounds_toArray, List.set_cons_zero, List.set_cons_succ]
          refine takeW (i := 4) (some 88) (v := ?_) rfl rfl (by kernel_rfl) (by kernel_rfl) (by kernel_rfl) (fun _ _ _ h => h) (by rfl) (by assumption) ?_ ?_
          rotate_left
          · (intro wS hSw; (try dsimp only at hSw); go_simp; try with_reducible rfl)
          try simp only [Act.put, List.setIfInBounds_toArray, List.set_cons_zero, List.set_cons_succ]
          refine takeW (i := 5) (some 89) (v := ?_) rfl rfl (by kernel_rfl) (by kernel_rfl) (by kernel_rfl) (fun _ _ _ h => h) (by rfl) (by assumption) ?_ ?_
          rotate_left
          · (intro wS hSw; (try dsimp only at hSw); go_simp; try with_reducible rfl)
          try simp only [Act.put, List.setIfInBounds_toArray, List.set_cons_zero, List.set_cons_succ]
          refine takeW (i := 6) (some 90) (v := ?_) rfl rfl (by kernel_rfl) (by kernel_rfl) (by kernel_rfl) (fun _ _ _ h => h) (by rfl) (by assumption) ?_ ?_
          rotate_left
          · (intro wS hSw; (try dsimp only at hSw); go_simp; try with_reducible rfl)
          try simp only [Act.put, List.setIfInBounds_toArray, List.set_cons_zero, List.set_cons_succ]
          refine takeW (i := 7) (some 91) (v := ?_) rfl rfl (by kernel_rfl) (by kernel_rfl) (by kernel_rfl) (fun _ _ _ h => h) (by rfl) (by assumption) ?_ ?_
          rotate_left
          · (intro wS hSw; (try dsimp only at hSw); go_simp; try with_reducible rfl)
          try simp only [Act.put, List.setIfInBounds_toArray, List.set_cons_zero, List.set_cons_succ]
          refine takeW (i := 8) (some 92) (v := ?_) rfl rfl (by kernel_rfl) (by kernel_rfl) (by kernel_rfl) (fun _ _ _ h => h) (by rfl) (by assumption) ?_ ?_
          rotate_left
          · (intro wS hSw; (try dsimp only at hSw); go_simp; try with_reducible rfl)
          try simp only [Act.put, List.setIfInBounds_toArray, List.set_cons_zero, List.set_cons_succ]
          refine takeW (i := 9) (some 93) (v := ?_) rfl rfl (by kernel_rfl) (by kernel_rfl) (by kernel_rfl) (fun _ _ _ h => h) (by rfl) (by assumption) ?_ ?_
          rotate_left
          · (intro wS hSw; (try dsimp only at hSw); go_simp; try with_reducible rfl)
          try simp only [Act.put, List.setIfInBounds_toArray, List.set_cons_zero, List.set_cons_succ]
          refine takeW (i := 10) (some 94) (v := ?_) rfl rfl (by kernel_rfl) (by kernel_rfl) (by kernel_rfl) (fun _ _ _ h => h) (by rfl) (by assumption) ?_ ?_
          rotate_left
          · (intro wS hSw; (try dsimp only at hSw); go_simp; try with_reducible rfl)
          try simp only [Act.put, List.setIfInBounds_toArray, List.set_cons_zero, List.set_cons_succ]
          refine takeW (i := 11) (some 95) (v := ?_) rfl rfl (by kernel_rfl) (by kernel_rfl) (by kernel_rfl) (fun _ _ _ h => h) (by rfl) (by assumption) ?_ ?_
          rotate_left
          · (intro wS hSw; (try dsimp only at hSw); go_simp; try with_reducible rfl)
          try simp only [Act.put, List.setIfInBounds_toArray, List.set_cons_zero, List.set_cons_succ]
          refine takeW (i := 12) (some 96) (v := ?_) rfl rfl (by kernel_rfl) (by kernel_rfl) (by kernel_rfl) (fun _ _ _ h => h) (by rfl) (by assumption) ?_ ?_
          rotate_left
          · (intro wS hSw; (try dsimp only at hSw); go_simp; try with_reducible rfl)
          try simp only [Act.put, List.setIfInBounds_toArray, List.set_cons_zero, List.set_cons_succ]
          refine takeW (i := 13) (some 97) (v := ?_) rfl rfl (by kernel_rfl) (by kernel_rfl) (by kernel_rfl) (fun _ _ _ h => h) (by rfl) (by assumption) ?_ ?_
          rotate_left
          · (intro wS hSw; (try dsimp only at hSw); go_simp; try with_reducible rfl)
          try simp only [Act.put, List.setIfInBounds_toArray, List.set_cons_zero, List.set_cons_succ]
          refine wpAnyH_ready (rs := [3]) (by kernel_rfl) (by simp) ?_
          refine AllReadyH.cons rfl (fun KK hKK => ?_) AllReadyH.nil
          go_simp
          refine hKK.out _ _ ?_ (fun hHeld2 => ?_)
          · exact c2
          clear hKK KK hHeld2
          try simp only [Act.put, List.setIfInBounds_toArray, List.set_cons_zero, List.set_cons_succ]
          refine takeW (i := 14) (some 98) (v := ?_) rfl rfl (by kernel_rfl) (by kernel_rfl) (by kernel_rfl) (fun _ _ _ h => h) (by rfl) (by assumption) ?_ ?_
          rotate_left
          · (intro wS hSw; (try dsimp only at hSw); go_simp; try with_reducible rfl)
          try simp only [Act.put, List.setIfInBounds_toArray, List.set_cons_zero, List.set_cons_succ]
          refine takeW (i := 15) (some 99) (v := ?_) rfl rfl (by kernel_rfl) (by kernel_rfl) (by kernel_rfl) (fun _ _ _ h => h) (by rfl) (by assumption) ?_ ?_
          rotate_left
          · (intro wS hSw; (try dsimp only at hSw); go_simp; try with_reducible rfl)
          try simp only [Act.put, List.setIfInBounds_toArray, List.set_cons_zero, List.set_cons_succ]
          refine wpAnyH_ready (rs := [16]) (by kernel_rfl) (by simp) ?_
          refine AllReadyH.cons rfl (fun KK hKK => ?_) AllReadyH.nil
          go_simp
          refine hKK.out _ _ ?_ (fun hHeld2 => ?_)
          · exact (World.cell?_setCell_far WW ⟨gr, i, none⟩ ⟨b, off + k + kk, none⟩ _ (by dsimp only; omega)).trans c2
          clear hKK KK hHeld hHeld2
          try simp only [Act.put, List.setIfInBounds_toArray, List.set_cons_zero, List.set_cons_succ]
          refine wpAnyH_done (by kernel_rfl) ?_ _
          have hqd : Qw (WW.setCell ⟨gr, i, none⟩ (.int .u32 (rk : Int))) (WW.setCell ⟨gr, i, none⟩ (.int .u32 (rk : Int))).drew := ⟨1, rfl⟩
          have HO3 := Lib.hid (HO2.out.qw hqd)
          have HB5 := Lib.hid (HB4.out.on (hqd.below _))
          clear hqd HO2 HB4 k0 k1 k2 k3 k4 k5 k6 c2 hcr1 hfr1
          go_wp2
          go_roundw
          case rel => exact ⟨i + 1, by go_num, by omega, HO3, HB5⟩
          case measure => simp [RowKit.intOf]; omega
        · have u2 : decide (i + 1 < n1) = false := decide_eq_false hlast
          have u3 : decide ((i : Int) + 1 < (n1 : Int)) = false := decide_eq_false (by omega)
          have hlst := hw.out i
          rw [HT.out (i + 1) (by have := HN1.out; omega), Nat.zero_mul, Nat.zero_mod, Nat.or_zero] at hlst
          have hq := hO.out.set i (dig R i)
          rw [fill_set _ hin] at hq
          generalize dig (N / Bp k) i = x1 at *
          rw [hlst.2] at k5 hlo
          generalize dig R i = rk at *
          have HO3 := Lib.hid hq
          have HB5 := Lib.hid (hB2.out (.int .u32 (rk : Int)))
          generalize (fill (dig R) i n1).getD i 0 = oo at *
          clear hq hlst sw1 sw2 hO2 hO1 hcr1 hfr1 hO hBX hB2
          go_wp2
          go_roundw
          case rel => exact ⟨i + 1, by go_num, by omega, HO3, HB5⟩
          case measure => simp [RowKit.intOf]; omega
      · obtain rfl : i = n1 := by omega
        have u1 : decide (i < i) = false := decide_eq_false (Nat.lt_irrefl _)
        go_wp2_with fail
        refine (trimmed_own gr _ wr hO.out (fill_words (dig_lt R)) i (fill_length _ _ _) (by omega) (w.heap.size + 2) G1).mono ?_
        rw [fill_val (show R < Bp i from HRl.out)]
        rintro e w6 ⟨⟨v6, hv6, rfl⟩, hb6⟩
        have B6 := Lib.hid (hBX.out.on hb6)
        have HO6 := Lib.hid (hO.out.below' hb6)
        obtain ⟨_, z6, _, f6, f7⟩ := B6.out
        have hN : ∀ Y : Value, Nt (w6.setCell ⟨w.heap.size + 1, 0, none⟩ Y) v6 R := fun Y => hv6.out.1 _ (HO6.out.setOther (by dsimp only; omega) Y)
        obtain ⟨a6, c6, rfl, _⟩ := (hN (.slice none 0 0)).open
        have HN := Lib.hid hN
        have HF := Lib.hid hv6.out.2
        clear hN hv6 hb6
        go_wp2
        exact bodyPost_ret (v := .tuple #[.agg #[.slice a6 (len R) c6], .int .i64 0]) (by simp [results, Try.results15, go_sem, f6]) rfl ⟨⟨_, Lib.hid ⟨HN.out _, Fr.mono HF.out (by omega)⟩, rfl⟩, B6.out.1.setCell (by dsimp only; omega) _⟩
end Go.Proofs.Ytgogfjehbaiklaa
