/- The reference's Shift. -/
import Derived.Test.YtgogfjehbaiklaaNatP4
namespace Go.Proofs.Ytgogfjehbaiklaa
open Go.RowKit NatMath
set_option linter.unusedVariables false
set_option linter.unusedSimpArgs false

namespace NatMath
/-- a list of words whose number is less than 2^j: bit j is set by an addition at its word -/
theorem set_bit' {l : List Nat} {j : Nat} (hw : words l) (hj : j < 32 * l.length) (hz : val l < 2 ^ j) :
    l.getD (j / 32) 0 + 2 ^ (j % 32) < 4294967296 ∧ words (l.set (j / 32) (l.getD (j / 32) 0 + 2 ^ (j % 32))) ∧ val (l.set (j / 32) (l.getD (j / 32) 0 + 2 ^ (j % 32))) = val l + 2 ^ j := by
  have hs : j % 32 < 32 := Nat.mod_lt _ (by omega)
  have hi : j / 32 < l.length := by omega
  have hp : 2 ^ j = 2 ^ (j % 32) * Bp (j / 32) := by rw [Bp_two, ← Nat.pow_add, Nat.mod_add_div]
  have h1 : l.getD (j / 32) 0 < 2 ^ (j % 32) := by
    have := getD_le_val hi
    apply Nat.lt_of_mul_lt_mul_right (a := Bp (j / 32))
    rw [← hp]; omega
  have h2 : 2 ^ (j % 32) ≤ 2147483648 := by
    have : 2 ^ (j % 32) ≤ 2 ^ 31 := Nat.pow_le_pow_right (by omega) (by omega)
    simpa using this
  have hlt : l.getD (j / 32) 0 + 2 ^ (j % 32) < 4294967296 := by omega
  refine ⟨hlt, words_set hw hlt, ?_⟩
  have := val_set l (j / 32) (l.getD (j / 32) 0 + 2 ^ (j % 32)) hi
  rw [Nat.add_mul, ← hp] at this
  omega
theorem mod_bit (R j : Nat) : R % 2 ^ (j + 1) = R % 2 ^ j + (if bt R j then 2 ^ j else 0) := by
  have h : R % 2 ^ (j + 1) = 2 ^ j * (R / 2 ^ j % 2) + R % 2 ^ j := by
    rw [Nat.pow_succ, Nat.mod_mul, Nat.add_comm]
  rw [h]
  unfold bt
  by_cases k : R / 2 ^ j % 2 = 1
  · rw [k]; simp; omega
  · have := Nat.mod_two_eq_zero_or_one (R / 2 ^ j)
    rw [show R / 2 ^ j % 2 = 0 from by omega]; simp
end NatMath

theorem BX.far {w W : World} {v : Value} (h : BX w v W) {p : Addr} (hp : w.heap.size + 2 ≤ p.block) (x : Value) : BX w v (W.setCell p x) :=
  h.on2 ((Below.refl _ _).setCell hp x)

set_option maxHeartbeats 1000000 in
theorem refShift_zero (a : Value) (N : Nat) (n : Int) (w : World) (ha : Nt w a N) (hl : len N ≤ 64) (h1 : -10000 ≤ n) (h2 : n ≤ 10000) (h : N = 0 ∨ (bl N : Int) + n ≤ 0) :
    Calls Try.prog 19 #[.agg #[a], .int .i64 n] w fun e w' => e = errN 0 ∧ Below w.heap.size w w' := by
  have HA := Lib.hid ha
  have cB := Lib.hid (fun W hW => refBits_c a N W hW (by omega))
  obtain ⟨ao, ca, rfl, _⟩ := ha.open
  have hbl : bl N ≤ 2048 := Nat.le_trans (len_bl.1 (Nat.le_refl (len N))) (by omega)
  have B0 := Lib.hid (show BX w (.slice ao (len N) ca) ((w.alloc (.cells #[.slice ao (len N) ca] 24)).alloc (.cells #[.slice none 0 0] 24)) from BX.start w _ _ (Below.refl _ _))
  have hz : len N = 0 ∨ (len N ≠ 0 ∧ (bl N : Int) + n ≤ 0) := by
    rcases h with h | h
    · left; rw [h, len_zero]
    · by_cases k : len N = 0
      · exact Or.inl k
      · exact Or.inr ⟨k, h⟩
  clear ha h
  generalize bl N = b at *
  generalize len N = m at *
  rcases hz with hz | ⟨hz, hn⟩
  · subst hz
    go_enter Try.func19, Try.ntmps19
    go_wp2_with fail
    refine (cB.out _ (HA.out.below' B0.out.1)).mono ?_
    rintro e w1 ⟨rfl, hb1⟩
    have B1 := Lib.hid (B0.out.on hb1)
    clear hb1
    obtain ⟨_, z1, f1, f2, f3⟩ := B1.out
    go_wp2
    exact bodyPost_ret (v := .tuple #[.agg #[.slice none 0 0], .int .i64 0]) (by simp [results, Try.results19, go_sem, f2]) rfl ⟨rfl, B1.out.1.setCell (by dsimp only; omega) _⟩
  · have t1 : ((m : Int) == 0) = false := by simp; omega
    have t2 : decide ((b : Int) + n ≤ 0) = true := decide_eq_true hn
    clear hz hn
    go_enter Try.func19, Try.ntmps19
    go_wp2_with fail
    refine (cB.out _ (HA.out.below' B0.out.1)).mono ?_
    rintro e w1 ⟨rfl, hb1⟩
    have B1 := Lib.hid (B0.out.on hb1)
    clear hb1
    obtain ⟨_, z1, f1, f2, f3⟩ := B1.out
    go_wp2
    exact bodyPost_ret (v := .tuple #[.agg #[.slice none 0 0], .int .i64 0]) (by simp [results, Try.results19, go_sem, f2]) rfl ⟨rfl, B1.out.1.setCell (by dsimp only; omega) _⟩

set_option maxHeartbeats 1000000 in
theorem refShift_big (a : Value) (N sz : Nat) (n : Int) (w : World) (ha : Nt w a N) (hl : len N ≤ 64) (h1 : -10000 ≤ n) (h2 : n ≤ 10000) (h0 : N ≠ 0) (hs : (bl N : Int) + n = (sz : Int)) (hb : 2048 < sz) :
    Calls Try.prog 19 #[.agg #[a], .int .i64 n] w fun e w' => e = errN 9 ∧ Below w.heap.size w w' := by
  have HA := Lib.hid ha
  have cB := Lib.hid (fun W hW => refBits_c a N W hW (by omega))
  obtain ⟨ao, ca, rfl, _⟩ := ha.open
  have hbl : bl N ≤ 2048 := Nat.le_trans (len_bl.1 (Nat.le_refl (len N))) (by omega)
  have B0 := Lib.hid (show BX w (.slice ao (len N) ca) ((w.alloc (.cells #[.slice ao (len N) ca] 24)).alloc (.cells #[.slice none 0 0] 24)) from BX.start w _ _ (Below.refl _ _))
  have t1 : ((len N : Int) == 0) = false := by
    have : len N ≠ 0 := fun e => h0 (len_eq_zero.1 e)
    simp; omega
  have t2 : decide ((sz : Int) ≤ 0) = false := decide_eq_false (by omega)
  have t4 : decide (sz ≤ 0) = false := decide_eq_false (by omega)
  have t5 : (sz == 0) = false := by simp; omega
  have t3 : decide (2048 < (sz : Int)) = true := decide_eq_true (by omega)
  clear ha h0
  generalize bl N = b at *
  generalize len N = m at *
  go_enter Try.func19, Try.ntmps19
  go_wp2_with fail
  refine (cB.out _ (HA.out.below' B0.out.1)).mono ?_
  rintro e w1 ⟨rfl, hb1⟩
  have B1 := Lib.hid (B0.out.on hb1)
  clear hb1
  obtain ⟨_, z1, f1, f2, f3⟩ := B1.out
  go_wp2
  exact bodyPost_ret (v := .tuple #[.agg #[.slice none 0 0], .int .i64 9]) (by simp [results, Try.results19, go_sem, f2]) rfl ⟨rfl, B1.out.1.setCell (by dsimp only; omega) _⟩

set_option maxRecDepth 100000 in
set_option maxHeartbeats 2000000 in
theorem refShift_ok (a : Value) (N sz R : Nat) (n : Int) (w : World) (ha : Nt w a N) (hl : len N ≤ 64) (h1 : -10000 ≤ n) (h2 : n ≤ 10000) (h0 : N ≠ 0) (hs : (bl N : Int) + n = (sz : Int)) (hb0 : 1 ≤ sz) (hb : sz ≤ 2048) (hR : R < 2 ^ sz)
    (hbit : ∀ (i : Nat) (W : World), i < sz → Nt W a N → Calls Try.prog 31 #[.agg #[a], .int .i64 ((i : Int) - n)] W fun e w' => e = .returned (.bool (bt R i)) ∧ Below W.heap.size W w') :
    Calls Try.prog 19 #[.agg #[a], .int .i64 n] w fun e w' => RetN (fun w' v' => Nt w' v' R) e w' ∧ Below w.heap.size w w' := by
  have HA := Lib.hid ha
  have cB := Lib.hid (fun W hW => refBits_c a N W hW (by omega))
  have hBit := Lib.hid hbit
  obtain ⟨ao, ca, rfl, _⟩ := ha.open
  have hbl : bl N ≤ 2048 := Nat.le_trans (len_bl.1 (Nat.le_refl (len N))) (by omega)
  have B0 := Lib.hid (show BX w (.slice ao (len N) ca) ((w.alloc (.cells #[.slice ao (len N) ca] 24)).alloc (.cells #[.slice none 0 0] 24)) from BX.start w _ _ (Below.refl _ _))
  have t1 : ((len N : Int) == 0) = false := by
    have : len N ≠ 0 := fun e => h0 (len_eq_zero.1 e)
    simp; omega
  have t2 : decide ((sz : Int) ≤ 0) = false := decide_eq_false (by omega)
  have t4 : decide (sz ≤ 0) = false := decide_eq_false (by omega)
  have t5 : (sz == 0) = false := by simp; omega
  have t6 : decide (sz = 0) = false := decide_eq_false (by omega)
  have t3 : decide (2048 < (sz : Int)) = false := decide_eq_false (by omega)
  have e7 : (sz : Int) / 32 = ((sz / 32 : Nat) : Int) := by omega
  have e8 : ((sz / 32 : Nat) : Int) + 1 = ((sz / 32 + 1 : Nat) : Int) := by omega
  have HRR := Lib.hid (show R % 2 ^ sz = R from Nat.mod_eq_of_lt hR)
  have hL : sz < 32 * (sz / 32 + 1) := by omega
  have hL2 : sz / 32 + 1 ≤ 100 := by omega
  generalize hLL : sz / 32 + 1 = L at *
  clear hLL
  generalize sz / 32 = d at *
  clear ha h0 hbit hR
  generalize bl N = b at *
  generalize len N = m at *
  go_enter Try.func19, Try.ntmps19
  go_wp2_with fail
  refine (cB.out _ (HA.out.below' B0.out.1)).mono ?_
  rintro e w1 ⟨rfl, hb1⟩
  have B1 := Lib.hid (B0.out.on hb1)
  clear hb1
  obtain ⟨_, z1, f1, f2, f3⟩ := B1.out
  go_wp2_with (at_make; go_loud (refine wpList_make_words _ rfl _ _ rfl L _ _ rfl rfl rfl rfl (by omega) _ rfl ?_; intro w3 hO hB))
  have B3 := Lib.hid (B1.out.on hB)
  obtain ⟨g, hg⟩ : ∃ g, g = w1.heap.size := ⟨_, rfl⟩
  have hg2 : w.heap.size + 2 ≤ g := by omega
  rw [← hg] at hO
  rw [← hg]
  have hI0 : Hid (∃ l, l.length = L ∧ words l ∧ val l = R % 2 ^ 0 ∧ Own w3 g l) := Lib.hid ⟨_, by simp, words_zeros _, by rw [val_zeros, Nat.pow_zero, Nat.mod_one], hO⟩
  clear hO hB hg B0 B1 f1 f2 f3 z1 e7 e8
  go_loopw [8] (fun s8 wr => ∃ i : Nat, s8 = .int .i64 (i : Int) ∧ i ≤ sz ∧ Hid (∃ l, l.length = L ∧ words l ∧ val l = R % 2 ^ i ∧ Own wr g l) ∧ Hid (BX w (.slice ao m ca) wr)) (fun s8 _ => sz - (RowKit.intOf s8).toNat)
  case atStart => exact ⟨0, rfl, Nat.zero_le _, hI0, B3⟩
  case round =>
    clear hI0 B3
    obtain ⟨i, rfl, hi, hI, hBX⟩ := hrel
    obtain ⟨hbel, z1, f1, f2, f3⟩ := hBX.out
    by_cases his : i < sz
    · have u1 : decide (i < sz) = true := decide_eq_true his
      have hmb := Lib.hid (mod_bit R i)
      go_wp2_with fail
      refine (hBit.out i _ his (HA.out.below' hbel)).mono ?_
      rintro e w5 ⟨rfl, hb5⟩
      have B5 := Lib.hid (hBX.out.on hb5)
      have hI5 : Hid (∃ l, l.length = L ∧ words l ∧ val l = R % 2 ^ i ∧ Own w5 g l) := Lib.hid (by
        obtain ⟨l, q1, q2, q3, q4⟩ := hI.out
        exact ⟨l, q1, q2, q3, q4.below' hb5⟩)
      clear hbel z1 f1 f2 f3 hb5 hI hBX
      obtain ⟨hbel, z1, f1, f2, f3⟩ := B5.out
      by_cases hbt : bt R i = true
      · have hmi := hmb.out
        rw [hbt, if_pos rfl] at hmi
        obtain ⟨l, hl1, hl2, hl3, hOq⟩ := hI5.out
        obtain ⟨sb1, sb2, sb3⟩ := set_bit' (j := i) hl2 (by rw [hl1]; omega) (by rw [hl3]; exact Nat.mod_lt _ (Nat.two_pow_pos i))
        have hq2 := hOq.cell (i := i / 32) (by omega)
        have hf2 := hOq.frozen (i / 32)
        have HF : Hid (∀ V, Qw w5 V → ∃ l', l'.length = L ∧ words l' ∧ val l' = R % 2 ^ (i + 1) ∧ Own (V.setCell ⟨g, i / 32, none⟩ (.int .u32 ((l.getD (i / 32) 0 + 2 ^ (i % 32) : Nat) : Int))) g l') := Lib.hid (fun V hq => ⟨_, by rw [List.length_set, hl1], sb2, by rw [sb3, hl3, hmi], (hOq.qw hq).set _ _⟩)
        have HB6 := Lib.hid (fun V (hq : Qw w5 V) (x : Value) => (B5.out.on (hq.below _)).far (p := ⟨g, i / 32, none⟩) hg2 x)
        have hu := getD_lt hl2 (i / 32)
        have jd32 : i / 32 < L := by omega
        have jd33 : ((i / 32 : Nat) : Int) < (L : Int) := by omega
        have e1 : (i : Int).tdiv 32 = ((i / 32 : Nat) : Int) := by rw [Int.tdiv_eq_ediv_of_nonneg (by omega)]; rfl
        have e2 : (i : Int).tmod 32 = ((i % 32 : Nat) : Int) := by rw [Int.tmod_eq_emod_of_nonneg (by omega)]; rfl
        have e3 : (i : Int) / 32 = ((i / 32 : Nat) : Int) := rfl
        have e4 : (i : Int) % 32 = ((i % 32 : Nat) : Int) := rfl
        have e0 : IntKind.i64.wrap ((i / 32 : Nat) : Int) = ((i / 32 : Nat) : Int) := IntWalk.i64_in _ (by omega)
        have hjs : i % 32 < 32 := Nat.mod_lt _ (by omega)
        generalize l.getD (i / 32) 0 = u at *
        generalize i / 32 = jd at *
        generalize i % 32 = js at *
        have hp2 : 2 ^ js < 4294967296 := by omega
        have e5 : ∀ p : Nat, p = 2 ^ js → p < 4294967296 → IntKind.u32.wrap ((2 : Int) ^ js) = (p : Int) := fun p hp hl => by
          rw [show (2 : Int) ^ js = (p : Int) from by rw [hp]; push_cast; rfl, IntKind.wrap_u32]; omega
        generalize hpp : 2 ^ js = p at *
        replace e5 := e5 p rfl hp2
        clear hpp
        have e6 : IntKind.u32.wrap ((u : Int) + (p : Int)) = ((u + p : Nat) : Int) := by rw [IntKind.wrap_u32]; omega
        generalize u + p = nw at *
        clear sb2 sb3 hl1 hl2 hl3 hmi hOq hI5 hbel z1 f1 f2 f3
        go_wp2_with fail
        refine wp_region_held_drew (S := fun _ => True) (by kernel_rfl) trivial (fun hHeld => ?_)
        refine takeW (i := 0) (some 39) (v := ?_) rfl rfl (by kernel_rfl) (by kernel_rfl) (by kernel_rfl) (fun _ _ _ h => h) (by rfl) (by assumption) ?_ ?_
        rotate_left
        · (intro wS hSw; (try dsimp only at hSw); go_simp; try with_reducible rfl)
        try simp only [Act.put, List.setIfInBounds_toArray, List.set_cons_zero, List.set_cons_succ]
        refine takeW (i := 1) (some 40) (v := ?_) rfl rfl (by kernel_rfl) (by kernel_rfl) (by kernel_rfl) (fun _ _ _ h => h) (by rfl) (by assumption) ?_ ?_
        rotate_left
        · (intro wS hSw; (try dsimp only at hSw); go_simp; try with_reducible rfl)
        try simp only [Act.put, List.setIfInBounds_toArray, List.set_cons_zero, List.set_cons_succ]
        refine takeW (i := 2) (some 41) (v := ?_) rfl rfl (by kernel_rfl) (by kernel_rfl) (by kernel_rfl) (fun _ _ _ h => h) (by rfl) (by assumption) ?_ ?_
        rotate_left
        · (intro wS hSw; (try dsimp only at hSw); go_simp; try with_reducible rfl)
        try simp only [Act.put, List.setIfInBounds_toArray, List.set_cons_zero, List.set_cons_succ]
        refine takeW (i := 3) (some 42) (v := ?_) rfl rfl (by kernel_rfl) (by kernel_rfl) (by kernel_rfl) (fun _ _ _ h => h) (by rfl) (by assumption) ?_ ?_
        rotate_left
        · (intro wS hSw; (try dsimp only at hSw); go_simp; try with_reducible rfl)
        try simp only [Act.put, List.setIfInBounds_toArray, List.set_cons_zero, List.set_cons_succ]
        refine takeW (i := 4) (some 43) (v := ?_) rfl rfl (by kernel_rfl) (by kernel_rfl) (by kernel_rfl) (fun _ _ _ h => h) (by rfl) (by assumption) ?_ ?_
        rotate_left
        · (intro wS hSw; (try dsimp only at hSw); go_simp; try with_reducible rfl)
        try simp only [Act.put, List.setIfInBounds_toArray, List.set_cons_zero, List.set_cons_succ]
        refine takeW (i := 5) (some 44) (v := ?_) rfl rfl (by kernel_rfl) (by kernel_rfl) (by kernel_rfl) (fun _ _ _ h => h) (by rfl) (by assumption) ?_ ?_
        rotate_left
        · (intro wS hSw; (try dsimp only at hSw); go_simp; try with_reducible rfl)
        try simp only [Act.put, List.setIfInBounds_toArray, List.set_cons_zero, List.set_cons_succ]
        refine takeW (i := 6) (some 45) (v := ?_) rfl rfl (by kernel_rfl) (by kernel_rfl) (by kernel_rfl) (fun _ _ _ h => h) (by rfl) (by assumption) ?_ ?_
        rotate_left
        · (intro wS hSw; (try dsimp only at hSw); go_simp; try with_reducible rfl)
        try simp only [Act.put, List.setIfInBounds_toArray, List.set_cons_zero, List.set_cons_succ]
        refine takeW (i := 8) (some 47) (v := ?_) rfl rfl (by kernel_rfl) (by kernel_rfl) (by kernel_rfl) (fun _ _ _ h => h) (by rfl) (by assumption) ?_ ?_
        rotate_left
        · (intro wS hSw; (try dsimp only at hSw); go_simp; try with_reducible rfl)
        try simp only [Act.put, List.setIfInBounds_toArray, List.set_cons_zero, List.set_cons_succ]
        refine takeW (i := 9) (some 48) (v := ?_) rfl rfl (by kernel_rfl) (by kernel_rfl) (by kernel_rfl) (fun _ _ _ h => h) (by rfl) (by assumption) ?_ ?_
        rotate_left
        · (intro wS hSw; (try dsimp only at hSw); go_simp; try with_reducible rfl)
        try simp only [Act.put, List.setIfInBounds_toArray, List.set_cons_zero, List.set_cons_succ]
        refine takeW (i := 10) (some 49) (v := ?_) rfl rfl (by kernel_rfl) (by kernel_rfl) (by kernel_rfl) (fun _ _ _ h => h) (by rfl) (by assumption) ?_ ?_
        rotate_left
        · (intro wS hSw; (try dsimp only at hSw); go_simp; try with_reducible rfl)
        try simp only [Act.put, List.setIfInBounds_toArray, List.set_cons_zero, List.set_cons_succ]
        refine wpAnyH_ready (rs := [7]) (by kernel_rfl) (by simp) ?_
        refine AllReadyH.cons rfl (fun KK hKK => ?_) AllReadyH.nil
        go_simp
        refine hKK.out _ _ ?_ (fun hHeld => ?_)
        · exact trivial
        clear hKK KK
        try simp only [Act.put, List.setIfInBounds_toArray, List.set_cons_zero, List.set_cons_succ]
        refine takeW (i := 11) (some 50) (v := ?_) rfl rfl (by kernel_rfl) (by kernel_rfl) (by kernel_rfl) (fun _ _ _ h => h) (by rfl) (by assumption) ?_ ?_
        rotate_left
        · (intro wS hSw; (try dsimp only at hSw); go_simp; try with_reducible rfl)
        try simp only [Act.put, List.setIfInBounds_toArray, List.set_cons_zero, List.set_cons_succ]
        refine takeW (i := 12) (some 51) (v := ?_) rfl rfl (by kernel_rfl) (by kernel_rfl) (by kernel_rfl) (fun _ _ _ h => h) (by rfl) (by assumption) ?_ ?_
        rotate_left
        · (intro wS hSw; (try dsimp only at hSw); go_simp; try with_reducible rfl)
        try simp only [Act.put, List.setIfInBounds_toArray, List.set_cons_zero, List.set_cons_succ]
        refine wpAnyH_ready (rs := [13]) (by kernel_rfl) (by simp) ?_
        refine AllReadyH.cons rfl (fun KK hKK => ?_) AllReadyH.nil
        go_simp
        refine hKK.out _ _ ?_ (fun hHeld => ?_)
        · exact trivial
        clear hKK KK
        try simp only [Act.put, List.setIfInBounds_toArray, List.set_cons_zero, List.set_cons_succ]
        refine wpAnyH_done (by kernel_rfl) ?_ _
        have hqw : Qw w5 w5.drew := ⟨1, rfl⟩
        have HF1 := Lib.hid (HF.out _ hqw)
        have HB1 := Lib.hid (HB6.out _ hqw (.int .u32 (nw : Int)))
        clear hqw HF HB6 e0 e1 e2 e3 e4 e5 e6
        go_wp2
        go_roundw
        case rel => exact ⟨i + 1, by go_num, by omega, HF1, HB1⟩
        case measure => simp [RowKit.intOf]; omega
      · have hbf : bt R i = false := by simpa using hbt
        have hmi := hmb.out
        rw [hbf, if_neg (by simp), Nat.add_zero] at hmi
        have HF : Hid (∃ l, l.length = L ∧ words l ∧ val l = R % 2 ^ (i + 1) ∧ Own w5 g l) := Lib.hid (by rw [hmi]; exact hI5.out)
        clear hmi hI5 hbt
        go_wp2
        go_roundw
        case rel => exact ⟨i + 1, by go_num, by omega, HF, B5⟩
        case measure => simp [RowKit.intOf]; omega
    · obtain rfl : i = sz := by omega
      have u1 : decide (i < i) = false := decide_eq_false (Nat.lt_irrefl _)
      obtain ⟨l, hl1, hl2, hl3, hOq⟩ := hI.out
      rw [HRR.out] at hl3
      have hS := hOq.sl hl2 (by omega)
      rw [hl1] at hS
      have cT := Lib.hid (trim_c _ _ wr hS (by omega))
      rw [hl3] at cT
      clear hI hOq hS hl1 hl2 hl3 f1 f2 f3
      go_wp2_with fail
      refine cT.out.mono ?_
      rintro e w6 ⟨⟨a6, c6, rfl, hN6⟩, hb6⟩
      have B6 := Lib.hid (hBX.out.on hb6)
      have HN := Lib.hid (hN6.out.1.set (a := ⟨w.heap.size + 1, 0, none⟩) (Fr.mono hN6.out.2 (show w.heap.size + 2 ≤ _ from z1)) (by dsimp only; omega) (.slice a6 (len R) c6))
      clear hN6 hb6 hbel z1
      obtain ⟨hbel, z1, f1, f2, f3⟩ := B6.out
      go_wp2
      exact bodyPost_ret (v := .tuple #[.agg #[.slice a6 (len R) c6], .int .i64 0]) (by simp [results, Try.results19, go_sem, f2]) rfl ⟨⟨_, HN, rfl⟩, B6.out.1.setCell (by dsimp only; omega) _⟩
end Go.Proofs.Ytgogfjehbaiklaa
