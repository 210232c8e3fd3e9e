/- minus and Sub. -/
import Derived.Test.YthphmgdmhlimjaaNatF
namespace Go.Proofs.Ythphmgdmhlimjaa
open Go.RowKit NatMath
set_option linter.unusedVariables false

theorem len_mono {N M : Nat} (h : M ≤ N) : len M ≤ len N := len_le_iff.2 (Nat.lt_of_le_of_lt h (lt_Bp_len N))

theorem sub32_dig (X Y k : Nat) (h : Y ≤ X) (w : World) :
    Calls Try.prog 89 #[.int .u32 (dig X k : Nat), .int .u32 (dig Y k : Nat), .int .u32 (bor X Y k : Nat)] w fun e w' => e = .returned (.tuple #[.int .u32 (dig (X - Y) k : Nat), .int .u32 (bor X Y (k + 1) : Nat)]) ∧ w = w' := by
  rw [dig_sub X Y k h, bor_step]
  have h1 := dig_lt X k
  have h2 := dig_lt Y k
  have h3 := bor_le X Y k
  exact sub32_c _ _ _ w (by omega) (by omega) (by omega)

set_option maxHeartbeats 1000000 in
theorem minus_c (a b : Value) (N M : Nat) (w : World) (ha : Nt w a N) (hb : Nt w b M) (h1 : len N ≤ 64) (hl : M ≤ N) :
    Calls Try.prog 95 #[a, b] w fun e w' => ∃ g, e = .returned (.slice (some ⟨g, 0, none⟩) (len N) (len N)) ∧ Hid (Own w' g (fill (dig (N - M)) (len N) (len N))) ∧ w.heap.size ≤ g ∧ Below w.heap.size w w' := by
  have HA := Lib.hid ha
  have HB := Lib.hid hb
  obtain ⟨ao, ca, rfl, a1, a2, _⟩ := ha.open
  obtain ⟨bo, cb, rfl, b1, b2, _⟩ := hb.open
  have hlm := len_mono hl
  have HL := Lib.hid hl
  clear ha hb hl
  obtain ⟨g, hg⟩ : ∃ g, w.heap.size = g := ⟨_, rfl⟩
  go_enter Try.func95, Try.ntmps95
  go_wp2_with (at_make; go_loud (refine wpList_make_words _ rfl _ _ rfl (len N) _ _ rfl rfl rfl rfl (by omega) g hg ?_; intro w3 hO hB))
  have hO0 : Hid (Own w3 g (fill (dig (N - M)) 0 (len N))) := Lib.hid (by rw [fill_zero]; exact hO)
  have BW : Hid (Below g w w3) := Lib.hid hB
  clear hO hB
  go_loopw [15, 6] (fun s15 s6 wr => ∃ k : Nat, s15 = .int .i64 (k : Int) ∧ s6 = .int .u32 (bor N M k : Nat) ∧ k ≤ len N ∧ Hid (Own wr g (fill (dig (N - M)) k (len N))) ∧ Hid (Below g w wr)) (fun s15 _ _ => (len N - RowKit.intOf s15).toNat)
  case atStart => exact ⟨0, rfl, by rw [bor_zero]; rfl, Nat.zero_le _, hO0, BW⟩
  case round =>
    obtain ⟨k, rfl, rfl, hk, hO, hB⟩ := hrel
    have hgr : g < wr.heap.size := hO.out.lt
    have hBW : Hid (Below w.heap.size w wr) := Lib.hid (by rw [hg]; exact hB.out)
    by_cases h0 : k = len N
    · have ht : decide (k < len N) = false := decide_eq_false (by omega)
      subst h0
      go_wp2
      go_ret
      exact ⟨g, rfl, hO, by omega, hBW.out⟩
    · have ht : decide (k < len N) = true := decide_eq_true (by omega)
      have hkx : k < len N := by omega
      have hx0 : N ≠ 0 := fun e => by rw [e, len_zero] at hkx; omega
      obtain ⟨ao', cx', ex, _, _, hx⟩ := (HA.out.below' hBW.out).open
      obtain ⟨rfl, rfl⟩ : ao' = ao ∧ cx' = ca := by simp at ex; exact ⟨ex.1.symm, ex.2.symm⟩
      obtain ⟨bx, offx, rfl, hbx, hcx⟩ := hx hx0
      have hcx1 := hcx k hkx
      have hfr := hO.out.frozen k
      have hcell := hO.out.cell (i := k) (by rw [fill_length]; omega)
      have HO2 := hO.out.set k (dig (N - M) k)
      rw [fill_set _ (by omega)] at HO2
      have HO3 := Lib.hid HO2
      have cc := sub32_dig N M k HL.out
      clear hcx ex HO2
      by_cases hy : k < len M
      · have hty : decide (k < len M) = true := decide_eq_true hy
        have hy0 : M ≠ 0 := fun e => by rw [e, len_zero] at hy; omega
        obtain ⟨bo', cy', ey, _, _, hyy⟩ := (HB.out.below' hBW.out).open
        obtain ⟨rfl, rfl⟩ : bo' = bo ∧ cy' = cb := by simp at ey; exact ⟨ey.1.symm, ey.2.symm⟩
        obtain ⟨by0, offy, rfl, hby, hcy⟩ := hyy hy0
        have hcy1 := hcy k hy
        have CC := Lib.hid cc
        clear hcy ey cc
        go_wp2_with fail
        refine (CC.out _).mono ?_; rintro e w' ⟨rfl, rfl⟩
        go_wp2
        go_roundw
        case rel => exact ⟨k + 1, rfl, rfl, by omega, HO3, Lib.hid (hB.out.setCell (Nat.le_refl _) _)⟩
        case measure => simp [RowKit.intOf]; omega
      · have hty : decide (k < len M) = false := decide_eq_false hy
        rw [dig_above (show len M ≤ k by omega)] at cc
        have CC := Lib.hid cc
        clear cc
        go_wp2_with fail
        refine (CC.out _).mono ?_; rintro e w' ⟨rfl, rfl⟩
        go_wp2
        go_roundw
        case rel => exact ⟨k + 1, rfl, rfl, by omega, HO3, Lib.hid (hB.out.setCell (Nat.le_refl _) _)⟩
        case measure => simp [RowKit.intOf]; omega

/-- trimmed, of a block of the call's own -/
theorem trimmed_own (g : Nat) (l : List Nat) (w : World) (h : Own w g l) (hw : words l) (m : Nat) (hm : l.length = m) (hl : m ≤ 9223372036854775807) (n : Nat) (hn : n ≤ g) :
    Calls Try.prog 69 #[.slice (some ⟨g, 0, none⟩) m m] w fun e w' => (∃ v : Value, Hid ((∀ W, Own W g l → Nt W v (val l)) ∧ Fr n v) ∧ e = .returned (.agg #[v])) ∧ Below w.heap.size w w' := by
  subst hm
  refine (trimmed_c _ l w (h.sl hw hl)).mono ?_
  rintro e w' ⟨⟨v, hv, he⟩, hb⟩
  exact ⟨⟨v, Lib.hid ⟨fun W hW => hv.out.1 W (hW.sl hw hl), (Fr.block hn).same hv.out.2⟩, he⟩, hb⟩

/-- trimmed, of a block of the call's own -/
theorem trimmed_ownU (g : Nat) (l : List Nat) (w : World) (h : Own w g l) (hw : words l) (m : Nat) (hm : l.length = m) (hl : m ≤ 9223372036854775807) (n : Nat) (hn : n ≤ g) :
    Calls Try.prog 69 #[.slice (some ⟨g, 0, none⟩) m m] w fun e w' => (∃ v : Value, Hid ((∀ W, Own W g l → NtU W v (val l)) ∧ Fr n v) ∧ e = .returned (.agg #[v])) ∧ Below w.heap.size w w' := by
  subst hm
  refine (trimmed_c _ l w (h.sl hw hl)).mono ?_
  rintro e w' ⟨⟨v, hv, he⟩, hb⟩
  exact ⟨⟨v, Lib.hid ⟨fun W hW => ⟨hv.out.1 W (hW.sl hw hl), hW.uf hv.out.2⟩, (Fr.block hn).same hv.out.2⟩, he⟩, hb⟩

set_option maxRecDepth 100000 in
set_option maxHeartbeats 2000000 in
theorem Sub_okU (a b : Value) (N M : Nat) (w : World) (ha : Nt w a N) (hb : Nt w b M) (h1 : len N ≤ 64) (h2 : len M ≤ 64) (hl : M ≤ N) :
    Calls Try.prog 84 #[.agg #[a], .agg #[b]] w fun e w' => RetN (fun w' v' => NtU w' v' (N - M) ∧ Fr w.heap.size v') e w' ∧ Below w.heap.size w w' := by
  have c1 := fun w h => Valid_c a (digs N) w h
  have c2 := fun w h => Valid_c b (digs M) w h
  have c3 := fun w h1 h2 => compare_c a b N M w h1 h2
  have c4 := fun w ha hb => minus_c a b N M w ha hb h1 hl
  rw [vld_digs, decide_eq_true h1] at c1
  rw [vld_digs, decide_eq_true h2] at c2
  have C1 := Lib.hid c1
  have C2 := Lib.hid c2
  have C3 := Lib.hid c3
  have C4 := Lib.hid c4
  have HA := Lib.hid ha
  have HB := Lib.hid hb
  have hcmp : decide (cmp N M < 0) = false := decide_eq_false (by unfold cmp; rw [if_neg (by omega)]; split <;> omega)
  have hS : N - M < Bp (len N) := Nat.lt_of_le_of_lt (Nat.sub_le _ _) (lt_Bp_len N)
  have HS := Lib.hid hS
  have HN64 := Lib.hid h1
  clear c1 c2 c3 c4 ha hb h1 h2 hl hS
  generalize cmp N M = R at *
  go_enter Try.func84, Try.ntmps84
  go_wp2_with fail
  refine (C1.out _ (HA.out.below' (below_three _ _ _ _))).mono ?_; rintro e w1 ⟨rfl, hb1⟩
  have z1 : w.heap.size + 2 < w1.heap.size := by have := hb1.size; simp at this; omega
  have B1 : Hid (Below w.heap.size w w1) := Lib.hid ((below_three _ _ _ _).trans (hb1.mono (by simp; omega)))
  obtain ⟨x1, x2, x3, x4⟩ := box3 w a b (.slice none 0 0) 24 24 24
  have f1 := (hb1.cell (p := ⟨w.heap.size, 0, none⟩) (by simp; omega)).trans x1
  have f2 := (hb1.cell (p := ⟨w.heap.size + 1, 0, none⟩) (by simp)).trans x2
  have f3 := (hb1.cell (p := ⟨w.heap.size + 1 + 1, 0, none⟩) (by simp)).trans x3
  have f4 := (hb1.frozen (p := ⟨w.heap.size + 1 + 1, 0, none⟩) (by simp)).trans x4
  clear x1 x2 x3 x4 hb1
  go_wp2_with fail
  refine (C2.out _ (HB.out.below' B1.out)).mono ?_; rintro e w2 ⟨rfl, hb2⟩
  have z2 : w.heap.size + 2 < w2.heap.size := by have := hb2.size; omega
  have B2 : Hid (Below w.heap.size w w2) := Lib.hid (B1.out.trans (hb2.mono (by omega)))
  have g1 := (hb2.cell (p := ⟨w.heap.size, 0, none⟩) (by dsimp only; omega)).trans f1
  have g2 := (hb2.cell (p := ⟨w.heap.size + 1, 0, none⟩) (by dsimp only; omega)).trans f2
  have g3 := (hb2.cell (p := ⟨w.heap.size + 1 + 1, 0, none⟩) (by dsimp only; omega)).trans f3
  have g4 := (hb2.frozen (p := ⟨w.heap.size + 1 + 1, 0, none⟩) (by dsimp only; omega)).trans f4
  clear hb2 f1 f2 f3 f4 z1 B1 C1 C2
  go_wp2_with fail
  refine (C3.out _ (HA.out.below' B2.out) (HB.out.below' B2.out)).mono ?_; rintro e w3 ⟨rfl, hq⟩
  have hb3 := hq.below w2.heap.size
  have z3 : w.heap.size + 2 < w3.heap.size := by have := hb3.size; omega
  have B3 : Hid (Below w.heap.size w w3) := Lib.hid (B2.out.trans (hb3.mono (by omega)))
  have f1 := (hb3.cell (p := ⟨w.heap.size, 0, none⟩) (by dsimp only; omega)).trans g1
  have f2 := (hb3.cell (p := ⟨w.heap.size + 1, 0, none⟩) (by dsimp only; omega)).trans g2
  have f3 := (hb3.cell (p := ⟨w.heap.size + 1 + 1, 0, none⟩) (by dsimp only; omega)).trans g3
  have f4 := (hb3.frozen (p := ⟨w.heap.size + 1 + 1, 0, none⟩) (by dsimp only; omega)).trans g4
  clear hb3 hq g1 g2 g3 g4 z2 B2 C3
  go_wp2_with fail
  refine (C4.out _ (HA.out.below' B3.out) (HB.out.below' B3.out)).mono ?_; rintro e w4 ⟨g, rfl, hO, hg, hb4⟩
  have z4 : w.heap.size + 2 < w4.heap.size := by have := hb4.size; omega
  have B4 : Hid (Below w.heap.size w w4) := Lib.hid (B3.out.trans (hb4.mono (by omega)))
  have q3 := (hb4.cell (p := ⟨w.heap.size + 1 + 1, 0, none⟩) (by dsimp only; omega)).trans f3
  have q4 := (hb4.frozen (p := ⟨w.heap.size + 1 + 1, 0, none⟩) (by dsimp only; omega)).trans f4
  clear hb4 f1 f2 f3 f4 C4
  go_wp2_with fail
  have ct := trimmed_ownU g _ w4 hO.out (fill_words (dig_lt _)) _ (fill_length _ _ _) (by have := HN64.out; omega) w.heap.size (by omega)
  rw [fill_val HS.out] at ct
  refine ct.mono ?_; rintro e w5 ⟨⟨v5, hv5, rfl⟩, hb5⟩
  have z5 : w.heap.size + 1 + 1 < w5.heap.size := by have := hb5.size; omega
  have B5 : Hid (Below w.heap.size w w5) := Lib.hid (B4.out.trans (hb5.mono (by omega)))
  have r3 := (hb5.cell (p := ⟨w.heap.size + 1 + 1, 0, none⟩) (by dsimp only; omega)).trans q3
  have r4 := (hb5.frozen (p := ⟨w.heap.size + 1 + 1, 0, none⟩) (by dsimp only; omega)).trans q4
  have hne : w.heap.size + 1 + 1 ≠ g := by omega
  have hN : ∀ Y : Value, NtU (w5.setCell ⟨w.heap.size + 1 + 1, 0, none⟩ Y) v5 (N - M) := fun Y => hv5.out.1 _ ((hO.out.below' hb5).setOther hne Y)
  obtain ⟨a5, c5, rfl, _⟩ := (hN (.slice none 0 0)).open
  have HN := Lib.hid hN
  have HF := Lib.hid hv5.out.2
  clear hv5 hN hb5 q3 q4 ct
  go_wp2
  exact bodyPost_ret (v := .tuple #[.agg #[.slice a5 (len (N - M)) c5], .int .i64 0]) (by simp [results, Try.results84, go_sem, r3]) rfl ⟨⟨_, Lib.hid ⟨HN.out _, HF.out⟩, rfl⟩, B5.out.setCell (by dsimp only; omega) _⟩

theorem Sub_ok (a b : Value) (N M : Nat) (w : World) (ha : Nt w a N) (hb : Nt w b M) (h1 : len N ≤ 64) (h2 : len M ≤ 64) (hl : M ≤ N) :
    Calls Try.prog 84 #[.agg #[a], .agg #[b]] w fun e w' => RetN (fun w' v' => Nt w' v' (N - M) ∧ Fr w.heap.size v') e w' ∧ Below w.heap.size w w' :=
  (Sub_okU a b N M w ha hb h1 h2 hl).mono fun _ _ h => ⟨h.1.old, h.2⟩

set_option maxRecDepth 100000 in
set_option maxHeartbeats 2000000 in
theorem Sub_range (a b : Value) (N M : Nat) (w : World) (ha : Nt w a N) (hb : Nt w b M) (h1 : len N ≤ 64) (h2 : len M ≤ 64) (hl : N < M) :
    Calls Try.prog 84 #[.agg #[a], .agg #[b]] w fun e w' => e = errN 2 ∧ Below w.heap.size w w' := by
  have c1 := fun w h => Valid_c a (digs N) w h
  have c2 := fun w h => Valid_c b (digs M) w h
  have c3 := fun w h1 h2 => compare_c a b N M w h1 h2
  rw [vld_digs, decide_eq_true h1] at c1
  rw [vld_digs, decide_eq_true h2] at c2
  have C1 := Lib.hid c1
  have C2 := Lib.hid c2
  have C3 := Lib.hid c3
  have HA := Lib.hid ha
  have HB := Lib.hid hb
  have hcmp : decide (cmp N M < 0) = true := decide_eq_true (by unfold cmp; rw [if_pos hl]; omega)
  clear c1 c2 c3 ha hb h1 h2 hl
  generalize cmp N M = R at *
  go_enter Try.func84, Try.ntmps84
  go_wp2_with fail
  refine (C1.out _ (HA.out.below' (below_three _ _ _ _))).mono ?_; rintro e w1 ⟨rfl, hb1⟩
  have z1 : w.heap.size + 2 < w1.heap.size := by have := hb1.size; simp at this; omega
  have B1 : Hid (Below w.heap.size w w1) := Lib.hid ((below_three _ _ _ _).trans (hb1.mono (by simp; omega)))
  obtain ⟨x1, x2, x3, x4⟩ := box3 w a b (.slice none 0 0) 24 24 24
  have f1 := (hb1.cell (p := ⟨w.heap.size, 0, none⟩) (by simp; omega)).trans x1
  have f2 := (hb1.cell (p := ⟨w.heap.size + 1, 0, none⟩) (by simp)).trans x2
  have f3 := (hb1.cell (p := ⟨w.heap.size + 1 + 1, 0, none⟩) (by simp)).trans x3
  have f4 := (hb1.frozen (p := ⟨w.heap.size + 1 + 1, 0, none⟩) (by simp)).trans x4
  clear x1 x2 x3 x4 hb1
  go_wp2_with fail
  refine (C2.out _ (HB.out.below' B1.out)).mono ?_; rintro e w2 ⟨rfl, hb2⟩
  have z2 : w.heap.size + 2 < w2.heap.size := by have := hb2.size; omega
  have B2 : Hid (Below w.heap.size w w2) := Lib.hid (B1.out.trans (hb2.mono (by omega)))
  have g1 := (hb2.cell (p := ⟨w.heap.size, 0, none⟩) (by dsimp only; omega)).trans f1
  have g2 := (hb2.cell (p := ⟨w.heap.size + 1, 0, none⟩) (by dsimp only; omega)).trans f2
  have g3 := (hb2.cell (p := ⟨w.heap.size + 1 + 1, 0, none⟩) (by dsimp only; omega)).trans f3
  have g4 := (hb2.frozen (p := ⟨w.heap.size + 1 + 1, 0, none⟩) (by dsimp only; omega)).trans f4
  clear hb2 f1 f2 f3 f4 z1 B1 C1 C2
  go_wp2_with fail
  refine (C3.out _ (HA.out.below' B2.out) (HB.out.below' B2.out)).mono ?_; rintro e w3 ⟨rfl, hq⟩
  have hb3 := hq.below w2.heap.size
  have z3 : w.heap.size + 2 < w3.heap.size := by have := hb3.size; omega
  have B3 : Hid (Below w.heap.size w w3) := Lib.hid (B2.out.trans (hb3.mono (by omega)))
  have f1 := (hb3.cell (p := ⟨w.heap.size, 0, none⟩) (by dsimp only; omega)).trans g1
  have f2 := (hb3.cell (p := ⟨w.heap.size + 1, 0, none⟩) (by dsimp only; omega)).trans g2
  have f3 := (hb3.cell (p := ⟨w.heap.size + 1 + 1, 0, none⟩) (by dsimp only; omega)).trans g3
  have f4 := (hb3.frozen (p := ⟨w.heap.size + 1 + 1, 0, none⟩) (by dsimp only; omega)).trans g4
  clear hb3 hq g1 g2 g3 g4 z2 B2 C3
  go_wp2
  exact bodyPost_ret (v := .tuple #[.agg #[.slice none 0 0], .int .i64 2]) (by simp [results, Try.results84, go_sem, f3]) rfl ⟨rfl, B3.out.setCell (by dsimp only; omega) _⟩

set_option maxRecDepth 100000 in
set_option maxHeartbeats 1000000 in
theorem Sub_bad (a b : Value) (la lb : List Nat) (w : World) (ha : Sl w a la) (hb : Sl w b lb) (h : vld la = false ∨ vld lb = false) :
    Calls Try.prog 84 #[.agg #[a], .agg #[b]] w fun e w' => e = errN 1 ∧ Below w.heap.size w w' := by
  have c1 := fun w h => Valid_c a la w h
  have c2 := fun w h => Valid_c b lb w h
  have HA := Lib.hid ha
  have HB := Lib.hid hb
  by_cases k : vld la = false
  · rw [k] at c1
    have C1 := Lib.hid c1
    clear c1 c2 ha hb h k
    go_enter Try.func84, Try.ntmps84
    go_wp2_with fail
    refine (C1.out _ (HA.out.below' (below_three _ _ _ _))).mono ?_; rintro e w1 ⟨rfl, hb1⟩
    have z1 : w.heap.size + 1 + 1 < w1.heap.size := by have := hb1.size; simp at this; omega
    have B1 : Hid (Below w.heap.size w w1) := Lib.hid ((below_three _ _ _ _).trans (hb1.mono (by simp; omega)))
    obtain ⟨x1, x2, x3, x4⟩ := box3 w a b (.slice none 0 0) 24 24 24
    have f3 := (hb1.cell (p := ⟨w.heap.size + 1 + 1, 0, none⟩) (by simp)).trans x3
    have f4 := (hb1.frozen (p := ⟨w.heap.size + 1 + 1, 0, none⟩) (by simp)).trans x4
    clear x1 x2 x3 x4 hb1
    go_wp2
    exact bodyPost_ret (v := .tuple #[.agg #[.slice none 0 0], .int .i64 1]) (by simp [results, Try.results84, go_sem, f3]) rfl ⟨rfl, B1.out.setCell (by dsimp only; omega) _⟩
  · have k2 : vld lb = false := by simpa [k] using h
    have k1 : vld la = true := by simpa using k
    rw [k1] at c1
    rw [k2] at c2
    have C1 := Lib.hid c1
    have C2 := Lib.hid c2
    clear c1 c2 ha hb h k k1 k2
    go_enter Try.func84, Try.ntmps84
    go_wp2_with fail
    refine (C1.out _ (HA.out.below' (below_three _ _ _ _))).mono ?_; rintro e w1 ⟨rfl, hb1⟩
    have z1 : w.heap.size + 1 + 1 < w1.heap.size := by have := hb1.size; simp at this; omega
    have B1 : Hid (Below w.heap.size w w1) := Lib.hid ((below_three _ _ _ _).trans (hb1.mono (by simp; omega)))
    obtain ⟨x1, x2, x3, x4⟩ := box3 w a b (.slice none 0 0) 24 24 24
    have f2 := (hb1.cell (p := ⟨w.heap.size + 1, 0, none⟩) (by simp)).trans x2
    have f3 := (hb1.cell (p := ⟨w.heap.size + 1 + 1, 0, none⟩) (by simp)).trans x3
    have f4 := (hb1.frozen (p := ⟨w.heap.size + 1 + 1, 0, none⟩) (by simp)).trans x4
    clear x1 x2 x3 x4 hb1
    go_wp2_with fail
    refine (C2.out _ (HB.out.below' B1.out)).mono ?_; rintro e w2 ⟨rfl, hb2⟩
    have z2 : w.heap.size + 1 + 1 < w2.heap.size := by have := hb2.size; omega
    have B2 : Hid (Below w.heap.size w w2) := Lib.hid (B1.out.trans (hb2.mono (by omega)))
    have g3 := (hb2.cell (p := ⟨w.heap.size + 1 + 1, 0, none⟩) (by dsimp only; omega)).trans f3
    have g4 := (hb2.frozen (p := ⟨w.heap.size + 1 + 1, 0, none⟩) (by dsimp only; omega)).trans f4
    clear hb2 f2 f3 f4
    go_wp2
    exact bodyPost_ret (v := .tuple #[.agg #[.slice none 0 0], .int .i64 1]) (by simp [results, Try.results84, go_sem, g3]) rfl ⟨rfl, B2.out.setCell (by dsimp only; omega) _⟩
end Go.Proofs.Ythphmgdmhlimjaa
