/- The contract of Div. -/
import Derived.Test.YthphmgdmhlimjaaModX
namespace Go.Proofs.Ythphmgdmhlimjaa
open Go.RowKit NatMath
set_option linter.unusedVariables false

theorem long_boxes (a b : Value) (N M : Nat) (w W : World) (ha : Nt w a N) (hb : Nt w b M) (h1 : len N ≤ 64) (h2 : 2 ≤ len M) (hl : M ≤ N) (hB : Boxes w W) :
    Calls Try.prog 70 #[a, b] W fun e w' => ∃ g1 g2 k n, e = .returned (.tuple #[.slice (some ⟨g1, 0, none⟩) k k, .slice (some ⟨g2, 0, none⟩) n n]) ∧ Hid (Own w' g1 (fill (dig (N / M)) k k) ∧ N / M < Bp k ∧ Own w' g2 (fill (dig (N % M)) n n) ∧ N % M < Bp n ∧ k ≤ 64 ∧ n ≤ 64) ∧ w.heap.size + 3 < g1 ∧ w.heap.size + 3 < g2 ∧ Hid (Boxes w w') := by
  refine (long_c a b N M W (ha.below' hB.1) (hb.below' hB.1) h1 h2 hl).mono ?_
  rintro e w' ⟨g1, g2, k, n, rfl, hO, e1, e2, hb⟩
  have := hB.2.1
  exact ⟨g1, g2, k, n, rfl, hO, by omega, by omega, Lib.hid (hB.on hb)⟩

set_option maxRecDepth 100000 in
set_option maxHeartbeats 1000000 in
theorem Div_long (a b : Value) (N M : Nat) (w : World) (ha : Nt w a N) (hb : Nt w b M) (h1 : len N ≤ 64) (h2 : len M ≤ 64) (h0 : 2 ≤ len M) (hl : M ≤ N) :
    Calls Try.prog 32 #[.agg #[a], .agg #[b]] w fun e w' => RetNN (fun w' u v => NtU w' u (N / M) ∧ Fr w.heap.size u ∧ NtU w' v (N % M) ∧ Fr w.heap.size v) e w' ∧ Below w.heap.size w w' := by
  have c1 := fun w h => Valid_c a (digs N) w h
  have c2 := fun w h => Valid_c b (digs M) w h
  have c3 := fun w h1 h2 => compare_c a b N M w h1 h2
  rw [vld_digs, decide_eq_true h1] at c1
  rw [vld_digs, decide_eq_true h2] at c2
  have C1 := Lib.hid c1
  have C2 := Lib.hid c2
  have C3 := Lib.hid c3
  have HA := Lib.hid ha
  have HB := Lib.hid hb
  have hM0 : M ≠ 0 := fun e => by rw [e, len_zero] at h0; omega
  have c4 := fun W h => long_boxes a b N M w W ha hb h1 h0 hl h
  have C4 := Lib.hid c4
  have hcmp : decide (cmp N M < 0) = false := decide_eq_false (by unfold cmp; rw [if_neg (by omega)]; split <;> omega)
  obtain ⟨ao, ca, rfl, a1, a2, _⟩ := ha.open
  obtain ⟨bo, cb, rfl, b1, b2, _⟩ := hb.open
  have HN64 := Lib.hid h1
  have g7 : ((len M : Int) == 0) = false := by simp; omega
  have g8 : ((len M : Int) == 1) = false := by simp; omega
  have l1 : (len M : Int) ≤ 64 := by omega
  clear c4 hM0 h1 h2 h0 hl
  clear c1 c2 c3 ha hb
  generalize cmp N M = R at *
  go_enter Try.func32, Try.ntmps32
  go_wp2_with fail
  refine (C1.out _ (HA.out.below' (below_four _ _ _ _ _))).mono ?_; rintro e w1 ⟨rfl, hb1⟩
  have z1 : w.heap.size + 3 < w1.heap.size := by have := hb1.size; simp at this; omega
  have B1 : Hid (Below w.heap.size w w1) := Lib.hid ((below_four _ _ _ _ _).trans (hb1.mono (by simp; omega)))
  obtain ⟨x1, x2, x3, x4, x5, x6⟩ := box4 w (.slice ao (len N) ca) (.slice bo (len M) cb) (.slice none 0 0) (.slice none 0 0) 24 24 24 24
  have f1 := (hb1.cell (p := ⟨w.heap.size, 0, none⟩) (by simp; omega)).trans x1
  have f2 := (hb1.cell (p := ⟨w.heap.size + 1, 0, none⟩) (by simp)).trans x2
  have f3 := (hb1.cell (p := ⟨w.heap.size + 1 + 1, 0, none⟩) (by simp)).trans x3
  have f4 := (hb1.frozen (p := ⟨w.heap.size + 1 + 1, 0, none⟩) (by simp)).trans x4
  have f5 := (hb1.cell (p := ⟨w.heap.size + 1 + 1 + 1, 0, none⟩) (by simp)).trans x5
  have f6 := (hb1.frozen (p := ⟨w.heap.size + 1 + 1 + 1, 0, none⟩) (by simp)).trans x6
  clear x1 x2 x3 x4 x5 x6 hb1
  go_wp2_with fail
  refine (C2.out _ (HB.out.below' B1.out)).mono ?_; rintro e w2 ⟨rfl, hb2⟩
  have z2 : w.heap.size + 3 < w2.heap.size := by have := hb2.size; omega
  have B2 : Hid (Below w.heap.size w w2) := Lib.hid (B1.out.trans (hb2.mono (by omega)))
  have g1 := (hb2.cell (p := ⟨w.heap.size, 0, none⟩) (by dsimp only; omega)).trans f1
  have g2 := (hb2.cell (p := ⟨w.heap.size + 1, 0, none⟩) (by dsimp only; omega)).trans f2
  have g3 := (hb2.cell (p := ⟨w.heap.size + 1 + 1, 0, none⟩) (by dsimp only; omega)).trans f3
  have g4 := (hb2.frozen (p := ⟨w.heap.size + 1 + 1, 0, none⟩) (by dsimp only; omega)).trans f4
  have g5 := (hb2.cell (p := ⟨w.heap.size + 1 + 1 + 1, 0, none⟩) (by dsimp only; omega)).trans f5
  have g6 := (hb2.frozen (p := ⟨w.heap.size + 1 + 1 + 1, 0, none⟩) (by dsimp only; omega)).trans f6
  clear hb2 f1 f2 f3 f4 f5 f6 z1 B1 C1 C2
  go_wp2_with fail
  refine (C3.out _ (HA.out.below' B2.out) (HB.out.below' B2.out)).mono ?_; rintro e w3 ⟨rfl, hq⟩
  have hb3 := hq.below w2.heap.size
  have z3 : w.heap.size + 3 < w3.heap.size := by have := hb3.size; omega
  have B3 : Hid (Below w.heap.size w w3) := Lib.hid (B2.out.trans (hb3.mono (by omega)))
  have f1 := (hb3.cell (p := ⟨w.heap.size, 0, none⟩) (by dsimp only; omega)).trans g1
  have f2 := (hb3.cell (p := ⟨w.heap.size + 1, 0, none⟩) (by dsimp only; omega)).trans g2
  have f3 := (hb3.cell (p := ⟨w.heap.size + 1 + 1, 0, none⟩) (by dsimp only; omega)).trans g3
  have f4 := (hb3.frozen (p := ⟨w.heap.size + 1 + 1, 0, none⟩) (by dsimp only; omega)).trans g4
  have f5 := (hb3.cell (p := ⟨w.heap.size + 1 + 1 + 1, 0, none⟩) (by dsimp only; omega)).trans g5
  have f6 := (hb3.frozen (p := ⟨w.heap.size + 1 + 1 + 1, 0, none⟩) (by dsimp only; omega)).trans g6
  clear hb3 hq g1 g2 g3 g4 g5 g6 z2 B2 C3
  have FD : Boxes w w3 := ⟨B3.out, z3, f3, f4, f5, f6⟩
  have FH := Lib.hid FD
  clear FD
  go_wp2_with fail
  refine (C4.out _ FH.out).mono ?_
  rintro e w4 ⟨p1, p2, k, n, rfl, hO, hg1, hg2, u⟩
  clear f1 f2 f3 f4 f5 f6 C4
  obtain ⟨u1, u2, u3, u4, u5, u6⟩ := u.out
  clear u3 u4 u5 u6
  go_wp2_with fail
  refine (trimmed_boxes p1 _ w w4 hO.out.1 (fill_words (dig_lt _)) _ (fill_length _ _ _) (by have := hO.out.2.2.2.2.1; omega) (by omega) u.out).mono ?_
  rw [fill_val hO.out.2.1]
  rintro e w5 ⟨a5, c5, rfl, hv5, hf5, ub5, hb5⟩
  have hs5 : w.heap.size + 3 < w5.heap.size := ub5.out.2.1
  go_wp2_with fail
  refine (trimmed_boxes p2 _ w w5 (hO.out.2.2.1.below' hb5.out) (fill_words (dig_lt _)) _ (fill_length _ _ _) (by have := hO.out.2.2.2.2.2; omega) (by omega) ub5.out).mono ?_
  rw [fill_val hO.out.2.2.2.1]
  rintro e w6 ⟨a6, c6, rfl, hv6, hf6, ub6, hb6⟩
  have hv56 : Hid (NtU w6 (.slice a5 (len (N / M)) c5) (N / M)) := Lib.hid (hv5.out.below' hb6.out)
  obtain ⟨u1, u2, u3, u4, u5, u6⟩ := ub6.out
  clear hv5 hb6 hs5 hb5
  go_wp2
  refine bodyPost_ret (v := .tuple #[.agg #[.slice a5 (len (N / M)) c5], .agg #[.slice a6 (len (N % M)) c6], .int .i64 0]) (by simp [results, Try.results32, go_sem, u3, u5]) rfl ⟨⟨_, _, Lib.hid ⟨?_, (Fr.mono hf5.out (by omega)), ?_, (Fr.mono hf6.out (by omega))⟩, rfl⟩, ?_⟩
  · exact (hv56.out.set hf5.out (by dsimp only; omega) _).set hf5.out (by dsimp only; omega) _
  · exact (hv6.out.set hf6.out (by dsimp only; omega) _).set hf6.out (by dsimp only; omega) _
  · exact (u1.setCell (by dsimp only; omega) _).setCell (by dsimp only; omega) _

/-- Div of valid numbers, the divisor not 0 -/
theorem Div_cU (a b : Value) (N M : Nat) (w : World) (ha : Nt w a N) (hb : Nt w b M) (h1 : len N ≤ 64) (h2 : len M ≤ 64) (h0 : M ≠ 0) :
    Calls Try.prog 32 #[.agg #[a], .agg #[b]] w fun e w' => RetNN (fun w' u v => NtU w' u (N / M) ∧ Fr w.heap.size u ∧ NtU w' v (N % M) ∧ Fr w.heap.size v) e w' ∧ Below w.heap.size w w' := by
  by_cases hl : N < M
  · rw [Nat.div_eq_of_lt hl, Nat.mod_eq_of_lt hl]; exact Div_smallU a b N M w ha hb h1 h2 hl h0
  · have hm : len M ≠ 0 := fun e => h0 (len_eq_zero.1 e)
    by_cases h3 : len M = 1
    · exact Div_shortU a b N M w ha hb h1 h2 h3 (by omega)
    · exact Div_long a b N M w ha hb h1 h2 (by omega) (by omega)

theorem Div_c (a b : Value) (N M : Nat) (w : World) (ha : Nt w a N) (hb : Nt w b M) (h1 : len N ≤ 64) (h2 : len M ≤ 64) (h0 : M ≠ 0) :
    Calls Try.prog 32 #[.agg #[a], .agg #[b]] w fun e w' => RetNN (fun w' u v => Nt w' u (N / M) ∧ Fr w.heap.size u ∧ Nt w' v (N % M) ∧ Fr w.heap.size v) e w' ∧ Below w.heap.size w w' :=
  (Div_cU a b N M w ha hb h1 h2 h0).mono fun _ _ h => ⟨h.1.old, h.2⟩
end Go.Proofs.Ythphmgdmhlimjaa
