/- What the walk of NaturalProducts meets. -/
import Derived.Test.YtgogfjehbaiklaaNatP5
namespace Go.Proofs.Ytgogfjehbaiklaa
open Go.RowKit NatMath
set_option linter.unusedVariables false

set_option maxHeartbeats 1000000 in
theorem Div_bad (a b : Value) (la lb : List Nat) (w : World) (ha : Sl w a la) (hb : Sl w b lb) (h : vld la = false ∨ vld lb = false) :
    Calls Try.prog 14 #[.agg #[a], .agg #[b]] w fun e w' => e = errNN 1 ∧ Below w.heap.size w w' := by
  have c1 := fun w h => Valid_c a la w h
  have c2 := fun w h => Valid_c b lb w h
  have HA := Lib.hid ha
  have HB := Lib.hid hb
  obtain ⟨bo, cb, rfl, _⟩ := hb.open
  by_cases k : vld la = false
  · rw [k] at c1
    have C1 := Lib.hid c1
    clear c1 c2 ha hb h k
    go_enter Try.func14, Try.ntmps14
    go_wp2_with fail
    refine (C1.out _ (HA.out.below' (below_four _ _ _ _ _))).mono ?_; rintro e w1 ⟨rfl, hb1⟩
    have z1 : w.heap.size + 3 < w1.heap.size := by have := hb1.size; simp at this; omega
    have B1 : Hid (Below w.heap.size w w1) := Lib.hid ((below_four _ _ _ _ _).trans (hb1.mono (by simp; omega)))
    obtain ⟨x1, x2, x3, x4, x5, x6⟩ := box4 w a (.slice bo lb.length cb) (.slice none 0 0) (.slice none 0 0) 24 24 24 24
    have f1 := (hb1.cell (p := ⟨w.heap.size, 0, none⟩) (by simp; omega)).trans x1
    have f2 := (hb1.cell (p := ⟨w.heap.size + 1, 0, none⟩) (by simp)).trans x2
    have f3 := (hb1.cell (p := ⟨w.heap.size + 1 + 1, 0, none⟩) (by simp)).trans x3
    have f4 := (hb1.frozen (p := ⟨w.heap.size + 1 + 1, 0, none⟩) (by simp)).trans x4
    have f5 := (hb1.cell (p := ⟨w.heap.size + 1 + 1 + 1, 0, none⟩) (by simp)).trans x5
    have f6 := (hb1.frozen (p := ⟨w.heap.size + 1 + 1 + 1, 0, none⟩) (by simp)).trans x6
    clear x1 x2 x3 x4 x5 x6 hb1
  
    go_wp2_with fail
    go_region
    have B4 : Below w.heap.size w ((w1.setCell ⟨w.heap.size + 1 + 1, 0, none⟩ (.slice none 0 0)).setCell ⟨w.heap.size + 1 + 1 + 1, 0, none⟩ (.slice none 0 0)).drew := below_drewN ((B1.out.setCell (by dsimp only; omega) _).setCell (by dsimp only; omega) _) 1
    go_wp2
    exact bodyPost_ret (v := .tuple #[.agg #[.slice none 0 0], .agg #[.slice none 0 0], .int .i64 1]) (by simp [results, Try.results14, go_sem, f3, f5]) rfl ⟨rfl, B4⟩
  · have k2 : vld lb = false := by simpa [k] using h
    have k1 : vld la = true := by simpa using k
    rw [k1] at c1
    rw [k2] at c2
    have C1 := Lib.hid c1
    have C2 := Lib.hid c2
    clear c1 c2 ha hb h k k1 k2
    go_enter Try.func14, Try.ntmps14
    go_wp2_with fail
    refine (C1.out _ (HA.out.below' (below_four _ _ _ _ _))).mono ?_; rintro e w1 ⟨rfl, hb1⟩
    have z1 : w.heap.size + 3 < w1.heap.size := by have := hb1.size; simp at this; omega
    have B1 : Hid (Below w.heap.size w w1) := Lib.hid ((below_four _ _ _ _ _).trans (hb1.mono (by simp; omega)))
    obtain ⟨x1, x2, x3, x4, x5, x6⟩ := box4 w a (.slice bo lb.length cb) (.slice none 0 0) (.slice none 0 0) 24 24 24 24
    have f1 := (hb1.cell (p := ⟨w.heap.size, 0, none⟩) (by simp; omega)).trans x1
    have f2 := (hb1.cell (p := ⟨w.heap.size + 1, 0, none⟩) (by simp)).trans x2
    have f3 := (hb1.cell (p := ⟨w.heap.size + 1 + 1, 0, none⟩) (by simp)).trans x3
    have f4 := (hb1.frozen (p := ⟨w.heap.size + 1 + 1, 0, none⟩) (by simp)).trans x4
    have f5 := (hb1.cell (p := ⟨w.heap.size + 1 + 1 + 1, 0, none⟩) (by simp)).trans x5
    have f6 := (hb1.frozen (p := ⟨w.heap.size + 1 + 1 + 1, 0, none⟩) (by simp)).trans x6
    clear x1 x2 x3 x4 x5 x6 hb1
    go_wp2_with fail
    refine (C2.out _ (HB.out.below' B1.out)).mono ?_; rintro e w2 ⟨rfl, hb2⟩
    have z2 : w.heap.size + 3 < w2.heap.size := by have := hb2.size; omega
    have B2 : Hid (Below w.heap.size w w2) := Lib.hid (B1.out.trans (hb2.mono (by omega)))
    have g1 := (hb2.cell (p := ⟨w.heap.size, 0, none⟩) (by dsimp only; omega)).trans f1
    have g2 := (hb2.cell (p := ⟨w.heap.size + 1, 0, none⟩) (by dsimp only; omega)).trans f2
    have g3 := (hb2.cell (p := ⟨w.heap.size + 1 + 1, 0, none⟩) (by dsimp only; omega)).trans f3
    have g4 := (hb2.frozen (p := ⟨w.heap.size + 1 + 1, 0, none⟩) (by dsimp only; omega)).trans f4
    have g5 := (hb2.cell (p := ⟨w.heap.size + 1 + 1 + 1, 0, none⟩) (by dsimp only; omega)).trans f5
    have g6 := (hb2.frozen (p := ⟨w.heap.size + 1 + 1 + 1, 0, none⟩) (by dsimp only; omega)).trans f6
    clear hb2 f1 f2 f3 f4 f5 f6 z1 B1 C1 C2
    go_wp2_with fail
    go_region
    have B4 : Below w.heap.size w ((w2.setCell ⟨w.heap.size + 1 + 1, 0, none⟩ (.slice none 0 0)).setCell ⟨w.heap.size + 1 + 1 + 1, 0, none⟩ (.slice none 0 0)).drew := below_drewN ((B2.out.setCell (by dsimp only; omega) _).setCell (by dsimp only; omega) _) 1
    go_wp2
    exact bodyPost_ret (v := .tuple #[.agg #[.slice none 0 0], .agg #[.slice none 0 0], .int .i64 1]) (by simp [results, Try.results14, go_sem, g3, g5]) rfl ⟨rfl, B4⟩

section
variable {a b : Value} {N M V : Nat} {c : Int} {w : World}
theorem refMulB (h : Hid (BV (N * M) V c)) (ha : Nt w a N) (hb : Nt w b M) (h1 : len N ≤ 64) (h2 : len M ≤ 64) :
    Calls Try.prog 20 #[.agg #[a], .agg #[b]] w fun e w' => ResN V c e w' ∧ Below w.heap.size w w' :=
  (refMul_c a b N M w ha hb h1 h2).mono (fun e w' k => And.intro (BV.post h k.1) k.2)
/-- the reference's quotient and remainder, as slices written out -/
def ResR (q r : Nat) (e : Ending) (w' : World) : Prop := ∃ (qa : Option Addr) (qk : Nat) (ra : Option Addr) (rk : Nat), e = .returned (.tuple #[.agg #[.slice qa (len q) qk], .agg #[.slice ra (len r) rk]]) ∧ Hid (Nt w' (.slice qa (len q) qk) q) ∧ Hid (Nt w' (.slice ra (len r) rk) r)
theorem refDivB {q r : Nat} (hq : Hid (N / M = q)) (hr : Hid (N % M = r)) (ha : Nt w a N) (hb : Nt w b M) (h1 : len N ≤ 64) (h2 : len M ≤ 64) (h0 : M ≠ 0) :
    Calls Try.prog 21 #[.agg #[a], .agg #[b]] w fun e w' => ResR q r e w' ∧ Below w.heap.size w w' := by
  refine (refDiv_c a b N M w ha hb h1 h2 h0).mono ?_
  rw [hq.out, hr.out]
  rintro e w' ⟨⟨qa, qk, ra, rk, rfl, h⟩, hb⟩
  exact ⟨⟨qa, qk, ra, rk, rfl, Lib.hid h.out.1, Lib.hid h.out.2⟩, hb⟩
theorem divZ (ha : Nt w a N) (hb : Nt w b 0) (h1 : len N ≤ 64) :
    Calls Try.prog 14 #[.agg #[a], .agg #[b]] w fun e w' => e = errNN 10 ∧ Below w.heap.size w w' :=
  Div_zero a b N 0 w ha hb h1 (by rw [len_zero]; omega) rfl
/-- Shift, the program's and the reference's, answer alike -/
theorem shift_two (a : Value) (N : Nat) (n : Int) (hl : len N ≤ 64) (h1 : -10000 ≤ n) (h2 : n ≤ 10000) : ∃ V c,
    (∀ W, Nt W a N → Calls Try.prog 15 #[.agg #[a], .int .i64 n] W fun e w' => ResN V c e w' ∧ Below W.heap.size W w') ∧
    (∀ W, Nt W a N → Calls Try.prog 19 #[.agg #[a], .int .i64 n] W fun e w' => ResN V c e w' ∧ Below W.heap.size W w') := by
  have hbl : bl N ≤ 2048 := Nat.le_trans (len_bl.1 (Nat.le_refl (len N))) (by omega)
  have zero : ∀ (R : Nat), R = 0 → (N = 0 ∨ (bl N : Int) + n ≤ 0) → ∀ W, Nt W a N → Calls Try.prog 19 #[.agg #[a], .int .i64 n] W fun e w' => ResN R 0 e w' ∧ Below W.heap.size W w' := by
    intro R hR h W hW
    subst hR
    refine (refShift_zero a N n W hW hl h1 h2 h).mono ?_
    rintro e w' ⟨rfl, hb⟩
    exact ⟨errN.res _ _, hb⟩
  by_cases hn : 0 ≤ n
  · obtain ⟨k, rfl⟩ := Int.eq_ofNat_of_zero_le hn
    obtain ⟨V, c, hV⟩ := BV.some (N * 2 ^ k)
    refine ⟨V, c, fun W hW => shlB hV hW hl (by omega), ?_⟩
    by_cases h0 : N = 0
    · subst h0
      rcases hV.out with ⟨_, rfl, rfl⟩ | ⟨h, _⟩
      · exact zero _ (Nat.zero_mul _) (Or.inl rfl)
      · exact absurd (by rw [Nat.zero_mul, len_zero]; omega) h
    · have hb := bl_shift (k := k) h0
      have hp := bl_pos h0
      rcases hV.out with ⟨hf, rfl, rfl⟩ | ⟨hf, rfl, rfl⟩
      · intro W hW
        have hsz : bl N + k ≤ 2048 := by rw [← hb]; exact len_bl.1 hf
        refine (refShift_ok a N (bl N + k) (N * 2 ^ k) k W hW hl h1 h2 h0 (by omega) (by omega) hsz (by rw [← hb]; exact lt_two_bl _) ?_).mono (fun e w' q => ?_)
        · intro i W hi hW
          by_cases hik : i < k
          · rw [show bt (N * 2 ^ k) i = false from by
              unfold bt
              rw [show N * 2 ^ k = N * 2 ^ (k - i - 1) * 2 * 2 ^ i from by rw [Nat.mul_assoc, Nat.mul_assoc, ← Nat.pow_succ', ← Nat.pow_add]; congr 2; omega, Nat.mul_div_cancel _ (Nat.two_pow_pos i), Nat.mul_mod_left]; rfl]
            exact refBit_neg a _ W (by omega)
          · have := refBit_c a N (i - k) W hW (by omega) (by omega)
            rw [show ((i - k : Nat) : Int) = (i : Int) - (k : Int) from by omega, show bt N (i - k) = bt (N * 2 ^ k) i from by
              have := bt_shift (N * 2 ^ k) k (i - k)
              rw [Nat.mul_div_cancel _ (Nat.two_pow_pos k), Nat.sub_add_cancel (by omega)] at this
              exact this] at this
            exact this
        · obtain ⟨⟨v, hv, rfl⟩, hb⟩ := q
          obtain ⟨ao, cc, rfl, _⟩ := hv.out.open
          exact ⟨⟨ao, cc, rfl, hv⟩, hb⟩
      · intro W hW
        have hsz : 2048 < bl N + k := by rw [← hb]; apply Nat.lt_of_not_le; intro hh; exact hf (len_bl.2 hh)
        refine (refShift_big a N (bl N + k) k W hW hl h1 h2 h0 (by omega) hsz).mono ?_
        rintro e w' ⟨rfl, hb⟩
        exact ⟨errN.res _ _, hb⟩
  · obtain ⟨m, hm⟩ : ∃ m : Nat, n = -(m : Int) := ⟨(-n).toNat, by omega⟩
    subst hm
    refine ⟨N / 2 ^ m, 0, fun W hW => shrB (Lib.hid rfl) hW hl (by omega), ?_⟩
    by_cases h0 : N = 0 ∨ bl N ≤ m
    · refine zero _ ?_ ?_
      · rcases h0 with rfl | h
        · rw [Nat.zero_div]
        · exact Nat.div_eq_of_lt (bl_le_iff.1 h)
      · rcases h0 with h | h
        · exact Or.inl h
        · right; omega
    · have h00 : N ≠ 0 := fun e => h0 (Or.inl e)
      have hbm : m < bl N := Nat.lt_of_not_le fun e => h0 (Or.inr e)
      have hb := bl_div (n := N) (k := m)
      intro W hW
      refine (refShift_ok a N (bl N - m) (N / 2 ^ m) (-(m : Int)) W hW hl h1 h2 h00 (by omega) (by omega) (by omega) (by rw [← hb]; exact lt_two_bl _) ?_).mono (fun e w' q => ?_)
      · intro i W hi hW
        have := refBit_c a N (i + m) W hW (by omega) (by omega)
        rw [show ((i + m : Nat) : Int) = (i : Int) - -(m : Int) from by omega, ← bt_shift] at this
        exact this
      · obtain ⟨⟨v, hv, rfl⟩, hb⟩ := q
        obtain ⟨ao, cc, rfl, _⟩ := hv.out.open
        exact ⟨⟨ao, cc, rfl, hv⟩, hb⟩
end
end Go.Proofs.Ytgogfjehbaiklaa
