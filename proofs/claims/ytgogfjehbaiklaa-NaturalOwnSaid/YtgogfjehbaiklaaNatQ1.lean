/- What results that may be written to are; the contracts of Add, Sub, Mul, Div, Shift by 0 of any arguments. -/
import Derived.Test.YtgogfjehbaiklaaNatEnv4
import Derived.Test.YtgogfjehbaiklaaNatS2
namespace Go.Proofs.Ytgogfjehbaiklaa
open Go.RowKit NatMath
set_option linter.unusedVariables false

set_option maxHeartbeats 1000000 in
theorem Div_bad (a b : Value) (la lb : List Nat) (w : World) (ha : Sl w a la) (hb : Sl w b lb) (h : vld la = false ∨ vld lb = false) :
    Calls Try.prog 14 #[.agg #[a], .agg #[b]] w fun e w' => e = errNN 1 ∧ Below w.heap.size w w' := by
  have c1 := fun w h => Valid_c a la w h
  have c2 := fun w h => Valid_c b lb w h
  have HA := Lib.hid ha
  have HB := Lib.hid hb
  obtain ⟨bo, cb, rfl, _⟩ := hb.open
  by_cases k : vld la = false
  · rw [k] at c1
    have C1 := Lib.hid c1
    clear c1 c2 ha hb h k
    go_enter Try.func14, Try.ntmps14
    go_wp2_with fail
    refine (C1.out _ (HA.out.below' (below_four _ _ _ _ _))).mono ?_; rintro e w1 ⟨rfl, hb1⟩
    have z1 : w.heap.size + 3 < w1.heap.size := by have := hb1.size; simp at this; omega
    have B1 : Hid (Below w.heap.size w w1) := Lib.hid ((below_four _ _ _ _ _).trans (hb1.mono (by simp; omega)))
    obtain ⟨x1, x2, x3, x4, x5, x6⟩ := box4 w a (.slice bo lb.length cb) (.slice none 0 0) (.slice none 0 0) 24 24 24 24
    have f1 := (hb1.cell (p := ⟨w.heap.size, 0, none⟩) (by simp; omega)).trans x1
    have f2 := (hb1.cell (p := ⟨w.heap.size + 1, 0, none⟩) (by simp)).trans x2
    have f3 := (hb1.cell (p := ⟨w.heap.size + 1 + 1, 0, none⟩) (by simp)).trans x3
    have f4 := (hb1.frozen (p := ⟨w.heap.size + 1 + 1, 0, none⟩) (by simp)).trans x4
    have f5 := (hb1.cell (p := ⟨w.heap.size + 1 + 1 + 1, 0, none⟩) (by simp)).trans x5
    have f6 := (hb1.frozen (p := ⟨w.heap.size + 1 + 1 + 1, 0, none⟩) (by simp)).trans x6
    clear x1 x2 x3 x4 x5 x6 hb1
  
    go_wp2_with fail
    go_region
    have B4 : Below w.heap.size w ((w1.setCell ⟨w.heap.size + 1 + 1, 0, none⟩ (.slice none 0 0)).setCell ⟨w.heap.size + 1 + 1 + 1, 0, none⟩ (.slice none 0 0)).drew := below_drewN ((B1.out.setCell (by dsimp only; omega) _).setCell (by dsimp only; omega) _) 1
    go_wp2
    exact bodyPost_ret (v := .tuple #[.agg #[.slice none 0 0], .agg #[.slice none 0 0], .int .i64 1]) (by simp [results, Try.results14, go_sem, f3, f5]) rfl ⟨rfl, B4⟩
  · have k2 : vld lb = false := by simpa [k] using h
    have k1 : vld la = true := by simpa using k
    rw [k1] at c1
    rw [k2] at c2
    have C1 := Lib.hid c1
    have C2 := Lib.hid c2
    clear c1 c2 ha hb h k k1 k2
    go_enter Try.func14, Try.ntmps14
    go_wp2_with fail
    refine (C1.out _ (HA.out.below' (below_four _ _ _ _ _))).mono ?_; rintro e w1 ⟨rfl, hb1⟩
    have z1 : w.heap.size + 3 < w1.heap.size := by have := hb1.size; simp at this; omega
    have B1 : Hid (Below w.heap.size w w1) := Lib.hid ((below_four _ _ _ _ _).trans (hb1.mono (by simp; omega)))
    obtain ⟨x1, x2, x3, x4, x5, x6⟩ := box4 w a (.slice bo lb.length cb) (.slice none 0 0) (.slice none 0 0) 24 24 24 24
    have f1 := (hb1.cell (p := ⟨w.heap.size, 0, none⟩) (by simp; omega)).trans x1
    have f2 := (hb1.cell (p := ⟨w.heap.size + 1, 0, none⟩) (by simp)).trans x2
    have f3 := (hb1.cell (p := ⟨w.heap.size + 1 + 1, 0, none⟩) (by simp)).trans x3
    have f4 := (hb1.frozen (p := ⟨w.heap.size + 1 + 1, 0, none⟩) (by simp)).trans x4
    have f5 := (hb1.cell (p := ⟨w.heap.size + 1 + 1 + 1, 0, none⟩) (by simp)).trans x5
    have f6 := (hb1.frozen (p := ⟨w.heap.size + 1 + 1 + 1, 0, none⟩) (by simp)).trans x6
    clear x1 x2 x3 x4 x5 x6 hb1
    go_wp2_with fail
    refine (C2.out _ (HB.out.below' B1.out)).mono ?_; rintro e w2 ⟨rfl, hb2⟩
    have z2 : w.heap.size + 3 < w2.heap.size := by have := hb2.size; omega
    have B2 : Hid (Below w.heap.size w w2) := Lib.hid (B1.out.trans (hb2.mono (by omega)))
    have g1 := (hb2.cell (p := ⟨w.heap.size, 0, none⟩) (by dsimp only; omega)).trans f1
    have g2 := (hb2.cell (p := ⟨w.heap.size + 1, 0, none⟩) (by dsimp only; omega)).trans f2
    have g3 := (hb2.cell (p := ⟨w.heap.size + 1 + 1, 0, none⟩) (by dsimp only; omega)).trans f3
    have g4 := (hb2.frozen (p := ⟨w.heap.size + 1 + 1, 0, none⟩) (by dsimp only; omega)).trans f4
    have g5 := (hb2.cell (p := ⟨w.heap.size + 1 + 1 + 1, 0, none⟩) (by dsimp only; omega)).trans f5
    have g6 := (hb2.frozen (p := ⟨w.heap.size + 1 + 1 + 1, 0, none⟩) (by dsimp only; omega)).trans f6
    clear hb2 f1 f2 f3 f4 f5 f6 z1 B1 C1 C2
    go_wp2_with fail
    go_region
    have B4 : Below w.heap.size w ((w2.setCell ⟨w.heap.size + 1 + 1, 0, none⟩ (.slice none 0 0)).setCell ⟨w.heap.size + 1 + 1 + 1, 0, none⟩ (.slice none 0 0)).drew := below_drewN ((B2.out.setCell (by dsimp only; omega) _).setCell (by dsimp only; omega) _) 1
    go_wp2
    exact bodyPost_ret (v := .tuple #[.agg #[.slice none 0 0], .agg #[.slice none 0 0], .int .i64 1]) (by simp [results, Try.results14, go_sem, g3, g5]) rfl ⟨rfl, B4⟩

/-- a slice of words in a block from B on that may be written to -/
def Mut (B : Nat) (w : World) (v : Value) : Prop := ∃ ao n cap, v = .slice ao n cap ∧ (n : Int) ≤ 9223372036854775807 ∧ (n ≠ 0 → ∃ b off, ao = some ⟨b, off, none⟩ ∧ B ≤ b ∧ b < w.heap.size ∧
  (∀ i, i < n → ∃ u : Nat, u < 4294967296 ∧ w.cell? ⟨b, off + i, none⟩ = some (.int .u32 (u : Int))) ∧ ∀ i, w.frozen? ⟨b, i, none⟩ = false)
section
variable {B : Nat} {w w' : World} {v : Value}
theorem Mut.nil (B : Nat) (w : World) : Mut B w (.slice none 0 0) := ⟨none, 0, 0, rfl, by omega, fun h => absurd rfl h⟩
theorem Mut.of {N : Nat} (h : NtU w v N) (hf : Fr B v) (hl : len N ≤ 64) : Mut B w v := by
  obtain ⟨ao, cap, rfl, h1, h2, h3⟩ := h.open
  refine ⟨ao, len N, cap, rfl, by omega, fun h0 => ?_⟩
  obtain ⟨b, off, rfl, hb, hc⟩ := h3 (fun e => h0 (len_eq_zero.2 e))
  exact ⟨b, off, rfl, hf _ _ _ rfl, hb, fun i hi => ⟨_, dig_lt _ _, hc i hi⟩, h.2 _ _ _ rfl h0⟩
theorem Mut.mono {C : Nat} (h : Mut B w v) (hC : C ≤ B) : Mut C w v := by
  obtain ⟨ao, n, cap, h1, h2, h3⟩ := h
  refine ⟨ao, n, cap, h1, h2, fun h0 => ?_⟩
  obtain ⟨b, off, k1, k2, k3⟩ := h3 h0
  exact ⟨b, off, k1, by omega, k3⟩
theorem Mut.below' (h : Mut B w v) (hb : Below w.heap.size w w') : Mut B w' v := by
  obtain ⟨ao, n, cap, h1, h2, h3⟩ := h
  refine ⟨ao, n, cap, h1, h2, fun h0 => ?_⟩
  obtain ⟨b, off, k1, k2, k3, k4, k5⟩ := h3 h0
  exact ⟨b, off, k1, k2, Nat.lt_of_lt_of_le k3 hb.size, fun i hi => by
    obtain ⟨u, hu, hc⟩ := k4 i hi
    exact ⟨u, hu, (hb.cell k3).trans hc⟩, fun i => (hb.frozen (p := ⟨b, i, none⟩) k3).trans (k5 i)⟩
theorem Mut.setCell (h : Mut B w v) (p : Addr) (x : Nat) (hx : x < 4294967296) : Mut B (w.setCell p (.int .u32 (x : Int))) v := by
  obtain ⟨ao, n, cap, h1, h2, h3⟩ := h
  refine ⟨ao, n, cap, h1, h2, fun h0 => ?_⟩
  obtain ⟨b, off, k1, k2, k3, k4, k5⟩ := h3 h0
  refine ⟨b, off, k1, k2, by simpa using k3, fun i hi => ?_, fun i => (World.frozen?_setCell _ _ _ _).trans (k5 i)⟩
  obtain ⟨u, hu, hc⟩ := k4 i hi
  by_cases e : (⟨b, off + i, none⟩ : Addr) = p
  · subst e
    exact ⟨x, hx, World.cell?_setCell_same' _ _ _ (by rw [hc]; rfl)⟩
  · exact ⟨u, hu, (World.cell?_setCell_other _ _ _ _ (fun h => e h.symm)).trans hc⟩
theorem Mut.form (h : Mut B w v) : ∃ ao n cap, v = .slice ao n cap := by
  obtain ⟨ao, n, cap, h1, _⟩ := h; exact ⟨ao, n, cap, h1⟩
/-- a number, or an error, came back; what came back may be written to -/
def ResM (B : Nat) (e : Ending) (w' : World) : Prop := ∃ ao n cap c, e = .returned (.tuple #[.agg #[.slice ao n cap], .int .i64 c]) ∧ Hid (Mut B w' (.slice ao n cap))
def ResMM (B : Nat) (e : Ending) (w' : World) : Prop := ∃ ao n cap bo m dap c, e = .returned (.tuple #[.agg #[.slice ao n cap], .agg #[.slice bo m dap], .int .i64 c]) ∧ Hid (Mut B w' (.slice ao n cap)) ∧ Hid (Mut B w' (.slice bo m dap))
theorem ResM.err (B : Nat) (c : Int) (w' : World) : ResM B (errN c) w' := ⟨none, 0, 0, c, rfl, Lib.hid (Mut.nil _ _)⟩
theorem ResMM.err (B : Nat) (c : Int) (w' : World) : ResMM B (errNN c) w' := ⟨none, 0, 0, none, 0, 0, c, rfl, Lib.hid (Mut.nil _ _), Lib.hid (Mut.nil _ _)⟩
theorem RetN.mut {S n : Nat} {e : Ending} (h : RetN (fun w' v' => NtU w' v' S ∧ Fr n v') e w') (hl : len S ≤ 64) : ResM n e w' := by
  obtain ⟨v, hv, rfl⟩ := h
  have hm := Mut.of hv.out.1 hv.out.2 hl
  obtain ⟨ao, k, cap, rfl⟩ := hm.form
  exact ⟨ao, k, cap, 0, rfl, Lib.hid hm⟩
theorem BigPostU.mut {S n : Nat} {e : Ending} (h : BigPostU S n e w') : ResM n e w' := by
  rcases h with ⟨h1, h2⟩ | ⟨_, rfl⟩
  · exact h2.mut h1
  · exact ResM.err _ _ _
variable {a b : Value} {la lb : List Nat}
theorem addM (ha : Sl w a la) (hb : Sl w b lb) : Calls Try.prog 24 #[.agg #[a], .agg #[b]] w fun e w' => ResM w.heap.size e w' ∧ Below w.heap.size w w' := by
  by_cases h : vld la = false ∨ vld lb = false
  · refine (Add_bad a b la lb w ha hb h).mono ?_
    rintro e w' ⟨rfl, hb⟩; exact ⟨ResM.err _ _ _, hb⟩
  · obtain ⟨N, _, h1, hN⟩ := vld_nt ha (by simpa using fun e => h (Or.inl e))
    obtain ⟨M, _, h2, hM⟩ := vld_nt hb (by simpa using fun e => h (Or.inr e))
    exact (Add_okU a b N M w hN hM h1 h2).mono fun e w' h => ⟨h.1.mut, h.2⟩
theorem mulM (ha : Sl w a la) (hb : Sl w b lb) : Calls Try.prog 13 #[.agg #[a], .agg #[b]] w fun e w' => ResM w.heap.size e w' ∧ Below w.heap.size w w' := by
  by_cases h : vld la = false ∨ vld lb = false
  · refine (Mul_bad a b la lb w ha hb h).mono ?_
    rintro e w' ⟨rfl, hb⟩; exact ⟨ResM.err _ _ _, hb⟩
  · obtain ⟨N, _, h1, hN⟩ := vld_nt ha (by simpa using fun e => h (Or.inl e))
    obtain ⟨M, _, h2, hM⟩ := vld_nt hb (by simpa using fun e => h (Or.inr e))
    exact (Mul_okU a b N M w hN hM h1 h2).mono fun e w' h => ⟨h.1.mut, h.2⟩
theorem subM (ha : Sl w a la) (hb : Sl w b lb) : Calls Try.prog 33 #[.agg #[a], .agg #[b]] w fun e w' => ResM w.heap.size e w' ∧ Below w.heap.size w w' := by
  by_cases h : vld la = false ∨ vld lb = false
  · refine (Sub_bad a b la lb w ha hb h).mono ?_
    rintro e w' ⟨rfl, hb⟩; exact ⟨ResM.err _ _ _, hb⟩
  · obtain ⟨N, _, h1, hN⟩ := vld_nt ha (by simpa using fun e => h (Or.inl e))
    obtain ⟨M, _, h2, hM⟩ := vld_nt hb (by simpa using fun e => h (Or.inr e))
    by_cases hl : M ≤ N
    · exact (Sub_okU a b N M w hN hM h1 h2 hl).mono fun e w' h => ⟨h.1.mut (Nat.le_trans (len_mono (Nat.sub_le _ _)) h1), h.2⟩
    · refine (Sub_range a b N M w hN hM h1 h2 (by omega)).mono ?_
      rintro e w' ⟨rfl, hb⟩; exact ⟨ResM.err _ _ _, hb⟩
theorem shlM (ha : Sl w a la) : Calls Try.prog 15 #[.agg #[a], .int .i64 0] w fun e w' => ResM w.heap.size e w' ∧ Below w.heap.size w w' := by
  by_cases h : vld la = false
  · refine (Shift_bad a la 0 w ha h).mono ?_
    rintro e w' ⟨rfl, hb⟩; exact ⟨ResM.err _ _ _, hb⟩
  · obtain ⟨N, _, h1, hN⟩ := vld_nt ha (by simpa using h)
    by_cases h0 : N = 0
    · subst h0
      refine (Shift_zero a 0 w hN (by omega) (by omega)).mono ?_
      rintro e w' ⟨rfl, hb⟩; exact ⟨ResM.err _ _ _, hb⟩
    · exact (Shift_leftU a N 0 w hN h1 h0 (by omega)).mono fun e w' h => ⟨h.1.mut, h.2⟩
theorem divM (ha : Sl w a la) (hb : Sl w b lb) : Calls Try.prog 14 #[.agg #[a], .agg #[b]] w fun e w' => ResMM w.heap.size e w' ∧ Below w.heap.size w w' := by
  by_cases h : vld la = false ∨ vld lb = false
  · refine (Div_bad a b la lb w ha hb h).mono ?_
    rintro e w' ⟨rfl, hb⟩; exact ⟨ResMM.err _ _ _, hb⟩
  · obtain ⟨N, _, h1, hN⟩ := vld_nt ha (by simpa using fun e => h (Or.inl e))
    obtain ⟨M, _, h2, hM⟩ := vld_nt hb (by simpa using fun e => h (Or.inr e))
    by_cases h0 : M = 0
    · refine (Div_zero a b N M w hN hM h1 h2 h0).mono ?_
      rintro e w' ⟨rfl, hb⟩; exact ⟨ResMM.err _ _ _, hb⟩
    · refine (Div_cU a b N M w hN hM h1 h2 h0).mono ?_
      rintro e w' ⟨⟨u, v, hv, rfl⟩, hb⟩
      obtain ⟨k1, k2, k3, k4⟩ := hv.out
      have m1 := Mut.of k1 k2 (Nat.le_trans (len_mono (Nat.div_le_self _ _)) h1)
      have m2 := Mut.of k3 k4 (Nat.le_trans (len_mono (Nat.mod_le _ _)) h1)
      obtain ⟨ao, n, cap, rfl⟩ := m1.form
      obtain ⟨bo, m, dap, rfl⟩ := m2.form
      exact ⟨⟨ao, n, cap, bo, m, dap, 0, rfl, Lib.hid m1, Lib.hid m2⟩, hb⟩
end
end Go.Proofs.Ytgogfjehbaiklaa
