/- Natural numbers in memory; the contracts of compare, Compare, trimmed, checked, Of. -/
import Derived.Test.YthphmgdmhlimjaaNatA
import Derived.Test.YthphmgdmhlimjaaNatMath
import Derived.RowKit3
namespace Go.Proofs.Ythphmgdmhlimjaa
open Go.RowKit NatMath
set_option linter.unusedVariables false

/-- the world has drawn, no more -/
def Qw (w w' : World) : Prop := ∃ n, w' = w.drewN n
theorem Qw.refl (w : World) : Qw w w := ⟨0, rfl⟩
theorem Qw.trans {a b c : World} (h : Qw a b) (k : Qw b c) : Qw a c := by
  obtain ⟨n, rfl⟩ := h; obtain ⟨m, rfl⟩ := k; exact ⟨_, World.drewN_drewN ..⟩
theorem Qw.drewN {a b : World} (h : Qw a b) (n : Nat) : Qw a (b.drewN n) := h.trans ⟨n, rfl⟩
theorem Qw.below {a b : World} (h : Qw a b) (n : Nat) : Below n a b := by
  obtain ⟨n, rfl⟩ := h; exact below_drewN (Below.refl _ _) _

/-- behind a call that writes below nothing of what was there: the old cells, the old marks -/
theorem bcell {W w1 : World} (hb : Below W.heap.size W w1) : (∀ b o, b < W.heap.size → w1.cell? ⟨b, o, none⟩ = W.cell? ⟨b, o, none⟩) ∧ (∀ b o, b < W.heap.size → w1.frozen? ⟨b, o, none⟩ = W.frozen? ⟨b, o, none⟩) :=
  ⟨fun b o h => hb.cell (p := ⟨b, o, none⟩) h, fun b o h => hb.frozen (p := ⟨b, o, none⟩) h⟩
theorem below_one (w : World) (o : Obj) : Below w.heap.size w (w.alloc o) := (Below.refl _ _).alloc (Nat.le_refl _) _
theorem below_two (w : World) (o p : Obj) : Below w.heap.size w ((w.alloc o).alloc p) := (below_one w o).alloc (by simp) _
theorem below_three (w : World) (o p q : Obj) : Below w.heap.size w (((w.alloc o).alloc p).alloc q) := (below_two w o p).alloc (by simp; omega) _
theorem box1a (w : World) (a : Value) (T : TypeId) : (w.alloc (.cells #[a] T)).cell? ⟨w.heap.size, 0, none⟩ = some a := by simp
theorem box2a (w : World) (a : Value) (T : TypeId) (o : Obj) : ((w.alloc (.cells #[a] T)).alloc o).cell? ⟨w.heap.size, 0, none⟩ = some a := by simp
theorem box2b (w : World) (o : Obj) (b : Value) (T : TypeId) : ((w.alloc o).alloc (.cells #[b] T)).cell? ⟨w.heap.size + 1, 0, none⟩ = some b := by simp
theorem box1f (w : World) (a : Value) (T : TypeId) : (w.alloc (.cells #[a] T)).frozen? ⟨w.heap.size, 0, none⟩ = false := by simp
theorem box3 (w : World) (a b c : Value) (T U V : TypeId) :
    (((w.alloc (.cells #[a] T)).alloc (.cells #[b] U)).alloc (.cells #[c] V)).cell? ⟨w.heap.size, 0, none⟩ = some a ∧
    (((w.alloc (.cells #[a] T)).alloc (.cells #[b] U)).alloc (.cells #[c] V)).cell? ⟨w.heap.size + 1, 0, none⟩ = some b ∧
    (((w.alloc (.cells #[a] T)).alloc (.cells #[b] U)).alloc (.cells #[c] V)).cell? ⟨w.heap.size + 1 + 1, 0, none⟩ = some c ∧
    (((w.alloc (.cells #[a] T)).alloc (.cells #[b] U)).alloc (.cells #[c] V)).frozen? ⟨w.heap.size + 1 + 1, 0, none⟩ = false := by
  have e2 : ((w.alloc (.cells #[a] T)).alloc (.cells #[b] U)).heap.size = w.heap.size + 1 + 1 := by simp
  refine ⟨?_, ?_, ?_, ?_⟩
  · exact (World.cell?_alloc_old _ _ _ (by simp; omega)).trans (box2a ..)
  · exact (World.cell?_alloc_old _ _ _ (by simp)).trans (box2b ..)
  · rw [← e2]; exact box1a _ c V
  · rw [← e2]; exact box1f _ c V
theorem size_one (w : World) (o : Obj) : (w.alloc o).heap.size = w.heap.size + 1 := by simp
theorem size_two (w : World) (o p : Obj) : ((w.alloc o).alloc p).heap.size = w.heap.size + 2 := by simp
theorem size_three (w : World) (o p q : Obj) : (((w.alloc o).alloc p).alloc q).heap.size = w.heap.size + 3 := by simp

/-- the slice value v reads as the number N, without zero words at its end -/
def Nt (w : World) (v : Value) (N : Nat) : Prop := Sl w v (digs N)

theorem Nt.open {w : World} {v : Value} {N : Nat} (h : Nt w v N) : ∃ (ao : Option Addr) (cap : Nat), v = .slice ao (len N) cap ∧ len N ≤ cap ∧ cap ≤ 9223372036854775807 ∧
    (N ≠ 0 → ∃ b off, ao = some ⟨b, off, none⟩ ∧ b < w.heap.size ∧ ∀ i, i < len N → w.cell? ⟨b, off + i, none⟩ = some (.int .u32 ((dig N i : Nat) : Int))) := by
  obtain ⟨ao, cap, h1, h2, h3, h4, h5, _⟩ := h
  refine ⟨ao, cap, h1, h2, h3, fun h0 => ?_⟩
  obtain ⟨b, off, k1, k2, k3⟩ := h5 (fun e => h0 (by have : len N = 0 := by unfold len; rw [e]; rfl
                                                     exact len_eq_zero.1 this))
  exact ⟨b, off, k1, k2, fun i hi => by rw [← dig_digs]; exact k3 i hi⟩

theorem Nt.below {w w' : World} {v : Value} {N : Nat} {B : Nat} (h : Nt w v N) (hb : Below B w w') (hB : w.heap.size ≤ B) : Nt w' v N := Sl.below h hb hB
theorem Nt.below' {w w' : World} {v : Value} {N : Nat} (h : Nt w v N) (hb : Below w.heap.size w w') : Nt w' v N := Sl.below' h hb
theorem Nt.zero (w : World) : Nt w (.slice none 0 0) 0 := by unfold Nt; rw [digs_zero]; exact Sl.nil w

theorem vld_digs (N : Nat) : vld (digs N) = decide (len N ≤ 64) := by
  unfold vld
  rw [Bool.eq_iff_iff]
  simp only [decide_eq_true_eq]
  exact ⟨fun h => h.1, fun h => ⟨h, normal_digs N⟩⟩

theorem cmp_self_step {N M k : Nat} (h : N / Bp k = M / Bp k) (hk : k = 0) : N = M := by subst hk; rw [Bp_zero, Nat.div_one, Nat.div_one] at h; exact h

set_option maxHeartbeats 1000000 in
theorem compare_c (a b : Value) (N M : Nat) (w : World) (ha : Nt w a N) (hb : Nt w b M) :
    Calls Try.prog 67 #[a, b] w fun e w' => e = .returned (.int .i64 (cmp N M)) ∧ Qw w w' := by
  obtain ⟨ao, ca, rfl, a1, a2, a3⟩ := ha.open
  obtain ⟨bo, cb, rfl, b1, b2, b3⟩ := hb.open
  by_cases hl : len N = len M
  · rw [← hl] at b1 b3 ⊢
    have ht1 : decide (len N < len N) = false := decide_eq_false (Nat.lt_irrefl _)
    have hst : Hid (N / Bp (len N) = M / Bp (len N)) := Lib.hid (by rw [Nat.div_eq_of_lt (lt_Bp_len N), Nat.div_eq_of_lt (by rw [hl]; exact lt_Bp_len M)])
    have hN0 : len N ≠ 0 → N ≠ 0 ∧ M ≠ 0 := fun h => ⟨fun e => h (len_eq_zero.2 e), fun e => h (by rw [hl]; exact len_eq_zero.2 e)⟩
    obtain ⟨R, hR⟩ : ∃ R, R = cmp N M := ⟨_, rfl⟩
    rw [← hR]
    have HR := Lib.hid hR
    have A3 := Lib.hid a3
    have B3 := Lib.hid b3
    have H0 := Lib.hid hN0
    have hn : (len N : Int) ≤ 9223372036854775807 := by omega
    clear ha hb hR a3 b3 hN0 hl
    generalize len N = n at *
    go_enter Try.func67, Try.ntmps67
    go_wp2
    go_loopw [5] (fun s5 wr => ∃ k : Nat, s5 = .int .i64 ((k : Int) - 1) ∧ (k : Int) ≤ (n : Int) ∧ Hid (N / Bp k = M / Bp k) ∧ Qw w wr) (fun s5 _ => (RowKit.intOf s5 + 1).toNat)
    case atStart => exact ⟨n, rfl, Int.le_refl _, hst, Qw.refl _⟩
    case round =>
      obtain ⟨k, rfl, hk, HI, nw, rfl⟩ := hrel
      by_cases h0 : k = 0
      · have e0 : N = M := cmp_self_step HI.out h0
        have hr0 : R = 0 := by rw [HR.out, e0]; unfold cmp; rw [if_neg (by omega), if_neg (by omega)]
        have hg : decide (1 ≤ (k : Int)) = false := decide_eq_false (by omega)
        subst h0 hr0
        clear HI HR A3 B3 H0 e0
        go_wp2
        go_ret
        exact ⟨rfl, nw, rfl⟩
      · obtain ⟨j, rfl⟩ : ∃ j, k = j + 1 := ⟨k - 1, by omega⟩
        obtain ⟨n1, n2⟩ := H0.out (by omega)
        obtain ⟨ba, offa, rfl, s1, ca1⟩ := A3.out n1
        obtain ⟨bb, offb, rfl, s2, cb1⟩ := B3.out n2
        have c1 := ca1 j (by omega)
        have c2 := cb1 j (by omega)
        have d1 := dig_lt N j
        have d2 := dig_lt M j
        have hstep := fun h => cmp_eq_step (n := N) (m := M) (i := j) HI.out h
        have hlt := fun h => cmp_lt (n := N) (m := M) (i := j) HI.out h
        have hgt := fun h => cmp_lt (n := M) (m := N) (i := j) HI.out.symm h
        have hz : j = 0 → N / Bp j = M / Bp j → N = M := fun h0 h => cmp_self_step h h0
        have CA := Lib.hid ca1
        have CB := Lib.hid cb1
        have ej : (((j + 1 : Nat) : Int) - 1) = (j : Int) := by omega
        rw [ej]
        generalize dig N j = x at *
        generalize dig M j = y at *
        have hjn : (j : Int) < (n : Int) := by omega
        have hj1 : decide (0 ≤ (j : Int)) = true := decide_eq_true (by omega)
        rcases Nat.lt_trichotomy x y with hxy | hxy | hxy
        · have hr : R = -1 := by rw [HR.out]; unfold cmp; rw [if_pos (hlt hxy)]
          have g1 : decide (x < y) = true := decide_eq_true hxy
          clear hstep hlt hgt hz HI HR A3 B3 H0 CA CB ca1 cb1 n1 n2 hk ej
          subst hr
          go_wp2
          go_quiet (fail)
          go_wp2
          go_ret
          exact ⟨rfl, Qw.drewN ⟨nw, rfl⟩ _⟩
        · have HS := Lib.hid (hstep hxy)
          have g1 : decide (x < y) = false := decide_eq_false (by omega)
          have g2 : decide (y < x) = false := decide_eq_false (by omega)
          clear hstep hlt hgt hz HI CA CB ca1 cb1 n1 n2 ej hxy
          go_wp2
          go_quiet (fail)
          go_wp2
          go_quiet (fail)
          go_wp2
          go_roundw
          case rel => exact ⟨j, rfl, by omega, HS, _, rfl⟩
          case measure => simp [RowKit.intOf]
        · have hr : R = 1 := by rw [HR.out]; unfold cmp; rw [if_neg (by have := hgt hxy; omega), if_pos (hgt hxy)]
          have g1 : decide (x < y) = false := decide_eq_false (by omega)
          have g2 : decide (y < x) = true := decide_eq_true hxy
          clear hstep hlt hgt hz HI HR A3 B3 H0 CA CB ca1 cb1 n1 n2 hk ej
          subst hr
          go_wp2
          go_quiet (fail)
          go_wp2
          go_quiet (fail)
          go_wp2
          go_ret
          exact ⟨rfl, Qw.drewN (Qw.drewN ⟨nw, rfl⟩ _) _⟩
  · have ht0 : ((len N : Int) != (len M : Int)) = true := by simp; omega
    by_cases hlt : len N < len M
    · have ht1 : decide (len N < len M) = true := decide_eq_true hlt
      have hr : cmp N M = -1 := by unfold cmp; rw [if_pos (cmp_len hlt)]
      rw [hr]
      clear ha hb hr a3 b3 hlt hl
      generalize len N = n at *
      generalize len M = m at *
      go_enter Try.func67, Try.ntmps67
      go_wp2
      go_ret
      exact ⟨rfl, Qw.refl _⟩
    · have ht1 : decide (len N < len M) = false := decide_eq_false hlt
      have hgt : M < N := cmp_len (by omega)
      have hr : cmp N M = 1 := by unfold cmp; rw [if_neg (by omega), if_pos hgt]
      rw [hr]
      clear ha hb hr a3 b3 hlt hl hgt
      generalize len N = n at *
      generalize len M = m at *
      go_enter Try.func67, Try.ntmps67
      go_wp2
      go_ret
      exact ⟨rfl, Qw.refl _⟩

set_option maxHeartbeats 400000 in
theorem Compare_c (a b : Value) (N M : Nat) (w : World) (ha : Nt w a N) (hb : Nt w b M) (h1 : len N ≤ 64) (h2 : len M ≤ 64) :
    Calls Try.prog 82 #[.agg #[a], .agg #[b]] w fun e w' => e = .returned (.int .i64 (cmp N M)) ∧ Below w.heap.size w w' := by
  have c1 := fun w h => Valid_c a (digs N) w h
  have c2 := fun w h => Valid_c b (digs M) w h
  have c3 := fun w h1 h2 => compare_c a b N M w h1 h2
  rw [vld_digs, decide_eq_true h1] at c1
  rw [vld_digs, decide_eq_true h2] at c2
  have C1 := Lib.hid c1
  have C2 := Lib.hid c2
  have C3 := Lib.hid c3
  have HA := Lib.hid ha
  have HB := Lib.hid hb
  clear c1 c2 c3 ha hb h1 h2
  generalize cmp N M = R at *
  go_enter Try.func82, Try.ntmps82
  go_wp2_with fail
  refine (C1.out _ (HA.out.below' (below_two _ _ _))).mono ?_; rintro e w1 ⟨rfl, hb1⟩
  have hz : w.heap.size + 2 ≤ w1.heap.size := by have := hb1.size; simp at this; omega
  have B1 : Hid (Below w.heap.size w w1) := Lib.hid ((below_two _ _ _).trans (hb1.mono (by simp; omega)))
  have f1 := (hb1.cell (p := ⟨w.heap.size, 0, none⟩) (by simp; omega)).trans (box2a _ _ _ _)
  have f2 := (hb1.cell (p := ⟨w.heap.size + 1, 0, none⟩) (by simp)).trans (box2b _ _ _ _)
  clear hb1
  go_wp2_with fail
  refine (C2.out _ (HB.out.below' B1.out)).mono ?_; rintro e w2 ⟨rfl, hb2⟩
  have hz2 : w.heap.size + 2 ≤ w2.heap.size := by have := hb2.size; omega
  have B2 : Hid (Below w.heap.size w w2) := Lib.hid (B1.out.trans (hb2.mono (by omega)))
  have f3 := (hb2.cell (p := ⟨w.heap.size, 0, none⟩) (by simp; omega)).trans f1
  have f4 := (hb2.cell (p := ⟨w.heap.size + 1, 0, none⟩) (by simp; omega)).trans f2
  clear hb2 f1 f2
  go_wp2_with fail
  refine (C3.out _ (HA.out.below' B2.out) (HB.out.below' B2.out)).mono ?_; rintro e w3 ⟨rfl, hq⟩
  go_wp2
  go_ret
  exact ⟨rfl, B2.out.trans (hq.below _)⟩
end Go.Proofs.Ythphmgdmhlimjaa
