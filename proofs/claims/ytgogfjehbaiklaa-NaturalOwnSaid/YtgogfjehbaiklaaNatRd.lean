/- The reference's Same, Valid, Compare, sized, Add. -/
import Derived.Test.YtgogfjehbaiklaaNatRc
import Derived.Deep.RegionHeld3
import Derived.IntWalk
namespace Go.Proofs.Ytgogfjehbaiklaa
open Go.RowKit NatMath
set_option linter.unusedVariables false

set_option maxRecDepth 100000 in
set_option maxHeartbeats 1000000 in
theorem Same_c (a b : Value) (N M : Nat) (w : World) (ha : Nt w a N) (hb : Nt w b M) :
    Calls Try.prog 18 #[.agg #[a], .agg #[b]] w fun e w' => e = .returned (.bool (decide (N = M))) ∧ Below w.heap.size w w' := by
  have HA := Lib.hid ha
  have HB := Lib.hid hb
  obtain ⟨ao, ca, rfl, a1, a2, a3⟩ := ha.open
  obtain ⟨bo, cb, rfl, b1, b2, b3⟩ := hb.open
  by_cases hl : len N = len M
  · rw [← hl] at b1 b3 HB
    have hne : Hid ((∀ i, i < len N → dig N i = dig M i) → N = M) := Lib.hid (fun h => eq_of_digs (lt_Bp_len N) (by rw [hl]; exact lt_Bp_len M) h)
    have hN0 : Hid (0 < len N → N ≠ 0 ∧ M ≠ 0) := Lib.hid (fun h => ⟨fun e => by rw [e, len_zero] at h; omega, fun e => by rw [hl, e, len_zero] at h; omega⟩)
    have hd : Hid (∀ k, dig N k ≠ dig M k → decide (N = M) = false) := Lib.hid (fun k h => decide_eq_false (fun e => h (by rw [e])))
    have ht : Hid (N = M → decide (N = M) = true) := Lib.hid (fun h => decide_eq_true h)
    have A3 := Lib.hid a3
    have B3 := Lib.hid b3
    have hn' : (len N : Int) ≤ 9223372036854775807 := by omega
    rw [← hl]
    clear ha hb a3 b3 hl
    generalize len N = n at *
    generalize decide (N = M) = R at *
    obtain ⟨W0, hW0⟩ : ∃ W0, W0 = (w.alloc (.cells #[.slice ao n ca] 24)).alloc (.cells #[.slice bo n cb] 24) := ⟨_, rfl⟩
    have B0 : Hid (Below w.heap.size w W0) := Lib.hid (by rw [hW0]; exact below_two _ _ _)
    have z0 : W0.heap.size = w.heap.size + 2 := by rw [hW0]; simp
    have x1 : W0.cell? ⟨w.heap.size, 0, none⟩ = some (.slice ao n ca) := by rw [hW0]; exact box2a ..
    have x2 : W0.cell? ⟨w.heap.size + 1, 0, none⟩ = some (.slice bo n cb) := by rw [hW0]; exact box2b ..
    have X1 := Lib.hid x1
    have X2 := Lib.hid x2
    clear x1 x2
    go_enter Try.func18, Try.ntmps18
    go_wp2
    rw [← hW0]
    clear hW0
    go_loopw [5] (fun s5 wr => ∃ k : Nat, s5 = .int .i64 (k : Int) ∧ k ≤ n ∧ Hid (∀ i, i < k → dig N i = dig M i) ∧ Qw W0 wr) (fun s5 _ => (n - RowKit.intOf s5).toNat)
    case atStart => exact ⟨0, rfl, Nat.zero_le _, Lib.hid (by omega), Qw.refl _⟩
    case round =>
      obtain ⟨k, rfl, hk, HI, hq⟩ := hrel
      have hb0 := hq.below W0.heap.size
      have f1 := (hb0.cell (p := ⟨w.heap.size, 0, none⟩) (by dsimp only; omega)).trans X1.out
      have f2 := (hb0.cell (p := ⟨w.heap.size + 1, 0, none⟩) (by dsimp only; omega)).trans X2.out
      have zr : w.heap.size + 2 ≤ wr.heap.size := by have := hb0.size; omega
      have hBW : Hid (Below w.heap.size w wr) := Lib.hid (B0.out.trans (hb0.mono (by omega)))
      by_cases h0 : k = n
      · subst h0
        have hR := ht.out (hne.out HI.out)
        have ht1 : decide (k < k) = false := decide_eq_false (by omega)
        subst hR
        clear hb0
        go_wp2
        go_ret
        exact ⟨rfl, hBW.out⟩
      · have hkn : k < n := by omega
        have ht1 : decide (k < n) = true := decide_eq_true hkn
        obtain ⟨n1, n2⟩ := hN0.out (by omega)
        obtain ⟨ba, offa, rfl, s1, ca1⟩ := A3.out n1
        obtain ⟨bb, offb, rfl, s2, cb1⟩ := B3.out n2
        have c1 := (hBW.out.cell (p := ⟨ba, offa + k, none⟩) s1).trans (ca1 k hkn)
        have c2 := (hBW.out.cell (p := ⟨bb, offb + k, none⟩) s2).trans (cb1 k hkn)
        have hs1 : ba < wr.heap.size := by omega
        have hs2 : bb < wr.heap.size := by omega
        have hstep : Hid (dig N k = dig M k → ∀ i, i < k + 1 → dig N i = dig M i) := Lib.hid (fun h i hi => by
          by_cases e : i = k
          · rw [e]; exact h
          · exact HI.out i (by omega))
        have hdk := Lib.hid (hd.out k)
        have hki : (k : Int) < (n : Int) := by omega
        generalize dig N k = x at *
        generalize dig M k = y at *
        clear ca1 cb1 hb0
        by_cases hxy : x = y
        · subst hxy
          have hb1 : ((x : Int) != (x : Int)) = false := by simp
          have HS := Lib.hid (hstep.out rfl)
          go_wp2_with fail
          go_quiet (fail)
          go_wp2
          go_roundw
          case rel => exact ⟨k + 1, rfl, by omega, HS, Qw.drewN hq _⟩
          case measure => simp [RowKit.intOf]; omega
        · have hb1 : ((x : Int) != (y : Int)) = true := by simp; omega
          have hR := hdk.out hxy
          subst hR
          go_wp2_with fail
          go_quiet (fail)
          go_wp2
          go_ret
          exact ⟨rfl, below_drewN hBW.out _⟩
  · have hne : decide (N = M) = false := decide_eq_false (fun e => hl (by rw [e]))
    rw [hne]
    have hb1 : ((len N : Int) != (len M : Int)) = true := by simp; omega
    clear ha hb a3 b3 hne HA HB hl
    generalize len N = n at *
    generalize len M = m at *
    go_enter Try.func18, Try.ntmps18
    go_wp2
    go_ret
    exact ⟨rfl, below_two _ _ _⟩

/-! ### Compare -/

set_option maxRecDepth 100000 in
set_option maxHeartbeats 2000000 in
theorem refCompare_c (a b : Value) (N M : Nat) (w : World) (ha : Nt w a N) (hb : Nt w b M) (h1 : len N ≤ 64) (h2 : len M ≤ 64) :
    Calls Try.prog 35 #[.agg #[a], .agg #[b]] w fun e w' => e = .returned (.int .i64 (cmp N M)) ∧ Below w.heap.size w w' := by
  have WA := Lib.hid (fun i Wr h0 hi hp hq k1 k2 W hW => word_two a a b (digs N) i w.heap.size (w.heap.size + 1) w Wr ha h0 hi hp hq k1 k2 W hW)
  have WB := Lib.hid (fun i Wr h0 hi hp hq k1 k2 W hW => word_two b a b (digs M) i w.heap.size (w.heap.size + 1) w Wr hb h0 hi hp hq k1 k2 W hW)
  obtain ⟨ao, ca, rfl, _⟩ := ha.open
  obtain ⟨bo, cb, rfl, _⟩ := hb.open
  have hst : Hid (N / Bp 64 = M / Bp 64) := Lib.hid (by rw [Nat.div_eq_of_lt (len_le_iff.1 h1), Nat.div_eq_of_lt (len_le_iff.1 h2)])
  obtain ⟨R, hR⟩ : ∃ R, R = cmp N M := ⟨_, rfl⟩
  rw [← hR]
  have HR := Lib.hid hR
  clear ha hb h1 h2 hR
  generalize len N = n1 at *
  generalize len M = n2 at *
  obtain ⟨W0, hW0⟩ : ∃ W0, W0 = (w.alloc (.cells #[.slice ao n1 ca] 24)).alloc (.cells #[.slice bo n2 cb] 24) := ⟨_, rfl⟩
  have B0 : Hid (Below w.heap.size w W0) := Lib.hid (by rw [hW0]; exact below_two _ _ _)
  have z0 : W0.heap.size = w.heap.size + 2 := by rw [hW0]; simp
  have x1 : W0.cell? ⟨w.heap.size, 0, none⟩ = some (.slice ao n1 ca) := by rw [hW0]; exact box2a ..
  have x2 : W0.cell? ⟨w.heap.size + 1, 0, none⟩ = some (.slice bo n2 cb) := by rw [hW0]; exact box2b ..
  have X1 := Lib.hid x1
  have X2 := Lib.hid x2
  clear x1 x2
  go_enter Try.func35, Try.ntmps35
  go_wp2
  rw [← hW0]
  clear hW0
  go_loopw [5] (fun s5 wr => ∃ k : Nat, s5 = .int .i64 ((k : Int) - 1) ∧ k ≤ 64 ∧ Hid (N / Bp k = M / Bp k) ∧ Hid (Below W0.heap.size W0 wr)) (fun s5 _ => (RowKit.intOf s5 + 1).toNat)
  case atStart => exact ⟨64, rfl, by omega, hst, Lib.hid (Below.refl _ _)⟩
  case round =>
    obtain ⟨k, rfl, hk, HI, hB⟩ := hrel
    have zr : w.heap.size + 2 ≤ wr.heap.size := by have := hB.out.size; omega
    have hBW : Hid (Below w.heap.size w wr) := Lib.hid (B0.out.trans (hB.out.mono (by omega)))
    by_cases h0 : k = 0
    · have e0 : N = M := cmp_self_step HI.out h0
      have hr0 : R = 0 := by rw [HR.out, e0]; unfold cmp; rw [if_neg (by omega), if_neg (by omega)]
      have hg : decide (1 ≤ (k : Int)) = false := decide_eq_false (by omega)
      subst h0 hr0
      clear HI HR e0
      go_wp2
      go_ret
      exact ⟨rfl, hBW.out⟩
    · obtain ⟨j, rfl⟩ : ∃ j, k = j + 1 := ⟨k - 1, by omega⟩
      have f1 := (hB.out.cell (p := ⟨w.heap.size, 0, none⟩) (by dsimp only; omega)).trans X1.out
      have f2 := (hB.out.cell (p := ⟨w.heap.size + 1, 0, none⟩) (by dsimp only; omega)).trans X2.out
      have CA := WA.out j wr hBW.out (by omega) (by omega) (by omega) f1 f2
      have CB := WB.out j wr hBW.out (by omega) (by omega) (by omega) f1 f2
      rw [dig_digs] at CA CB
      have d1 := dig_lt N j
      have d2 := dig_lt M j
      have hstep := fun h => cmp_eq_step (n := N) (m := M) (i := j) HI.out h
      have hlt := fun h => cmp_lt (n := N) (m := M) (i := j) HI.out h
      have hgt := fun h => cmp_lt (n := M) (m := N) (i := j) HI.out.symm h
      have ej : (((j + 1 : Nat) : Int) - 1) = (j : Int) := by omega
      rw [ej]
      have hj1 : decide (0 ≤ (j : Int)) = true := decide_eq_true (by omega)
      have hj64 : j < 64 := by omega
      have KA := Lib.hid CA
      have KB := Lib.hid CB
      clear CA CB
      have hd0 : Hid (Below wr.heap.size wr wr.drew) := Lib.hid (below_drewN (Below.refl _ _) 1)
      generalize dig N j = x at *
      generalize dig M j = y at *
      have h3 : (x < y ∧ R = -1) ∨ (x = y ∧ Hid (N / Bp j = M / Bp j)) ∨ (y < x ∧ R = 1) := by
        rcases Nat.lt_trichotomy x y with h | h | h
        · exact Or.inl ⟨h, by rw [HR.out]; unfold cmp; rw [if_pos (hlt h)]⟩
        · exact Or.inr (Or.inl ⟨h, Lib.hid (hstep h)⟩)
        · exact Or.inr (Or.inr ⟨h, by rw [HR.out]; unfold cmp; have := hgt h; rw [if_neg (by omega), if_pos this]⟩)
      clear hstep hlt hgt ej HI
      rcases h3 with ⟨h, hR⟩ | ⟨h, hE⟩ | ⟨h, hR⟩
      · have t1 : decide (x < y) = true := decide_eq_true h
        have t2 : decide ((x : Int) < (y : Int)) = true := decide_eq_true (by omega)
        subst hR
        go_wp2_with fail
        go_region_held3 (fun w' => w'.cell? ⟨w.heap.size, 0, none⟩ = some (.slice ao n1 ca) ∧ w'.cell? ⟨w.heap.size + 1, 0, none⟩ = some (.slice bo n2 cb) ∧ Hid (Below wr.heap.size wr w')) (first | exact ⟨p1, p2, hb1⟩ | exact ⟨f1, f2, hd0⟩)
          (first | (go_at_call_of 56 (Value.slice ao n1 ca); refine (KA.out _ ?_).mono ?_; (first | exact hb1.out | exact hd0.out); rintro e w1 ⟨rfl, hb1, p1, p2⟩) | (go_at_call_of 56 (Value.slice bo n2 cb); refine (KB.out _ ?_).mono ?_; (first | exact hb1.out | exact hd0.out); rintro e w1 ⟨rfl, hb1, p1, p2⟩))
        have hB1 : Hid (Below w.heap.size w w1) := Lib.hid (hBW.out.trans (hb1.out.mono (by omega)))
        clear KA KB
        go_wp2
        go_ret
        exact ⟨rfl, hB1.out⟩
      · have t1 : decide (x < y) = false := decide_eq_false (by omega)
        have t2 : decide ((x : Int) < (y : Int)) = false := decide_eq_false (by omega)
        have t3 : decide (y < x) = false := decide_eq_false (by omega)
        have t4 : decide ((y : Int) < (x : Int)) = false := decide_eq_false (by omega)
        go_wp2_with fail
        go_region_held3 (fun w' => w'.cell? ⟨w.heap.size, 0, none⟩ = some (.slice ao n1 ca) ∧ w'.cell? ⟨w.heap.size + 1, 0, none⟩ = some (.slice bo n2 cb) ∧ Hid (Below wr.heap.size wr w')) (first | exact ⟨p1, p2, hb1⟩ | exact ⟨f1, f2, hd0⟩)
          (first | (go_at_call_of 56 (Value.slice ao n1 ca); refine (KA.out _ ?_).mono ?_; (first | exact hb1.out | exact hd0.out); rintro e w1 ⟨rfl, hb1, p1, p2⟩) | (go_at_call_of 56 (Value.slice bo n2 cb); refine (KB.out _ ?_).mono ?_; (first | exact hb1.out | exact hd0.out); rintro e w1 ⟨rfl, hb1, p1, p2⟩))
        have hd1 : Hid (Below wr.heap.size wr w1.drew) := Lib.hid (below_drewN hb1.out 1)
        go_wp2_with fail
        go_region_held3 (fun w' => w'.cell? ⟨w.heap.size, 0, none⟩ = some (.slice ao n1 ca) ∧ w'.cell? ⟨w.heap.size + 1, 0, none⟩ = some (.slice bo n2 cb) ∧ Hid (Below wr.heap.size wr w')) (first | exact ⟨p3, p4, hb2⟩ | exact ⟨p1, p2, hd1⟩)
          (first | (go_at_call_of 56 (Value.slice ao n1 ca); refine (KA.out _ ?_).mono ?_; (first | exact hb2.out | exact hd1.out); rintro e w2 ⟨rfl, hb2, p3, p4⟩) | (go_at_call_of 56 (Value.slice bo n2 cb); refine (KB.out _ ?_).mono ?_; (first | exact hb2.out | exact hd1.out); rintro e w2 ⟨rfl, hb2, p3, p4⟩))
        have hB2 : Hid (Below W0.heap.size W0 w2) := Lib.hid (hB.out.trans (hb2.out.mono hB.out.size))
        have hB3 : Hid (Below w.heap.size w w2) := Lib.hid (hBW.out.trans (hb2.out.mono (by omega)))
        clear KA KB
        go_wp2
        go_roundw
        case rel => exact ⟨j, rfl, by omega, hE, hB2⟩
        case measure => simp [RowKit.intOf]
      · have t1 : decide (x < y) = false := decide_eq_false (by omega)
        have t2 : decide ((x : Int) < (y : Int)) = false := decide_eq_false (by omega)
        have t3 : decide (y < x) = true := decide_eq_true h
        have t4 : decide ((y : Int) < (x : Int)) = true := decide_eq_true (by omega)
        subst hR
        go_wp2_with fail
        go_region_held3 (fun w' => w'.cell? ⟨w.heap.size, 0, none⟩ = some (.slice ao n1 ca) ∧ w'.cell? ⟨w.heap.size + 1, 0, none⟩ = some (.slice bo n2 cb) ∧ Hid (Below wr.heap.size wr w')) (first | exact ⟨p1, p2, hb1⟩ | exact ⟨f1, f2, hd0⟩)
          (first | (go_at_call_of 56 (Value.slice ao n1 ca); refine (KA.out _ ?_).mono ?_; (first | exact hb1.out | exact hd0.out); rintro e w1 ⟨rfl, hb1, p1, p2⟩) | (go_at_call_of 56 (Value.slice bo n2 cb); refine (KB.out _ ?_).mono ?_; (first | exact hb1.out | exact hd0.out); rintro e w1 ⟨rfl, hb1, p1, p2⟩))
        have hd1 : Hid (Below wr.heap.size wr w1.drew) := Lib.hid (below_drewN hb1.out 1)
        go_wp2_with fail
        go_region_held3 (fun w' => w'.cell? ⟨w.heap.size, 0, none⟩ = some (.slice ao n1 ca) ∧ w'.cell? ⟨w.heap.size + 1, 0, none⟩ = some (.slice bo n2 cb) ∧ Hid (Below wr.heap.size wr w')) (first | exact ⟨p3, p4, hb2⟩ | exact ⟨p1, p2, hd1⟩)
          (first | (go_at_call_of 56 (Value.slice ao n1 ca); refine (KA.out _ ?_).mono ?_; (first | exact hb2.out | exact hd1.out); rintro e w2 ⟨rfl, hb2, p3, p4⟩) | (go_at_call_of 56 (Value.slice bo n2 cb); refine (KB.out _ ?_).mono ?_; (first | exact hb2.out | exact hd1.out); rintro e w2 ⟨rfl, hb2, p3, p4⟩))
        have hB2 : Hid (Below W0.heap.size W0 w2) := Lib.hid (hB.out.trans (hb2.out.mono hB.out.size))
        have hB3 : Hid (Below w.heap.size w w2) := Lib.hid (hBW.out.trans (hb2.out.mono (by omega)))
        clear KA KB
        go_wp2
        go_ret
        exact ⟨rfl, hB3.out⟩

/-! ### Valid, sized, Add -/

set_option maxHeartbeats 400000 in
theorem refValid_c (v : Value) (l : List Nat) (w : World) (h : Sl w v l) :
    Calls Try.prog 16 #[.agg #[v]] w fun e w' => e = .returned (.bool (vld l)) ∧ Below w.heap.size w w' := by
  obtain ⟨ao, cap, rfl, h1, h2, h4⟩ := h.open
  by_cases k2 : l = []
  · subst k2
    have hv : vld [] = true := by decide
    rw [hv]
    clear h h4
    go_enter Try.func16, Try.ntmps16
    go_wp2
    go_ret
    exact ⟨rfl, below_one _ _⟩
  · have hlen : 1 ≤ l.length := by cases l; exact absurd rfl k2; simp
    have g2 : ((l.length : Int) == 0) = false := beq_eq_false_iff_ne.2 (by omega)
    by_cases k1 : l.length ≤ 64
    · obtain ⟨b, off, rfl, hb, hc⟩ := h4 k2
      have hcell := hc (l.length - 1) (by omega)
      have hv : vld l = decide (l.getD (l.length - 1) 0 ≠ 0) := by
        unfold vld; rw [Bool.eq_iff_iff]; simp [k1, k2]
      rw [hv]
      generalize l.getD (l.length - 1) 0 = u at *
      generalize l.length = n at *
      clear h h4 hc hv k2
      have g1 : decide ((n : Int) ≤ 64) = true := decide_eq_true (by omega)
      go_enter Try.func16, Try.ntmps16
      go_wp2
      go_ret
      exact ⟨by simp; rw [Bool.eq_iff_iff]; simp; try omega, below_one _ _⟩
    · have hv : vld l = false := decide_eq_false (fun h => k1 h.1)
      rw [hv]
      generalize l.length = n at *
      clear h h4 hv
      have g1 : decide ((n : Int) ≤ 64) = false := decide_eq_false (by omega)
      go_enter Try.func16, Try.ntmps16
      go_wp2
      go_ret
      exact ⟨rfl, below_one _ _⟩

set_option maxHeartbeats 400000 in
theorem sized_c (ao : Option Addr) (n c : Nat) (w : World) (hn : (n : Int) ≤ 9223372036854775807) :
    Calls Try.prog 50 #[.agg #[.slice ao n c]] w fun e w' => ((n ≤ 64 ∧ e = .returned (.tuple #[.agg #[.slice ao n c], .int .i64 0])) ∨ (¬ n ≤ 64 ∧ e = errN 9)) ∧ Below w.heap.size w w' := by
  by_cases h : n ≤ 64
  · have ht : decide (64 < (n : Int)) = false := decide_eq_false (by omega)
    go_enter Try.func50, Try.ntmps50
    go_wp2
    exact bodyPost_ret (v := .tuple #[.agg #[.slice ao n c], .int .i64 0]) (by simp [results, Try.results50, go_sem]) rfl ⟨Or.inl ⟨h, rfl⟩, below_two _ _ _⟩
  · have ht : decide (64 < (n : Int)) = true := decide_eq_true (by omega)
    go_enter Try.func50, Try.ntmps50
    go_wp2
    exact bodyPost_ret (v := .tuple #[.agg #[.slice none 0 0], .int .i64 9]) (by simp [results, Try.results50, go_sem]) rfl ⟨Or.inr ⟨h, rfl⟩, below_two _ _ _⟩

set_option maxRecDepth 100000 in
set_option maxHeartbeats 1000000 in
theorem refAdd_c (a b : Value) (N M : Nat) (w : World) (ha : Nt w a N) (hb : Nt w b M) (h1 : len N ≤ 64) (h2 : len M ≤ 64) :
    Calls Try.prog 34 #[.agg #[a], .agg #[b]] w fun e w' => BigPost (N + M) w.heap.size e w' ∧ Below w.heap.size w w' := by
  have cs := fun w ha hb => sum_c a b N M w ha hb h1 h2
  have CS := Lib.hid cs
  have HA := Lib.hid ha
  have HB := Lib.hid hb
  clear cs ha hb h1 h2
  generalize N + M = S at *
  go_enter Try.func34, Try.ntmps34
  go_wp2_with fail
  refine (CS.out _ (HA.out.below' (below_three _ _ _ _)) (HB.out.below' (below_three _ _ _ _))).mono ?_; rintro e w1 ⟨⟨a1, c1, rfl, hv⟩, hb1⟩
  obtain ⟨x1, x2, x3, x4⟩ := box3 w a b (.slice none 0 0) 24 24 24
  have z1 : w.heap.size + 2 < w1.heap.size := by have := hb1.size; simp at this; omega
  have f3 := (hb1.cell (p := ⟨w.heap.size + 1 + 1, 0, none⟩) (by simp)).trans x3
  have f4 := (hb1.frozen (p := ⟨w.heap.size + 1 + 1, 0, none⟩) (by simp)).trans x4
  have B1 : Hid (Below w.heap.size w w1) := Lib.hid ((below_three _ _ _ _).trans (hb1.mono (by simp; omega)))
  have hN := Lib.hid hv.out.1
  have hF : Hid (Fr (w.heap.size + 3) (.slice a1 (len S) c1)) := Lib.hid (Fr.mono hv.out.2 (by simp))
  have hlS : Hid ((len S : Int) ≤ 9223372036854775807) := Lib.hid (by
    obtain ⟨_, _, e, k1, k2, _⟩ := hN.out.open
    have := k1; omega)
  clear x1 x2 x3 x4 hb1 hv
  go_wp2_with fail
  refine (sized_c a1 (len S) c1 w1 hlS.out).mono ?_
  rintro e w2 ⟨h2, hb2⟩
  have z2 : w.heap.size + 1 + 1 < w2.heap.size := by have := hb2.size; omega
  have B2 : Hid (Below w.heap.size w w2) := Lib.hid (B1.out.trans (hb2.mono (by omega)))
  have g3 := (hb2.cell (p := ⟨w.heap.size + 1 + 1, 0, none⟩) (by dsimp only; omega)).trans f3
  have g4 := (hb2.frozen (p := ⟨w.heap.size + 1 + 1, 0, none⟩) (by dsimp only; omega)).trans f4
  have hN2 := Lib.hid (hN.out.below' hb2)
  clear hb2 f3 f4 hN
  rcases h2 with ⟨hl, rfl⟩ | ⟨hl, rfl⟩
  · have HL := Lib.hid hl
    clear hl
    go_wp2
    exact bodyPost_ret (v := .tuple #[.agg #[.slice a1 (len S) c1], .int .i64 0]) (by simp [results, Try.results34, go_sem, g3]) rfl ⟨Or.inl ⟨HL.out, _, Lib.hid ⟨hN2.out.set hF.out (by dsimp only; omega) _, Fr.mono hF.out (by omega)⟩, rfl⟩, B2.out.setCell (by dsimp only; omega) _⟩
  · have HL := Lib.hid hl
    clear hl
    unfold errN
    go_wp2
    exact bodyPost_ret (v := .tuple #[.agg #[.slice none 0 0], .int .i64 9]) (by simp [results, Try.results34, go_sem, g3]) rfl ⟨Or.inr ⟨HL.out, rfl⟩, B2.out.setCell (by dsimp only; omega) _⟩
end Go.Proofs.Ytgogfjehbaiklaa
