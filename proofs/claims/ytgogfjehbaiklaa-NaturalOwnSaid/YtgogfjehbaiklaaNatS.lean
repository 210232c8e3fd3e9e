/- slices.Equal; great; is. -/
import Derived.Test.YtgogfjehbaiklaaNatRd
namespace Go.Proofs.Ytgogfjehbaiklaa
open Go.RowKit NatMath
set_option linter.unusedVariables false

set_option maxHeartbeats 1000000 in
theorem Equal_c (a b : Value) (la lb : List Nat) (w : World) (ha : Sl w a la) (hb : Sl w b lb) :
    Calls Try.prog 40 #[a, b] w fun e w' => e = .returned (.bool (decide (la = lb))) ∧ Below w.heap.size w w' := by
  obtain ⟨ao, ca, rfl, a1, a2, a3⟩ := ha.open
  obtain ⟨bo, cb, rfl, b1, b2, b3⟩ := hb.open
  by_cases hl : la.length = lb.length
  · rw [← hl] at b1 b3
    have hne : Hid ((∀ i, i < la.length → la.getD i 0 = lb.getD i 0) → la = lb) := Lib.hid (fun h => list_ext_getD hl h)
    have hN0 : Hid (0 < la.length → la ≠ [] ∧ lb ≠ []) := Lib.hid (fun h => ⟨fun e => by rw [e] at h; simp at h, fun e => by rw [hl, e] at h; simp at h⟩)
    have hd : Hid (∀ k, la.getD k 0 ≠ lb.getD k 0 → decide (la = lb) = false) := Lib.hid (fun k h => decide_eq_false (fun e => h (by rw [e])))
    have ht : Hid (la = lb → decide (la = lb) = true) := Lib.hid (fun h => decide_eq_true h)
    have A3 := Lib.hid a3
    have B3 := Lib.hid b3
    have hn' : (la.length : Int) ≤ 9223372036854775807 := by omega
    have hlt1 : Hid (∀ i, la.getD i 0 < 4294967296) := Lib.hid (fun i => getD_lt ha.choose_spec.choose_spec.2.2.2.1 i)
    have hlt2 : Hid (∀ i, lb.getD i 0 < 4294967296) := Lib.hid (fun i => getD_lt hb.choose_spec.choose_spec.2.2.2.1 i)
    rw [← hl]
    clear ha hb a3 b3 hl
    generalize la.length = n at *
    generalize decide (la = lb) = R at *
    go_enter Try.func40, Try.ntmps40
    go_wp2
    go_loopw [13] (fun s13 wr => ∃ k : Nat, s13 = .int .i64 (k : Int) ∧ k ≤ n ∧ Hid (∀ i, i < k → la.getD i 0 = lb.getD i 0) ∧ Qw w wr) (fun s13 _ => (n - RowKit.intOf s13).toNat)
    case atStart => exact ⟨0, rfl, Nat.zero_le _, Lib.hid (by omega), Qw.refl _⟩
    case round =>
      obtain ⟨k, rfl, hk, HI, hq⟩ := hrel
      have hb0 := hq.below w.heap.size
      have zr : w.heap.size ≤ wr.heap.size := hb0.size
      have HB0 := Lib.hid hb0
      by_cases h0 : k = n
      · subst h0
        have hR := ht.out (hne.out HI.out)
        have ht1 : decide (k < k) = false := decide_eq_false (by omega)
        subst hR
        clear hb0
        go_wp2
        go_ret
        exact ⟨rfl, HB0.out⟩
      · have hkn : k < n := by omega
        have ht1 : decide (k < n) = true := decide_eq_true hkn
        obtain ⟨n1, n2⟩ := hN0.out (by omega)
        obtain ⟨ba, offa, rfl, s1, ca1⟩ := A3.out n1
        obtain ⟨bb, offb, rfl, s2, cb1⟩ := B3.out n2
        have c1 := (hb0.cell (p := ⟨ba, offa + k, none⟩) s1).trans (ca1 k hkn)
        have c2 := (hb0.cell (p := ⟨bb, offb + k, none⟩) s2).trans (cb1 k hkn)
        have hs1 : ba < wr.heap.size := by omega
        have hs2 : bb < wr.heap.size := by omega
        have hstep : Hid (la.getD k 0 = lb.getD k 0 → ∀ i, i < k + 1 → la.getD i 0 = lb.getD i 0) := Lib.hid (fun h i hi => by
          by_cases e : i = k
          · rw [e]; exact h
          · exact HI.out i (by omega))
        have hdk := Lib.hid (hd.out k)
        have hki : (k : Int) < (n : Int) := by omega
        have u1 := hlt1.out k
        have u2 := hlt2.out k
        generalize la.getD k 0 = x at *
        generalize lb.getD k 0 = y at *
        clear ca1 cb1 hb0
        by_cases hxy : x = y
        · subst hxy
          have hb1 : ((x : Int) != (x : Int)) = false := by simp
          have HS := Lib.hid (hstep.out rfl)
          go_wp2_with fail
          go_quiet (fail)
          go_wp2
          go_roundw
          case rel => exact ⟨k + 1, rfl, by omega, HS, Qw.drewN hq _⟩
          case measure => simp [RowKit.intOf]; omega
        · have hb1 : ((x : Int) != (y : Int)) = true := by simp; omega
          have hR := hdk.out hxy
          subst hR
          go_wp2_with fail
          go_quiet (fail)
          go_wp2
          go_ret
          exact ⟨rfl, below_drewN HB0.out _⟩
  · have hne : decide (la = lb) = false := decide_eq_false (fun e => hl (by rw [e]))
    rw [hne]
    have hb1 : ((la.length : Int) != (lb.length : Int)) = true := by simp; omega
    clear ha hb a3 b3 hne hl
    generalize la.length = n at *
    generalize lb.length = m at *
    go_enter Try.func40, Try.ntmps40
    go_wp2
    go_ret
    exact ⟨rfl, Below.refl _ _⟩

/-! ### great -/

theorem great1_c (ao : Option Addr) (n c : Nat) (w : World) (hn : (n : Int) ≤ 9223372036854775807) :
    Calls Try.prog 42 #[.agg #[.slice ao n c]] w fun e w' => e = .returned (.bool (decide (100 < n))) ∧ Below w.heap.size w w' := by
  by_cases h : 100 < n
  · have ht : decide (100 < (n : Int)) = true := decide_eq_true (by omega)
    rw [decide_eq_true h]
    go_enter Try.func42, Try.ntmps42
    go_wp2
    go_ret
    exact ⟨rfl, below_one _ _⟩
  · have ht : decide (100 < (n : Int)) = false := decide_eq_false (by omega)
    rw [decide_eq_false h]
    go_enter Try.func42, Try.ntmps42
    go_wp2
    go_ret
    exact ⟨rfl, below_one _ _⟩

set_option maxHeartbeats 1000000 in
/-- the index of a great number among k ones -/
theorem IndexFunc_c (g k : Nat) (A : Nat → Option Addr) (L C : Nat → Nat) (w : World) (hk : (k : Int) ≤ 1000000) (hg : g < w.heap.size) (hL : ∀ i, (L i : Int) ≤ 9223372036854775807)
    (hc : ∀ i, i < k → w.cell? ⟨g, i, none⟩ = some (.slice (A i) (L i) (C i))) :
    Calls Try.prog 59 #[.slice (some ⟨g, 0, none⟩) k k, .func (.func 42) #[] #[]] w fun e w' =>
      (((∃ i, i < k ∧ 100 < L i ∧ e = .returned (.int .i64 (i : Int))) ∨ ((∀ i, i < k → L i ≤ 100) ∧ e = .returned (.int .i64 (-1))))) ∧ Below w.heap.size w w' := by
  have HC := Lib.hid hc
  have HL := Lib.hid hL
  clear hc hL
  go_enter Try.func59, Try.ntmps59
  go_wp2
  go_loopw [8] (fun s8 wr => ∃ j : Nat, s8 = .int .i64 (j : Int) ∧ j ≤ k ∧ Hid (∀ i, i < j → L i ≤ 100) ∧ Hid (Below w.heap.size w wr)) (fun s8 _ => (k - RowKit.intOf s8).toNat)
  case atStart => exact ⟨0, rfl, Nat.zero_le _, Lib.hid (by omega), Lib.hid (Below.refl _ _)⟩
  case round =>
    obtain ⟨j, rfl, hj, HI, hB⟩ := hrel
    have hgr : g < wr.heap.size := Nat.lt_of_lt_of_le hg hB.out.size
    by_cases h0 : j = k
    · subst h0
      have ht1 : decide (j < j) = false := decide_eq_false (by omega)
      go_wp2
      go_ret
      exact ⟨Or.inr ⟨HI.out, rfl⟩, hB.out⟩
    · have hjk : j < k := by omega
      have ht1 : decide (j < k) = true := decide_eq_true hjk
      have hjki : (j : Int) < (k : Int) := by omega
      have hcell := (hB.out.cell (p := ⟨g, j, none⟩) hg).trans (HC.out j hjk)
      have cg := great1_c (A j) (L j) (C j)
      have HLj := HL.out j
      have hstep : Hid (L j ≤ 100 → ∀ i, i < j + 1 → L i ≤ 100) := Lib.hid (fun h i hi => by
        by_cases e : i = j
        · rw [e]; exact h
        · exact HI.out i (by omega))
      have hfin : Hid (100 < L j → ∃ i, i < k ∧ 100 < L i ∧ (Ending.returned (.int .i64 (j : Int))) = .returned (.int .i64 (i : Int))) := Lib.hid (fun h => ⟨j, hjk, h, rfl⟩)
      have CG := Lib.hid cg
      clear cg
      go_wp2_with fail
      refine (CG.out wr HLj).mono ?_; rintro e w1 ⟨rfl, hb1⟩
      have hB1 : Hid (Below w.heap.size w w1) := Lib.hid (hB.out.trans (hb1.mono hB.out.size))
      clear hb1 CG
      by_cases hgt : 100 < L j
      · have ht3 : decide (100 < L j) = true := decide_eq_true hgt
        have hF := Lib.hid (hfin.out hgt)
        go_wp2
        go_ret
        exact ⟨Or.inl hF.out, hB1.out⟩
      · have ht3 : decide (100 < L j) = false := decide_eq_false hgt
        have hS := Lib.hid (hstep.out (by omega))
        go_wp2
        go_roundw
        case rel => exact ⟨j + 1, rfl, by omega, hS, hB1⟩
        case measure => simp [RowKit.intOf]; omega

theorem ContainsFunc_c (g k : Nat) (A : Nat → Option Addr) (L C : Nat → Nat) (w : World) (hk : (k : Int) ≤ 1000000) (hg : g < w.heap.size) (hL : ∀ i, (L i : Int) ≤ 9223372036854775807)
    (hc : ∀ i, i < k → w.cell? ⟨g, i, none⟩ = some (.slice (A i) (L i) (C i))) :
    Calls Try.prog 41 #[.slice (some ⟨g, 0, none⟩) k k, .func (.func 42) #[] #[]] w fun e w' =>
      (((∃ i, i < k ∧ 100 < L i) ∧ e = .returned (.bool true)) ∨ ((∀ i, i < k → L i ≤ 100) ∧ e = .returned (.bool false))) ∧ Below w.heap.size w w' := by
  have ci := Lib.hid (IndexFunc_c g k A L C w hk hg hL hc)
  clear hc hL
  go_enter Try.func41, Try.ntmps41
  go_wp2_with fail
  refine ci.out.mono ?_
  rintro e w1 ⟨⟨i, hi, hgt, rfl⟩ | ⟨hall, rfl⟩, hb⟩
  · have HG : Hid (∃ i, i < k ∧ 100 < L i) := Lib.hid ⟨i, hi, hgt⟩
    have hge : decide (0 ≤ (i : Int)) = true := decide_eq_true (by omega)
    have HB := Lib.hid hb
    clear hb
    go_wp2
    go_ret
    exact ⟨Or.inl ⟨HG.out, rfl⟩, HB.out⟩
  · have HG := Lib.hid hall
    have HB := Lib.hid hb
    clear hb hall
    go_wp2
    go_ret
    exact ⟨Or.inr ⟨HG.out, rfl⟩, HB.out⟩

theorem great_c (g k : Nat) (A : Nat → Option Addr) (L C : Nat → Nat) (w : World) (hk : (k : Int) ≤ 1000000) (hg : g < w.heap.size) (hL : ∀ i, (L i : Int) ≤ 9223372036854775807)
    (hc : ∀ i, i < k → w.cell? ⟨g, i, none⟩ = some (.slice (A i) (L i) (C i))) :
    Calls Try.prog 12 #[.slice (some ⟨g, 0, none⟩) k k] w fun e w' =>
      (((∃ i, i < k ∧ 100 < L i) ∧ e = .returned (.bool true)) ∨ ((∀ i, i < k → L i ≤ 100) ∧ e = .returned (.bool false))) ∧ Below w.heap.size w w' := by
  have ci := Lib.hid (ContainsFunc_c g k A L C w hk hg hL hc)
  clear hc hL
  go_enter Try.func12, Try.ntmps12
  go_wp2_with fail
  refine ci.out.mono ?_
  rintro e w1 ⟨⟨hex, rfl⟩ | ⟨hall, rfl⟩, hb⟩
  · have HG := Lib.hid hex
    have HB := Lib.hid hb
    clear hb hex
    go_wp2
    go_ret
    exact ⟨Or.inl ⟨HG.out, rfl⟩, HB.out⟩
  · have HG := Lib.hid hall
    have HB := Lib.hid hb
    clear hb hall
    go_wp2
    go_ret
    exact ⟨Or.inr ⟨HG.out, rfl⟩, HB.out⟩

/-! ### is -/

set_option maxHeartbeats 400000 in
theorem is_c (a b : Value) (N M : Nat) (e f : Int) (w : World) (ha : Nt w a N) (hb : Nt w b M) :
    Calls Try.prog 17 #[.agg #[a], .int .i64 e, .agg #[b], .int .i64 f] w fun e' w' => e' = .returned (.bool (decide (e = f) && decide (N = M))) ∧ Below w.heap.size w w' := by
  have cs := fun w ha hb => Same_c a b N M w ha hb
  have CS := Lib.hid cs
  have HA := Lib.hid ha
  have HB := Lib.hid hb
  clear cs ha hb
  generalize decide (N = M) = R at *
  by_cases h : e = f
  · subst h
    have ht : (e == e) = true := by simp
    rw [show decide (e = e) = true from by simp, Bool.true_and]
    go_enter Try.func17, Try.ntmps17
    go_wp2_with fail
    refine (CS.out _ (HA.out.below' (below_two _ _ _)) (HB.out.below' (below_two _ _ _))).mono ?_; rintro e1 w1 ⟨rfl, hb1⟩
    have HB1 : Hid (Below w.heap.size w w1) := Lib.hid ((below_two _ _ _).trans (hb1.mono (by simp; omega)))
    clear hb1
    go_wp2
    go_ret
    exact ⟨rfl, HB1.out⟩
  · have ht : (e == f) = false := by simpa using h
    rw [decide_eq_false h, Bool.false_and]
    go_enter Try.func17, Try.ntmps17
    go_wp2
    go_ret
    exact ⟨rfl, below_two _ _ _⟩
end Go.Proofs.Ytgogfjehbaiklaa
