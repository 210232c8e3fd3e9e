/- The statements' helpers: few, first, same. -/
import Derived.Test.YthphmgdmhlimjaaModR6
import Derived.Test.YthphmgdmhlimjaaModS
namespace Go.Proofs.Ythphmgdmhlimjaa
open Go.RowKit NatMath
set_option linter.unusedVariables false

/-- the cells of block g hold these slices -/
def Row (g k : Nat) (A : Nat → Option Addr) (L C : Nat → Nat) (w : World) : Prop := g < w.heap.size ∧ (∀ i, (L i : Int) ≤ 9223372036854775807) ∧ ∀ i, i < k → w.cell? ⟨g, i, none⟩ = some (.slice (A i) (L i) (C i))
theorem Row.below {g k : Nat} {A : Nat → Option Addr} {L C : Nat → Nat} {w w' : World} (h : Row g k A L C w) (hb : Below w.heap.size w w') : Row g k A L C w' :=
  ⟨Nat.lt_of_lt_of_le h.1 hb.size, h.2.1, fun i hi => (hb.cell (p := ⟨g, i, none⟩) h.1).trans (h.2.2 i hi)⟩
/-- what the function F (with the captured values caps) says of the elements -/
def Says (F : Nat) (caps : List Value) (k : Nat) (A : Nat → Option Addr) (L C : Nat → Nat) (p : Nat → Bool) (w : World) : Prop :=
  ∀ j, j < k → ∀ W, Below w.heap.size w W → Calls Try.prog F (Value.agg #[.slice (A j) (L j) (C j)] :: caps).toArray W fun e w' => e = .returned (.bool (p j)) ∧ Below W.heap.size W w'
/-- one of the elements, or none -/
def Ask (k : Nat) (p : Nat → Bool) (t : Bool) : Prop := ((∃ i, i < k ∧ p i = true) ∧ t = true) ∨ ((∀ i, i < k → p i = false) ∧ t = false)

set_option maxHeartbeats 1000000 in
theorem idx_few (c : Nat) (g k : Nat) (A : Nat → Option Addr) (L C : Nat → Nat) (p : Nat → Bool) (w : World) (hk : (k : Int) ≤ 1000000) (hR : Row g k A L C w) (hS : Says 48 [.pointer (some ⟨c, 0, none⟩)] k A L C p w) :
    Calls Try.prog 81 #[.slice (some ⟨g, 0, none⟩) k k, .func (.func 48) #[] #[.pointer (some ⟨c, 0, none⟩)]] w fun e w' =>
      (((∃ i, i < k ∧ p i = true ∧ e = .returned (.int .i64 (i : Int))) ∨ ((∀ i, i < k → p i = false) ∧ e = .returned (.int .i64 (-1))))) ∧ Below w.heap.size w w' := by
  have HR := Lib.hid hR
  have HS := Lib.hid hS
  clear hR hS
  go_enter Try.func81, Try.ntmps81
  go_wp2
  go_loopw [8] (fun s8 wr => ∃ j : Nat, s8 = .int .i64 (j : Int) ∧ j ≤ k ∧ Hid (∀ i, i < j → p i = false) ∧ Hid (Below w.heap.size w wr)) (fun s8 _ => (k - RowKit.intOf s8).toNat)
  case atStart => exact ⟨0, rfl, Nat.zero_le _, Lib.hid (by omega), Lib.hid (Below.refl _ _)⟩
  case round =>
    obtain ⟨j, rfl, hj, HI, hB⟩ := hrel
    by_cases h0 : j = k
    · subst h0
      have ht1 : decide (j < j) = false := decide_eq_false (by omega)
      go_wp2
      go_ret
      exact ⟨Or.inr ⟨HI.out, rfl⟩, hB.out⟩
    · have hjk : j < k := by omega
      have ht1 : decide (j < k) = true := decide_eq_true hjk
      have hjki : (j : Int) < (k : Int) := by omega
      have hcell := (HR.out.below hB.out).2.2 j hjk
      have HLj := HR.out.2.1 j
      have hstep : Hid (p j = false → ∀ i, i < j + 1 → p i = false) := Lib.hid (fun h i hi => by
        by_cases e : i = j
        · rw [e]; exact h
        · exact HI.out i (by omega))
      have hfin : Hid (p j = true → ∃ i, i < k ∧ p i = true ∧ (Ending.returned (.int .i64 (j : Int))) = .returned (.int .i64 (i : Int))) := Lib.hid (fun h => ⟨j, hjk, h, rfl⟩)
      have CG := Lib.hid (HS.out j hjk wr hB.out)
      go_wp2_with fail
      refine CG.out.mono ?_; rintro e w1 ⟨rfl, hb1⟩
      have hB1 : Hid (Below w.heap.size w w1) := Lib.hid (hB.out.trans (hb1.mono hB.out.size))
      clear hb1 CG
      cases hgt : p j
      · have hS2 := Lib.hid (hstep.out hgt)
        clear hgt
        go_wp2
        go_roundw
        case rel => exact ⟨j + 1, by go_num, by omega, hS2, hB1⟩
        case measure => simp [RowKit.intOf]; omega
      · have hF := Lib.hid (hfin.out hgt)
        clear hgt
        go_wp2
        go_ret
        exact ⟨Or.inl hF.out, hB1.out⟩
theorem con_few (c : Nat) (g k : Nat) (A : Nat → Option Addr) (L C : Nat → Nat) (p : Nat → Bool) (w : World) (hk : (k : Int) ≤ 1000000) (hR : Row g k A L C w) (hS : Says 48 [.pointer (some ⟨c, 0, none⟩)] k A L C p w) :
    Calls Try.prog 47 #[.slice (some ⟨g, 0, none⟩) k k, .func (.func 48) #[] #[.pointer (some ⟨c, 0, none⟩)]] w fun e w' => (∃ t, e = .returned (.bool t) ∧ Hid (Ask k p t)) ∧ Below w.heap.size w w' := by
  have ci := Lib.hid (idx_few c g k A L C p w hk hR hS)
  clear hR hS
  go_enter Try.func47, Try.ntmps47
  go_wp2_with fail
  refine ci.out.mono ?_
  rintro e w1 ⟨⟨i, hi, hgt, rfl⟩ | ⟨hall, rfl⟩, hb⟩
  · have HG : Hid (Ask k p true) := Lib.hid (Or.inl ⟨⟨i, hi, hgt⟩, rfl⟩)
    have hge : decide (0 ≤ (i : Int)) = true := decide_eq_true (by omega)
    have HB := Lib.hid hb
    clear hb hgt
    go_wp2
    go_ret
    exact ⟨⟨true, rfl, HG⟩, HB.out⟩
  · have HG : Hid (Ask k p false) := Lib.hid (Or.inr ⟨hall, rfl⟩)
    have HB := Lib.hid hb
    clear hb hall
    go_wp2
    go_ret
    exact ⟨⟨false, rfl, HG⟩, HB.out⟩

set_option maxHeartbeats 1000000 in
theorem idx_val (g k : Nat) (A : Nat → Option Addr) (L C : Nat → Nat) (p : Nat → Bool) (w : World) (hk : (k : Int) ≤ 1000000) (hR : Row g k A L C w) (hS : Says 58 [] k A L C p w) :
    Calls Try.prog 81 #[.slice (some ⟨g, 0, none⟩) k k, .func (.func 58) #[] #[]] w fun e w' =>
      (((∃ i, i < k ∧ p i = true ∧ e = .returned (.int .i64 (i : Int))) ∨ ((∀ i, i < k → p i = false) ∧ e = .returned (.int .i64 (-1))))) ∧ Below w.heap.size w w' := by
  have HR := Lib.hid hR
  have HS := Lib.hid hS
  clear hR hS
  go_enter Try.func81, Try.ntmps81
  go_wp2
  go_loopw [8] (fun s8 wr => ∃ j : Nat, s8 = .int .i64 (j : Int) ∧ j ≤ k ∧ Hid (∀ i, i < j → p i = false) ∧ Hid (Below w.heap.size w wr)) (fun s8 _ => (k - RowKit.intOf s8).toNat)
  case atStart => exact ⟨0, rfl, Nat.zero_le _, Lib.hid (by omega), Lib.hid (Below.refl _ _)⟩
  case round =>
    obtain ⟨j, rfl, hj, HI, hB⟩ := hrel
    by_cases h0 : j = k
    · subst h0
      have ht1 : decide (j < j) = false := decide_eq_false (by omega)
      go_wp2
      go_ret
      exact ⟨Or.inr ⟨HI.out, rfl⟩, hB.out⟩
    · have hjk : j < k := by omega
      have ht1 : decide (j < k) = true := decide_eq_true hjk
      have hjki : (j : Int) < (k : Int) := by omega
      have hcell := (HR.out.below hB.out).2.2 j hjk
      have HLj := HR.out.2.1 j
      have hstep : Hid (p j = false → ∀ i, i < j + 1 → p i = false) := Lib.hid (fun h i hi => by
        by_cases e : i = j
        · rw [e]; exact h
        · exact HI.out i (by omega))
      have hfin : Hid (p j = true → ∃ i, i < k ∧ p i = true ∧ (Ending.returned (.int .i64 (j : Int))) = .returned (.int .i64 (i : Int))) := Lib.hid (fun h => ⟨j, hjk, h, rfl⟩)
      have CG := Lib.hid (HS.out j hjk wr hB.out)
      go_wp2_with fail
      refine CG.out.mono ?_; rintro e w1 ⟨rfl, hb1⟩
      have hB1 : Hid (Below w.heap.size w w1) := Lib.hid (hB.out.trans (hb1.mono hB.out.size))
      clear hb1 CG
      cases hgt : p j
      · have hS2 := Lib.hid (hstep.out hgt)
        clear hgt
        go_wp2
        go_roundw
        case rel => exact ⟨j + 1, by go_num, by omega, hS2, hB1⟩
        case measure => simp [RowKit.intOf]; omega
      · have hF := Lib.hid (hfin.out hgt)
        clear hgt
        go_wp2
        go_ret
        exact ⟨Or.inl hF.out, hB1.out⟩
theorem con_val (g k : Nat) (A : Nat → Option Addr) (L C : Nat → Nat) (p : Nat → Bool) (w : World) (hk : (k : Int) ≤ 1000000) (hR : Row g k A L C w) (hS : Says 58 [] k A L C p w) :
    Calls Try.prog 47 #[.slice (some ⟨g, 0, none⟩) k k, .func (.func 58) #[] #[]] w fun e w' => (∃ t, e = .returned (.bool t) ∧ Hid (Ask k p t)) ∧ Below w.heap.size w w' := by
  have ci := Lib.hid (idx_val g k A L C p w hk hR hS)
  clear hR hS
  go_enter Try.func47, Try.ntmps47
  go_wp2_with fail
  refine ci.out.mono ?_
  rintro e w1 ⟨⟨i, hi, hgt, rfl⟩ | ⟨hall, rfl⟩, hb⟩
  · have HG : Hid (Ask k p true) := Lib.hid (Or.inl ⟨⟨i, hi, hgt⟩, rfl⟩)
    have hge : decide (0 ≤ (i : Int)) = true := decide_eq_true (by omega)
    have HB := Lib.hid hb
    clear hb hgt
    go_wp2
    go_ret
    exact ⟨⟨true, rfl, HG⟩, HB.out⟩
  · have HG : Hid (Ask k p false) := Lib.hid (Or.inr ⟨hall, rfl⟩)
    have HB := Lib.hid hb
    clear hb hall
    go_wp2
    go_ret
    exact ⟨⟨false, rfl, HG⟩, HB.out⟩

set_option maxHeartbeats 1000000 in
theorem idx_les (c : Nat) (g k : Nat) (A : Nat → Option Addr) (L C : Nat → Nat) (p : Nat → Bool) (w : World) (hk : (k : Int) ≤ 1000000) (hR : Row g k A L C w) (hS : Says 59 [.pointer (some ⟨c, 0, none⟩)] k A L C p w) :
    Calls Try.prog 81 #[.slice (some ⟨g, 0, none⟩) k k, .func (.func 59) #[] #[.pointer (some ⟨c, 0, none⟩)]] w fun e w' =>
      (((∃ i, i < k ∧ p i = true ∧ e = .returned (.int .i64 (i : Int))) ∨ ((∀ i, i < k → p i = false) ∧ e = .returned (.int .i64 (-1))))) ∧ Below w.heap.size w w' := by
  have HR := Lib.hid hR
  have HS := Lib.hid hS
  clear hR hS
  go_enter Try.func81, Try.ntmps81
  go_wp2
  go_loopw [8] (fun s8 wr => ∃ j : Nat, s8 = .int .i64 (j : Int) ∧ j ≤ k ∧ Hid (∀ i, i < j → p i = false) ∧ Hid (Below w.heap.size w wr)) (fun s8 _ => (k - RowKit.intOf s8).toNat)
  case atStart => exact ⟨0, rfl, Nat.zero_le _, Lib.hid (by omega), Lib.hid (Below.refl _ _)⟩
  case round =>
    obtain ⟨j, rfl, hj, HI, hB⟩ := hrel
    by_cases h0 : j = k
    · subst h0
      have ht1 : decide (j < j) = false := decide_eq_false (by omega)
      go_wp2
      go_ret
      exact ⟨Or.inr ⟨HI.out, rfl⟩, hB.out⟩
    · have hjk : j < k := by omega
      have ht1 : decide (j < k) = true := decide_eq_true hjk
      have hjki : (j : Int) < (k : Int) := by omega
      have hcell := (HR.out.below hB.out).2.2 j hjk
      have HLj := HR.out.2.1 j
      have hstep : Hid (p j = false → ∀ i, i < j + 1 → p i = false) := Lib.hid (fun h i hi => by
        by_cases e : i = j
        · rw [e]; exact h
        · exact HI.out i (by omega))
      have hfin : Hid (p j = true → ∃ i, i < k ∧ p i = true ∧ (Ending.returned (.int .i64 (j : Int))) = .returned (.int .i64 (i : Int))) := Lib.hid (fun h => ⟨j, hjk, h, rfl⟩)
      have CG := Lib.hid (HS.out j hjk wr hB.out)
      go_wp2_with fail
      refine CG.out.mono ?_; rintro e w1 ⟨rfl, hb1⟩
      have hB1 : Hid (Below w.heap.size w w1) := Lib.hid (hB.out.trans (hb1.mono hB.out.size))
      clear hb1 CG
      cases hgt : p j
      · have hS2 := Lib.hid (hstep.out hgt)
        clear hgt
        go_wp2
        go_roundw
        case rel => exact ⟨j + 1, by go_num, by omega, hS2, hB1⟩
        case measure => simp [RowKit.intOf]; omega
      · have hF := Lib.hid (hfin.out hgt)
        clear hgt
        go_wp2
        go_ret
        exact ⟨Or.inl hF.out, hB1.out⟩
theorem con_les (c : Nat) (g k : Nat) (A : Nat → Option Addr) (L C : Nat → Nat) (p : Nat → Bool) (w : World) (hk : (k : Int) ≤ 1000000) (hR : Row g k A L C w) (hS : Says 59 [.pointer (some ⟨c, 0, none⟩)] k A L C p w) :
    Calls Try.prog 47 #[.slice (some ⟨g, 0, none⟩) k k, .func (.func 59) #[] #[.pointer (some ⟨c, 0, none⟩)]] w fun e w' => (∃ t, e = .returned (.bool t) ∧ Hid (Ask k p t)) ∧ Below w.heap.size w w' := by
  have ci := Lib.hid (idx_les c g k A L C p w hk hR hS)
  clear hR hS
  go_enter Try.func47, Try.ntmps47
  go_wp2_with fail
  refine ci.out.mono ?_
  rintro e w1 ⟨⟨i, hi, hgt, rfl⟩ | ⟨hall, rfl⟩, hb⟩
  · have HG : Hid (Ask k p true) := Lib.hid (Or.inl ⟨⟨i, hi, hgt⟩, rfl⟩)
    have hge : decide (0 ≤ (i : Int)) = true := decide_eq_true (by omega)
    have HB := Lib.hid hb
    clear hb hgt
    go_wp2
    go_ret
    exact ⟨⟨true, rfl, HG⟩, HB.out⟩
  · have HG : Hid (Ask k p false) := Lib.hid (Or.inr ⟨hall, rfl⟩)
    have HB := Lib.hid hb
    clear hb hall
    go_wp2
    go_ret
    exact ⟨⟨false, rfl, HG⟩, HB.out⟩

/-! ### few -/
set_option maxHeartbeats 400000 in
theorem fewin_c (ao : Option Addr) (n c m g : Nat) (w : World) (hn : (n : Int) ≤ 9223372036854775807) (hg : g < w.heap.size) (hc : w.cell? ⟨g, 0, none⟩ = some (.int .i64 (m : Int))) :
    Calls Try.prog 48 #[.agg #[.slice ao n c], .pointer (some ⟨g, 0, none⟩)] w fun e w' => e = .returned (.bool (decide (m < n))) ∧ Below w.heap.size w w' := by
  have hc' : (w.alloc (.cells #[.slice ao n c] 24)).cell? ⟨g, 0, none⟩ = some (.int .i64 (m : Int)) := (World.cell?_alloc_old _ _ _ (Nat.ne_of_lt hg)).trans hc
  clear hc
  go_enter Try.func48, Try.ntmps48
  go_wp2
  go_ret
  exact ⟨rfl, below_one _ _⟩
set_option maxHeartbeats 1000000 in
theorem few_row (m g k : Nat) (A : Nat → Option Addr) (L C : Nat → Nat) (w : World) (hk : (k : Int) ≤ 1000000) (hR : Row g k A L C w) :
    Calls Try.prog 13 #[.int .i64 (m : Int), .slice (some ⟨g, 0, none⟩) k k] w fun e w' => (∃ t, e = .returned (.bool (!t)) ∧ Hid (Ask k (fun i => decide (m < L i)) t)) ∧ Below w.heap.size w w' := by
  have hb0 := below_one w (.cells #[.int .i64 (m : Int)] 3)
  have HC := Lib.hid (con_few w.heap.size g k A L C (fun i => decide (m < L i)) (w.alloc (.cells #[.int .i64 (m : Int)] 3)) hk (hR.below hb0) (fun j hj W hB => by
    refine fewin_c (A j) (L j) (C j) m w.heap.size W (hR.2.1 j) (Nat.lt_of_lt_of_le (by simp) hB.size) ((hB.cell (p := ⟨w.heap.size, 0, none⟩) (by simp)).trans (box1a _ _ _))))
  have HB0 := Lib.hid hb0
  clear hR hb0
  go_enter Try.func13, Try.ntmps13
  go_wp2_with fail
  refine HC.out.mono ?_
  rintro e w1 ⟨⟨t, rfl, ht⟩, hb⟩
  have HB := Lib.hid (HB0.out.trans (hb.mono (by simp)))
  clear hb HC
  go_wp2
  go_ret
  exact ⟨⟨t, rfl, ht⟩, HB.out⟩

theorem row1 (ao : Option Addr) (na ca : Nat) (W : World) (g : Nat) (hg : W.heap.size = g) (ha : (na : Int) ≤ 9223372036854775807) :
    Row g 1 (fun i => ao) (fun i => na) (fun i => ca) (W.alloc (.cells #[.slice ao na ca] 24)) := by
  subst hg
  refine ⟨by simp, fun i => ?_, fun i hi => ?_⟩
  · exact ha
  · rw [World.cell?_alloc_new]
    rcases (show i = 0 by omega) with rfl
    rfl
theorem few1_c (ao : Option Addr) (na ca : Nat) (m : Nat) (W : World) (ha : (na : Int) ≤ 9223372036854775807) (g : Nat) (hg : W.heap.size = g) :
    Calls Try.prog 13 #[.int .i64 (m : Int), .slice (some ⟨g, 0, none⟩) 1 1] (W.alloc (.cells #[.slice ao na ca] 24)) fun e w' =>
      (((na ≤ m) ∧ e = .returned (.bool true)) ∨ ((m < na) ∧ e = .returned (.bool false))) ∧ Below W.heap.size W w' := by
  refine (few_row m g 1 (fun i => ao) (fun i => na) (fun i => ca) _ (by omega) (row1 ao na ca W g hg ha)).mono ?_
  rintro e w' ⟨⟨t, rfl, ht⟩, hb⟩
  refine ⟨?_, (below_one W _).trans (hb.mono (by simp))⟩
  rcases ht.out with ⟨⟨i, hi, h⟩, rfl⟩ | ⟨h, rfl⟩
  · refine Or.inr ⟨?_, rfl⟩
    rcases (show i = 0 by omega) with rfl
    exact of_decide_eq_true h
  · refine Or.inl ⟨Nat.le_of_not_lt (of_decide_eq_false (h 0 (by omega))), rfl⟩
theorem row2 (ao : Option Addr) (na ca : Nat) (bo : Option Addr) (nb cb : Nat) (W : World) (g : Nat) (hg : W.heap.size = g) (ha : (na : Int) ≤ 9223372036854775807) (hb : (nb : Int) ≤ 9223372036854775807) :
    Row g 2 (fun i => if i = 0 then ao else bo) (fun i => if i = 0 then na else nb) (fun i => if i = 0 then ca else cb) (W.alloc (.cells #[.slice ao na ca, .slice bo nb cb] 24)) := by
  subst hg
  refine ⟨by simp, fun i => ?_, fun i hi => ?_⟩
  · (dsimp only; repeat' split) <;> assumption
  · rw [World.cell?_alloc_new]
    rcases (show i = 0 ∨ i = 1 by omega) with rfl | rfl <;> rfl
theorem few2_c (ao : Option Addr) (na ca : Nat) (bo : Option Addr) (nb cb : Nat) (m : Nat) (W : World) (ha : (na : Int) ≤ 9223372036854775807) (hb : (nb : Int) ≤ 9223372036854775807) (g : Nat) (hg : W.heap.size = g) :
    Calls Try.prog 13 #[.int .i64 (m : Int), .slice (some ⟨g, 0, none⟩) 2 2] (W.alloc (.cells #[.slice ao na ca, .slice bo nb cb] 24)) fun e w' =>
      (((na ≤ m ∧ nb ≤ m) ∧ e = .returned (.bool true)) ∨ ((m < na ∨ m < nb) ∧ e = .returned (.bool false))) ∧ Below W.heap.size W w' := by
  refine (few_row m g 2 (fun i => if i = 0 then ao else bo) (fun i => if i = 0 then na else nb) (fun i => if i = 0 then ca else cb) _ (by omega) (row2 ao na ca bo nb cb W g hg ha hb)).mono ?_
  rintro e w' ⟨⟨t, rfl, ht⟩, hb⟩
  refine ⟨?_, (below_one W _).trans (hb.mono (by simp))⟩
  rcases ht.out with ⟨⟨i, hi, h⟩, rfl⟩ | ⟨h, rfl⟩
  · refine Or.inr ⟨?_, rfl⟩
    rcases (show i = 0 ∨ i = 1 by omega) with rfl | rfl
    · exact Or.inl (of_decide_eq_true h)
    · exact Or.inr (of_decide_eq_true h)
  · refine Or.inl ⟨⟨Nat.le_of_not_lt (of_decide_eq_false (h 0 (by omega))), Nat.le_of_not_lt (of_decide_eq_false (h 1 (by omega)))⟩, rfl⟩
theorem row3 (ao : Option Addr) (na ca : Nat) (bo : Option Addr) (nb cb : Nat) (co : Option Addr) (nc cc : Nat) (W : World) (g : Nat) (hg : W.heap.size = g) (ha : (na : Int) ≤ 9223372036854775807) (hb : (nb : Int) ≤ 9223372036854775807) (hc : (nc : Int) ≤ 9223372036854775807) :
    Row g 3 (fun i => if i = 0 then ao else if i = 1 then bo else co) (fun i => if i = 0 then na else if i = 1 then nb else nc) (fun i => if i = 0 then ca else if i = 1 then cb else cc) (W.alloc (.cells #[.slice ao na ca, .slice bo nb cb, .slice co nc cc] 24)) := by
  subst hg
  refine ⟨by simp, fun i => ?_, fun i hi => ?_⟩
  · (dsimp only; repeat' split) <;> assumption
  · rw [World.cell?_alloc_new]
    rcases (show i = 0 ∨ i = 1 ∨ i = 2 by omega) with rfl | rfl | rfl <;> rfl
theorem few3_c (ao : Option Addr) (na ca : Nat) (bo : Option Addr) (nb cb : Nat) (co : Option Addr) (nc cc : Nat) (m : Nat) (W : World) (ha : (na : Int) ≤ 9223372036854775807) (hb : (nb : Int) ≤ 9223372036854775807) (hc : (nc : Int) ≤ 9223372036854775807) (g : Nat) (hg : W.heap.size = g) :
    Calls Try.prog 13 #[.int .i64 (m : Int), .slice (some ⟨g, 0, none⟩) 3 3] (W.alloc (.cells #[.slice ao na ca, .slice bo nb cb, .slice co nc cc] 24)) fun e w' =>
      (((na ≤ m ∧ nb ≤ m ∧ nc ≤ m) ∧ e = .returned (.bool true)) ∨ ((m < na ∨ m < nb ∨ m < nc) ∧ e = .returned (.bool false))) ∧ Below W.heap.size W w' := by
  refine (few_row m g 3 (fun i => if i = 0 then ao else if i = 1 then bo else co) (fun i => if i = 0 then na else if i = 1 then nb else nc) (fun i => if i = 0 then ca else if i = 1 then cb else cc) _ (by omega) (row3 ao na ca bo nb cb co nc cc W g hg ha hb hc)).mono ?_
  rintro e w' ⟨⟨t, rfl, ht⟩, hb⟩
  refine ⟨?_, (below_one W _).trans (hb.mono (by simp))⟩
  rcases ht.out with ⟨⟨i, hi, h⟩, rfl⟩ | ⟨h, rfl⟩
  · refine Or.inr ⟨?_, rfl⟩
    rcases (show i = 0 ∨ i = 1 ∨ i = 2 by omega) with rfl | rfl | rfl
    · exact Or.inl (of_decide_eq_true h)
    · exact Or.inr (Or.inl (of_decide_eq_true h))
    · exact Or.inr (Or.inr (of_decide_eq_true h))
  · refine Or.inl ⟨⟨Nat.le_of_not_lt (of_decide_eq_false (h 0 (by omega))), Nat.le_of_not_lt (of_decide_eq_false (h 1 (by omega))), Nat.le_of_not_lt (of_decide_eq_false (h 2 (by omega)))⟩, rfl⟩
theorem row4 (ao : Option Addr) (na ca : Nat) (bo : Option Addr) (nb cb : Nat) (co : Option Addr) (nc cc : Nat) (dq : Option Addr) (nd cd : Nat) (W : World) (g : Nat) (hg : W.heap.size = g) (ha : (na : Int) ≤ 9223372036854775807) (hb : (nb : Int) ≤ 9223372036854775807) (hc : (nc : Int) ≤ 9223372036854775807) (hd : (nd : Int) ≤ 9223372036854775807) :
    Row g 4 (fun i => if i = 0 then ao else if i = 1 then bo else if i = 2 then co else dq) (fun i => if i = 0 then na else if i = 1 then nb else if i = 2 then nc else nd) (fun i => if i = 0 then ca else if i = 1 then cb else if i = 2 then cc else cd) (W.alloc (.cells #[.slice ao na ca, .slice bo nb cb, .slice co nc cc, .slice dq nd cd] 24)) := by
  subst hg
  refine ⟨by simp, fun i => ?_, fun i hi => ?_⟩
  · (dsimp only; repeat' split) <;> assumption
  · rw [World.cell?_alloc_new]
    rcases (show i = 0 ∨ i = 1 ∨ i = 2 ∨ i = 3 by omega) with rfl | rfl | rfl | rfl <;> rfl
theorem few4_c (ao : Option Addr) (na ca : Nat) (bo : Option Addr) (nb cb : Nat) (co : Option Addr) (nc cc : Nat) (dq : Option Addr) (nd cd : Nat) (m : Nat) (W : World) (ha : (na : Int) ≤ 9223372036854775807) (hb : (nb : Int) ≤ 9223372036854775807) (hc : (nc : Int) ≤ 9223372036854775807) (hd : (nd : Int) ≤ 9223372036854775807) (g : Nat) (hg : W.heap.size = g) :
    Calls Try.prog 13 #[.int .i64 (m : Int), .slice (some ⟨g, 0, none⟩) 4 4] (W.alloc (.cells #[.slice ao na ca, .slice bo nb cb, .slice co nc cc, .slice dq nd cd] 24)) fun e w' =>
      (((na ≤ m ∧ nb ≤ m ∧ nc ≤ m ∧ nd ≤ m) ∧ e = .returned (.bool true)) ∨ ((m < na ∨ m < nb ∨ m < nc ∨ m < nd) ∧ e = .returned (.bool false))) ∧ Below W.heap.size W w' := by
  refine (few_row m g 4 (fun i => if i = 0 then ao else if i = 1 then bo else if i = 2 then co else dq) (fun i => if i = 0 then na else if i = 1 then nb else if i = 2 then nc else nd) (fun i => if i = 0 then ca else if i = 1 then cb else if i = 2 then cc else cd) _ (by omega) (row4 ao na ca bo nb cb co nc cc dq nd cd W g hg ha hb hc hd)).mono ?_
  rintro e w' ⟨⟨t, rfl, ht⟩, hb⟩
  refine ⟨?_, (below_one W _).trans (hb.mono (by simp))⟩
  rcases ht.out with ⟨⟨i, hi, h⟩, rfl⟩ | ⟨h, rfl⟩
  · refine Or.inr ⟨?_, rfl⟩
    rcases (show i = 0 ∨ i = 1 ∨ i = 2 ∨ i = 3 by omega) with rfl | rfl | rfl | rfl
    · exact Or.inl (of_decide_eq_true h)
    · exact Or.inr (Or.inl (of_decide_eq_true h))
    · exact Or.inr (Or.inr (Or.inl (of_decide_eq_true h)))
    · exact Or.inr (Or.inr (Or.inr (of_decide_eq_true h)))
  · refine Or.inl ⟨⟨Nat.le_of_not_lt (of_decide_eq_false (h 0 (by omega))), Nat.le_of_not_lt (of_decide_eq_false (h 1 (by omega))), Nat.le_of_not_lt (of_decide_eq_false (h 2 (by omega))), Nat.le_of_not_lt (of_decide_eq_false (h 3 (by omega)))⟩, rfl⟩
set_option maxRecDepth 100000 in
set_option maxHeartbeats 1000000 in
theorem same_w (ao : Option Addr) (ca : Nat) (bo : Option Addr) (cb : Nat) (la lb : List Nat)  (w : World) (ha : Sl w (.slice ao la.length ca) la) (hb : Sl w (.slice bo lb.length cb) lb)  :
    Calls Try.prog 21 #[.agg #[.slice ao la.length ca], .agg #[.slice bo lb.length cb]] w fun e w' => e = .returned (.bool (decide (la = lb))) ∧ Below w.heap.size w w' := by
  have CE := Lib.hid (fun W ha hb => Equal_c (.slice ao la.length ca) (.slice bo lb.length cb) la lb W ha hb)
  have E0 : Hid (EnvB w [] [(.slice bo lb.length cb, lb), (.slice ao la.length ca, la)] w) := Lib.hid (((EnvB.start w).num ha).num hb)
  clear ha hb
  generalize la.length = nla at *
  generalize lb.length = nlb at *
  go_enter Try.func21, Try.ntmps21
  go_wp2_with fail
  have E1 : Hid (EnvB w [(w.heap.size + 1, .slice bo nlb cb), (w.heap.size, .slice ao nla ca)] [(.slice bo nlb cb, lb), (.slice ao nla ca, la)] _) := Lib.hid (((E0.out.push (.slice ao nla ca) 24 ⟨_, _, _, rfl⟩ (w.heap.size) (by simp)).push (.slice bo nlb cb) 24 ⟨_, _, _, rfl⟩ (w.heap.size + 1) (by simp)))
  refine (CE.out _ (E1.out.sl 1 rfl) (E1.out.sl 0 rfl)).mono ?_
  rintro e w1 ⟨rfl, hb⟩
  have E2 : Hid (EnvB w [(w.heap.size + 1, .slice bo nlb cb), (w.heap.size, .slice ao nla ca)] [(.slice bo nlb cb, lb), (.slice ao nla ca, la)] _) := Lib.hid ((E1.out.below hb))
  clear E1 E0 hb
  have hfin := Lib.hid E2.out.1
  go_wp2
  go_ret
  exact ⟨rfl, hfin.out⟩
theorem digs_inj {N M : Nat} : digs N = digs M ↔ N = M := ⟨fun h => by rw [← val_digs N, ← val_digs M, h], fun h => by rw [h]⟩
theorem same_c {a b : Value} {N M : Nat} {t : Bool} {w : World} (ht : decide (N = M) = t) (ha : Nt w a N) (hb : Nt w b M) :
    Calls Try.prog 21 #[.agg #[a], .agg #[b]] w fun e w' => e = .returned (.bool t) ∧ Below w.heap.size w w' := by
  subst ht
  have e : decide (N = M) = decide (digs N = digs M) := by rw [Bool.eq_iff_iff]; simp [digs_inj]
  rw [e]
  obtain ⟨ao, ca, rfl, _⟩ := Sl.open ha
  obtain ⟨bo, cb, rfl, _⟩ := Sl.open hb
  exact same_w ao ca bo cb (digs N) (digs M) w ha hb
end Go.Proofs.Ythphmgdmhlimjaa
