/- The statements' helpers: first; the examples of the chapter. -/
import Derived.Test.YthphmgdmhlimjaaModEnv2
namespace Go.Proofs.Ythphmgdmhlimjaa
open Go.RowKit NatMath
set_option linter.unusedVariables false

set_option maxRecDepth 100000 in
set_option maxHeartbeats 1000000 in
theorem inval_t (ao : Option Addr) (ca : Nat) (la : List Nat)  (w : World) (ha : Sl w (.slice ao la.length ca) la) (hv : vld la = true) :
    Calls Try.prog 58 #[.agg #[.slice ao la.length ca]] w fun e w' => e = .returned (.bool false) ∧ Below w.heap.size w w' := by
  have CV := Lib.hid (fun W ha => @rValid_of (.slice ao la.length ca) la true W hv ha)
  clear hv
  have E0 : Hid (EnvB w [] [(.slice ao la.length ca, la)] w) := Lib.hid ((EnvB.start w).num ha)
  clear ha
  generalize la.length = n at *
  go_enter Try.func58, Try.ntmps58
  go_wp2_with fail
  have E1 : Hid (EnvB w [(w.heap.size, .slice ao n ca)] [(.slice ao n ca, la)] _) := Lib.hid ((E0.out.push (.slice ao n ca) 24 ⟨_, _, _, rfl⟩ (w.heap.size) (by simp)))
  refine (CV.out _ (E1.out.sl 0 rfl)).mono ?_
  rintro e w1 ⟨rfl, hb⟩
  have E2 : Hid (EnvB w [(w.heap.size, .slice ao n ca)] [(.slice ao n ca, la)] _) := Lib.hid ((E1.out.below hb))
  clear E1 E0 hb
  have hfin := Lib.hid E2.out.1
  go_wp2
  go_ret
  exact ⟨rfl, hfin.out⟩
set_option maxRecDepth 100000 in
set_option maxHeartbeats 1000000 in
theorem inval_f (ao : Option Addr) (ca : Nat) (la : List Nat)  (w : World) (ha : Sl w (.slice ao la.length ca) la) (hv : vld la = false) :
    Calls Try.prog 58 #[.agg #[.slice ao la.length ca]] w fun e w' => e = .returned (.bool true) ∧ Below w.heap.size w w' := by
  have CV := Lib.hid (fun W ha => @rValid_of (.slice ao la.length ca) la false W hv ha)
  clear hv
  have E0 : Hid (EnvB w [] [(.slice ao la.length ca, la)] w) := Lib.hid ((EnvB.start w).num ha)
  clear ha
  generalize la.length = n at *
  go_enter Try.func58, Try.ntmps58
  go_wp2_with fail
  have E1 : Hid (EnvB w [(w.heap.size, .slice ao n ca)] [(.slice ao n ca, la)] _) := Lib.hid ((E0.out.push (.slice ao n ca) 24 ⟨_, _, _, rfl⟩ (w.heap.size) (by simp)))
  refine (CV.out _ (E1.out.sl 0 rfl)).mono ?_
  rintro e w1 ⟨rfl, hb⟩
  have E2 : Hid (EnvB w [(w.heap.size, .slice ao n ca)] [(.slice ao n ca, la)] _) := Lib.hid ((E1.out.below hb))
  clear E1 E0 hb
  have hfin := Lib.hid E2.out.1
  go_wp2
  go_ret
  exact ⟨rfl, hfin.out⟩
theorem inval_c {v : Value} {l : List Nat} {w : World} (h : Sl w v l) :
    Calls Try.prog 58 #[.agg #[v]] w fun e w' => e = .returned (.bool (!vld l)) ∧ Below w.heap.size w w' := by
  obtain ⟨ao, ca, rfl, _⟩ := h.open
  cases hv : vld l
  · exact inval_f ao ca l w h hv
  · exact inval_t ao ca l w h hv
set_option maxHeartbeats 400000 in
theorem beyond_c (ao mo : Option Addr) (ca cm N K g : Nat) (w : World) (ha : Nt w (.slice ao (len N) ca) N) (hm : Nt w (.slice mo (len K) cm) K) (hg : g < w.heap.size) (hc : w.cell? ⟨g, 0, none⟩ = some (.slice mo (len K) cm)) :
    Calls Try.prog 59 #[.agg #[.slice ao (len N) ca], .pointer (some ⟨g, 0, none⟩)] w fun e w' => e = .returned (.bool (!decide (N < K))) ∧ Below w.heap.size w w' := by
  have hb0 := below_one w (.cells #[.slice ao (len N) ca] 24)
  have hc' : (w.alloc (.cells #[.slice ao (len N) ca] 24)).cell? ⟨g, 0, none⟩ = some (.slice mo (len K) cm) := (World.cell?_alloc_old _ _ _ (Nat.ne_of_lt hg)).trans hc
  have CL := Lib.hid (@rLess_c (.slice ao (len N) ca) (.slice mo (len K) cm) N K (decide (N < K)) _ rfl (ha.below' hb0) (hm.below' hb0))
  have HB0 := Lib.hid hb0
  clear ha hm hc hb0
  generalize decide (N < K) = t at *
  generalize len N = n at *
  generalize len K = k at *
  go_enter Try.func59, Try.ntmps59
  go_wp2_with fail
  refine CL.out.mono ?_
  rintro e w1 ⟨rfl, hb⟩
  have HB := Lib.hid (HB0.out.trans (hb.mono (by simp)))
  clear hb
  go_wp2
  go_ret
  exact ⟨rfl, HB.out⟩
/-- the code of residues ls and a modulus lm -/
def fstc (lm : List Nat) (ls : List (List Nat)) : Int := if mdl lm = true ∧ (∀ l ∈ ls, vld l = true) then (if ∀ l ∈ ls, val l < val lm then 0 else 2) else 1
theorem ask_true {k : Nat} {p : Nat → Bool} (h : Ask k p true) : ∃ i, i < k ∧ p i = true := by
  rcases h with ⟨h, _⟩ | ⟨_, h⟩
  · exact h
  · cases h
theorem ask_false {k : Nat} {p : Nat → Bool} (h : Ask k p false) : ∀ i, i < k → p i = false := by
  rcases h with ⟨_, h⟩ | ⟨h, _⟩
  · cases h
  · exact h
set_option maxHeartbeats 1000000 in
theorem first_bad (mo : Option Addr) (nm cm : Nat) (lm : List Nat) (lv : Value) (w : World) (hm : Sl w (.slice mo nm cm) lm) (h : mdl lm = false) :
    Calls Try.prog 15 #[.agg #[.slice mo nm cm], lv] w fun e w' => e = .returned (.int .i64 1) ∧ Below w.heap.size w w' := by
  have hb0 := below_one w (.cells #[.slice mo nm cm] 24)
  have CM := Lib.hid (@rMod_c (.slice mo nm cm) lm false _ h (hm.below' hb0))
  have HB0 := Lib.hid hb0
  clear hm h hb0
  go_enter Try.func15, Try.ntmps15
  go_wp2_with fail
  refine CM.out.mono ?_
  rintro e w1 ⟨rfl, hb⟩
  have HB := Lib.hid (HB0.out.trans (hb.mono (by simp)))
  clear hb
  go_wp2
  go_ret
  exact ⟨rfl, HB.out⟩
set_option maxRecDepth 100000 in
set_option maxHeartbeats 1000000 in
theorem first_row (mo : Option Addr) (nm cm : Nat) (lm : List Nat) (g k : Nat) (A : Nat → Option Addr) (L C : Nat → Nat) (ls : Nat → List Nat) (w : World) (hk : (k : Int) ≤ 1000000) (hm : Sl w (.slice mo nm cm) lm) (hR : Row g k A L C w)
    (hl : ∀ i, i < k → Sl w (.slice (A i) (L i) (C i)) (ls i)) :
    Calls Try.prog 15 #[.agg #[.slice mo nm cm], .slice (some ⟨g, 0, none⟩) k k] w fun e w' => e = .returned (.int .i64 (fstc lm ((List.range k).map ls))) ∧ Below w.heap.size w w' := by
  have hmem : ∀ P : List Nat → Prop, (∀ l ∈ (List.range k).map ls, P l) ↔ ∀ i, i < k → P (ls i) := by
    intro P
    simp only [List.mem_map, List.mem_range]
    constructor
    · exact fun h i hi => h _ ⟨i, hi, rfl⟩
    · rintro h l ⟨i, hi, rfl⟩; exact h i hi
  cases hmd : mdl lm
  · have : fstc lm ((List.range k).map ls) = 1 := if_neg (fun h => by rw [hmd] at h; cases h.1)
    rw [this]
    exact first_bad mo nm cm lm _ w hm hmd
  · have hb0 := below_one w (.cells #[.slice mo nm cm] 24)
    have CM := Lib.hid (@rMod_c (.slice mo nm cm) lm true _ hmd (hm.below' hb0))
    have HB0 := Lib.hid hb0
    have CV := Lib.hid (fun W (hB : Below w.heap.size w W) => con_val g k A L C (fun i => !vld (ls i)) W hk (hR.below hB) (fun j hj W' hB' => inval_c (((hl j hj).below' hB).below' hB')))
    have hmv : vld lm = true := by unfold mdl at hmd; simp only [Bool.and_eq_true] at hmd; exact hmd.1
    obtain ⟨K, rfl, _, hK⟩ := nt_of hm hmv
    obtain ⟨_, _, e0, _⟩ := hK.open
    simp only [Value.slice.injEq] at e0
    obtain ⟨-, rfl, -⟩ := e0
    have CL := Lib.hid (fun W (hB : Below w.heap.size w W) (hs : w.heap.size < W.heap.size) (hc : W.cell? ⟨w.heap.size, 0, none⟩ = some (.slice mo (len K) cm)) (hv : ∀ i, i < k → vld (ls i) = true) =>
      con_les w.heap.size g k A L C (fun i => !decide (val (ls i) < K)) W hk (hR.below hB) (fun j hj W' hB' => by
        have h1 := ((hl j hj).below' hB).below' hB'
        obtain ⟨N, hN, _, hNt⟩ := nt_of h1 (hv j hj)
        obtain ⟨_, _, e0, _⟩ := hNt.open
        simp only [Value.slice.injEq] at e0
        obtain ⟨_, e1, _⟩ := e0
        dsimp only
        rw [hN, val_digs]
        rw [e1] at hNt ⊢
        exact beyond_c (A j) mo (C j) cm N K w.heap.size W' hNt ((hK.below' hB).below' hB') (Nat.lt_of_lt_of_le hs hB'.size) ((hB'.cell (p := ⟨w.heap.size, 0, none⟩) hs).trans hc)))
    have F0 : Hid ((∀ i, i < k → vld (ls i) = true) → (∀ i, i < k → val (ls i) < K) → fstc (digs K) ((List.range k).map ls) = 0) := Lib.hid (fun h1 h2 => by
      unfold fstc; rw [if_pos ⟨hmd, (hmem _).2 h1⟩, if_pos ((hmem (fun l => val l < val (digs K))).2 (by rw [val_digs]; exact h2))])
    have F1 : Hid ((¬ ∀ i, i < k → vld (ls i) = true) → fstc (digs K) ((List.range k).map ls) = 1) := Lib.hid (fun h1 => if_neg (fun h => h1 ((hmem _).1 h.2)))
    have F2 : Hid ((∀ i, i < k → vld (ls i) = true) → (¬ ∀ i, i < k → val (ls i) < K) → fstc (digs K) ((List.range k).map ls) = 2) := Lib.hid (fun h1 h2 => by
      unfold fstc; rw [if_pos ⟨hmd, (hmem _).2 h1⟩, if_neg (fun h => h2 (by have := (hmem (fun l => val l < val (digs K))).1 h; rw [val_digs] at this; exact this))])
    clear hm hR hl hb0 hmem hmd hmv hK
    generalize fstc (digs K) ((List.range k).map ls) = R at *
    go_enter Try.func15, Try.ntmps15
    go_wp2_with fail
    refine CM.out.mono ?_
    rintro e w1 ⟨rfl, hb⟩
    have HB := Lib.hid (HB0.out.trans (hb.mono (by simp)))
    have hc1 := (hb.cell (p := ⟨w.heap.size, 0, none⟩) (by simp)).trans (box1a _ _ _)
    have hs1 : w.heap.size < w1.heap.size := by have := hb.size; simp at this; omega
    clear hb
    go_wp2_with fail
    refine (CV.out _ HB.out).mono ?_
    rintro e w2 ⟨⟨t, rfl, ht⟩, hb2⟩
    have HB2 := Lib.hid (HB.out.trans (hb2.mono HB.out.size))
    have hc2 := (hb2.cell (p := ⟨w.heap.size, 0, none⟩) hs1).trans hc1
    have hs2 : w.heap.size < w2.heap.size := Nat.lt_of_lt_of_le hs1 hb2.size
    clear hb2 hc1 hs1
    cases t
    · have hv : ∀ i, i < k → vld (ls i) = true := fun i hi => by have := ask_false ht.out i hi; simpa using this
      have HV := Lib.hid hv
      clear hv ht
      go_wp2_with fail
      refine (CL.out _ HB2.out hs2 hc2 HV.out).mono ?_
      rintro e w3 ⟨⟨t, rfl, ht⟩, hb3⟩
      have HB3 := Lib.hid (HB2.out.trans (hb3.mono HB2.out.size))
      clear hb3
      cases t
      · have hr : Hid (R = 0) := Lib.hid (F0.out HV.out (fun i hi => by have := ask_false ht.out i hi; simpa using this))
        go_wp2
        go_ret
        exact ⟨by have := hr.out; simp [this], HB3.out⟩
      · have hr : Hid (R = 2) := Lib.hid (F2.out HV.out (fun h => by obtain ⟨i, hi, hp⟩ := ask_true ht.out; have := h i hi; simp [this] at hp))
        go_wp2
        go_ret
        exact ⟨by have := hr.out; simp [this], HB3.out⟩
    · have hr : Hid (R = 1) := Lib.hid (F1.out (fun h => by obtain ⟨i, hi, hp⟩ := ask_true ht.out; have := h i hi; simp [this] at hp))
      go_wp2
      go_ret
      exact ⟨by have := hr.out; simp [this], HB2.out⟩

theorem len_of_sl1 {w : World} {ao : Option Addr} {n c : Nat} {l : List Nat} (h : Sl w (.slice ao n c) l) : (n : Int) ≤ 9223372036854775807 := by
  obtain ⟨_, _, e, h1, h2, _⟩ := h
  simp only [Value.slice.injEq] at e
  omega
theorem first1_c (ao : Option Addr) (na ca : Nat) (la : List Nat) (mo : Option Addr) (nm cm : Nat) (lm : List Nat) (r : Int) (W : World) (hr : fstc lm [la] = r) (hm : Sl W (.slice mo nm cm) lm) (ha : Sl W (.slice ao na ca) la) (g : Nat) (hg : W.heap.size = g) :
    Calls Try.prog 15 #[.agg #[.slice mo nm cm], .slice (some ⟨g, 0, none⟩) 1 1] (W.alloc (.cells #[.slice ao na ca] 24)) fun e w' => e = .returned (.int .i64 r) ∧ Below W.heap.size W w' := by
  subst hr
  have hb0 := below_one W (.cells #[.slice ao na ca] 24)
  refine (first_row mo nm cm lm g 1 (fun i => ao) (fun i => na) (fun i => ca) (fun i => la) _ (by omega) (hm.below' hb0) (row1 ao na ca W g hg (len_of_sl1 ha)) (fun i hi => ?_)).mono ?_
  · rcases (show i = 0 by omega) with rfl
    exact ha.below' hb0
  · rintro e w' ⟨rfl, hb⟩
    exact ⟨rfl, hb0.trans (hb.mono (by simp))⟩

theorem first2_c (ao : Option Addr) (na ca : Nat) (la : List Nat) (bo : Option Addr) (nb cb : Nat) (lb : List Nat) (mo : Option Addr) (nm cm : Nat) (lm : List Nat) (r : Int) (W : World) (hr : fstc lm [la, lb] = r) (hm : Sl W (.slice mo nm cm) lm) (ha : Sl W (.slice ao na ca) la) (hb : Sl W (.slice bo nb cb) lb) (g : Nat) (hg : W.heap.size = g) :
    Calls Try.prog 15 #[.agg #[.slice mo nm cm], .slice (some ⟨g, 0, none⟩) 2 2] (W.alloc (.cells #[.slice ao na ca, .slice bo nb cb] 24)) fun e w' => e = .returned (.int .i64 r) ∧ Below W.heap.size W w' := by
  subst hr
  have hb0 := below_one W (.cells #[.slice ao na ca, .slice bo nb cb] 24)
  refine (first_row mo nm cm lm g 2 (fun i => if i = 0 then ao else bo) (fun i => if i = 0 then na else nb) (fun i => if i = 0 then ca else cb) (fun i => if i = 0 then la else lb) _ (by omega) (hm.below' hb0) (row2 ao na ca bo nb cb W g hg (len_of_sl1 ha) (len_of_sl1 hb)) (fun i hi => ?_)).mono ?_
  · rcases (show i = 0 ∨ i = 1 by omega) with rfl | rfl
    · exact ha.below' hb0
    · exact hb.below' hb0
  · rintro e w' ⟨rfl, hb⟩
    exact ⟨rfl, hb0.trans (hb.mono (by simp))⟩

theorem first3_c (ao : Option Addr) (na ca : Nat) (la : List Nat) (bo : Option Addr) (nb cb : Nat) (lb : List Nat) (co : Option Addr) (nc cc : Nat) (lc : List Nat) (mo : Option Addr) (nm cm : Nat) (lm : List Nat) (r : Int) (W : World) (hr : fstc lm [la, lb, lc] = r) (hm : Sl W (.slice mo nm cm) lm) (ha : Sl W (.slice ao na ca) la) (hb : Sl W (.slice bo nb cb) lb) (hc : Sl W (.slice co nc cc) lc) (g : Nat) (hg : W.heap.size = g) :
    Calls Try.prog 15 #[.agg #[.slice mo nm cm], .slice (some ⟨g, 0, none⟩) 3 3] (W.alloc (.cells #[.slice ao na ca, .slice bo nb cb, .slice co nc cc] 24)) fun e w' => e = .returned (.int .i64 r) ∧ Below W.heap.size W w' := by
  subst hr
  have hb0 := below_one W (.cells #[.slice ao na ca, .slice bo nb cb, .slice co nc cc] 24)
  refine (first_row mo nm cm lm g 3 (fun i => if i = 0 then ao else if i = 1 then bo else co) (fun i => if i = 0 then na else if i = 1 then nb else nc) (fun i => if i = 0 then ca else if i = 1 then cb else cc) (fun i => if i = 0 then la else if i = 1 then lb else lc) _ (by omega) (hm.below' hb0) (row3 ao na ca bo nb cb co nc cc W g hg (len_of_sl1 ha) (len_of_sl1 hb) (len_of_sl1 hc)) (fun i hi => ?_)).mono ?_
  · rcases (show i = 0 ∨ i = 1 ∨ i = 2 by omega) with rfl | rfl | rfl
    · exact ha.below' hb0
    · exact hb.below' hb0
    · exact hc.below' hb0
  · rintro e w' ⟨rfl, hb⟩
    exact ⟨rfl, hb0.trans (hb.mono (by simp))⟩

set_option maxHeartbeats 1000000 in
theorem idx_nil (fv : Value) (w : World) :
    Calls Try.prog 81 #[.slice none 0 0, fv] w fun e w' => e = .returned (.int .i64 (-1)) ∧ Below w.heap.size w w' := by
  go_enter Try.func81, Try.ntmps81
  go_wp2
  go_loopw [8] (fun s8 wr => s8 = .int .i64 0 ∧ Hid (Below w.heap.size w wr)) (fun s8 _ => 0)
  case atStart => exact ⟨rfl, Lib.hid (Below.refl _ _)⟩
  case round =>
    obtain ⟨rfl, hB⟩ := hrel
    go_wp2
    go_ret
    exact ⟨rfl, hB.out⟩
theorem con_nil (fv : Value) (w : World) :
    Calls Try.prog 47 #[.slice none 0 0, fv] w fun e w' => e = .returned (.bool false) ∧ Below w.heap.size w w' := by
  have ci := Lib.hid (idx_nil fv w)
  go_enter Try.func47, Try.ntmps47
  go_wp2_with fail
  refine ci.out.mono ?_
  rintro e w1 ⟨rfl, hb⟩
  have HB := Lib.hid hb
  clear hb
  go_wp2
  go_ret
  exact ⟨rfl, HB.out⟩
set_option maxHeartbeats 1000000 in
theorem first0_c (mo : Option Addr) (nm cm : Nat) (lm : List Nat) (r : Int) (w : World) (hr : fstc lm [] = r) (hm : Sl w (.slice mo nm cm) lm) :
    Calls Try.prog 15 #[.agg #[.slice mo nm cm], .slice none 0 0] w fun e w' => e = .returned (.int .i64 r) ∧ Below w.heap.size w w' := by
  subst hr
  cases hmd : mdl lm
  · have : fstc lm [] = 1 := if_neg (fun h => by rw [hmd] at h; cases h.1)
    rw [this]
    exact first_bad mo nm cm lm _ w hm hmd
  · have : fstc lm [] = 0 := by unfold fstc; rw [if_pos ⟨hmd, by simp⟩, if_pos (by simp)]
    rw [this]
    have hb0 := below_one w (.cells #[.slice mo nm cm] 24)
    have CM := Lib.hid (@rMod_c (.slice mo nm cm) lm true _ hmd (hm.below' hb0))
    have HB0 := Lib.hid hb0
    clear hm hmd hb0 this
    go_enter Try.func15, Try.ntmps15
    go_wp2_with fail
    refine CM.out.mono ?_
    rintro e w1 ⟨rfl, hb⟩
    have HB := Lib.hid (HB0.out.trans (hb.mono (by simp)))
    clear hb
    go_wp2_with fail
    refine (con_nil _ _).mono ?_
    rintro e w2 ⟨rfl, hb2⟩
    have HB2 := Lib.hid (HB.out.trans (hb2.mono HB.out.size))
    clear hb2
    go_wp2_with fail
    refine (con_nil _ _).mono ?_
    rintro e w3 ⟨rfl, hb3⟩
    have HB3 := Lib.hid (HB2.out.trans (hb3.mono HB2.out.size))
    clear hb3
    go_wp2
    go_ret
    exact ⟨rfl, HB3.out⟩
theorem equalF {a b : Value} {N : Nat} {w : World} (ha : Nt w a N) (hb : Nt w b N) :
    Calls Try.prog 33 #[a, b] w fun e w' => e = .returned (.bool true) ∧ Below w.heap.size w w' := by
  have := Equal_c a b (digs N) (digs N) w ha hb
  rwa [decide_eq_true rfl] at this
theorem inv_uniq {a m x : Nat} (hm : m ≠ 0) (hg : Nat.gcd a m = 1) (hx : x < m) (h : a * x % m = 1 % m) : invV a m = x := by
  have h1 := invV_mul hm hg
  have h2 := @invV_lt a m hm
  have h3 : a * invV a m % m = a * x % m := by rw [h1, h]
  have hc : Nat.Coprime m a := by unfold Nat.Coprime; rw [Nat.gcd_comm]; exact hg
  rcases Nat.lt_trichotomy (invV a m) x with hl | hl | hl
  · have h4 : m ∣ a * (x - invV a m) := by rw [Nat.mul_sub]; exact Nat.dvd_of_mod_eq_zero (Nat.sub_mod_eq_zero_of_mod_eq h3.symm)
    have := Nat.le_of_dvd (by omega) (hc.dvd_of_dvd_mul_left h4)
    omega
  · exact hl
  · have h4 : m ∣ a * (invV a m - x) := by rw [Nat.mul_sub]; exact Nat.dvd_of_mod_eq_zero (Nat.sub_mod_eq_zero_of_mod_eq h3)
    have := Nat.le_of_dvd (by omega) (hc.dvd_of_dvd_mul_left h4)
    omega

theorem inv2_v : invV 2 18446744073709551629 = 9223372036854775815 := inv_uniq (by decide) (by decide) (by decide) (by decide)
theorem inv2_g : decide (invG 2 18446744073709551629 = 1) = true := by rw [invG_eq (by decide)]; decide
theorem crt2 : crtV 2 3 3 5 = 8 := by
  have h : invV 3 5 = 2 := inv_uniq (by decide) (by decide) (by decide) (by decide)
  unfold crtV; rw [show 3 % 5 = 3 from rfl, h]; rfl
theorem crt2_g : decide (invG (3 % 5) 5 = 1) = true := by rw [invG_eq (by decide)]; decide
theorem len3 : len 18446744073709551629 = 3 := by rw [show len 18446744073709551629 = (digs 18446744073709551629).length from rfl, digs_of [13, 0, 1] 18446744073709551629 (by decide) (by decide) (by decide)]; rfl
theorem len_small {n : Nat} (h : n < 4294967296) : len n ≤ 1 := len_le_iff.2 (by rw [Bp_one]; exact h)

theorem awake_inv {a b : Value} {w : World} (ha : Nt w a 2) (hb : Nt w b 18446744073709551629) :
    Calls Try.prog 30 #[.agg #[a], .agg #[b]] w fun e w' => ResN 9223372036854775815 0 e w' ∧ Below w.heap.size w w' := by
  obtain ⟨ao, ca, rfl, _⟩ := ha.open
  obtain ⟨bo, cb, rfl, _⟩ := hb.open
  exact Inverse_t ao ca bo cb 2 18446744073709551629 9223372036854775815 w ha hb inv2_v inv2_g (by decide) (by rw [len3]; decide)
theorem awake_crt {a b c d : Value} {w : World} (ha : Nt w a 2) (hb : Nt w b 3) (hc : Nt w c 3) (hd : Nt w d 5) :
    Calls Try.prog 14 #[.agg #[a], .agg #[b], .agg #[c], .agg #[d]] w fun e w' => ResN 8 0 e w' ∧ Below w.heap.size w w' := by
  obtain ⟨ao, ca, rfl, _⟩ := ha.open
  obtain ⟨bo, cb, rfl, _⟩ := hb.open
  obtain ⟨co, cc, rfl, _⟩ := hc.open
  obtain ⟨dq, cd, rfl, _⟩ := hd.open
  have := Crt_w ao ca bo cb co cc dq cd 2 3 3 5 w ha hb hc hd (by decide) (by decide) (Nat.le_trans (len_small (by decide)) (by decide)) (Nat.le_trans (len_small (by decide)) (by decide)) crt2_g (Nat.le_trans (len_small (by decide)) (by decide))
  rw [crt2] at this
  exact this

set_option maxRecDepth 100000 in
set_option maxHeartbeats 1000000 in
theorem awake_w (m t u y z : Nat) (w : World) (d1 : digs m = [13, 0, 1]) (d2 : digs t = [0, 1]) (d3 : digs u = [0, 0, 1]) (d4 : digs y = [7, 2147483648]) (d5 : digs z = [8])
    (cm : ∀ (a b c : Value) W, Nt W a t → Nt W b t → Nt W c m → Calls Try.prog 28 #[.agg #[a], .agg #[b], .agg #[c]] W fun e w' => ResN u 0 e w' ∧ Below W.heap.size W w')
    (ci : ∀ (a b : Value) W, Nt W a 2 → Nt W b m → Calls Try.prog 30 #[.agg #[a], .agg #[b]] W fun e w' => ResN y 0 e w' ∧ Below W.heap.size W w')
    (cc : ∀ (a b c d : Value) W, Nt W a 2 → Nt W b 3 → Nt W c 3 → Nt W d 5 → Calls Try.prog 14 #[.agg #[a], .agg #[b], .agg #[c], .agg #[d]] W fun e w' => ResN z 0 e w' ∧ Below W.heap.size W w') :
    Calls Try.prog 12 #[] w fun e w' => e = .returned (.bool true) ∧ Below w.heap.size w w' := by
  have D1 := Lib.hid d1
  have D2 := Lib.hid d2
  have D3 := Lib.hid d3
  have D4 := Lib.hid d4
  have D5 := Lib.hid d5
  have CM := Lib.hid cm
  have CI := Lib.hid ci
  have CC := Lib.hid cc
  clear d1 d2 d3 d4 d5 cm ci cc
  go_enter Try.func12, Try.ntmps12
  go_wp2_with fail
  have E1 : Hid (EnvB w [(w.heap.size + 1, .slice (some ⟨w.heap.size, 0, none⟩) 3 3)] [(.slice (some ⟨w.heap.size + 1 + 1 + 1, 0, none⟩) 2 2, digs t), (.slice (some ⟨w.heap.size + 1 + 1, 0, none⟩) 2 2, digs t), (.slice (some ⟨w.heap.size, 0, none⟩) 3 3, digs m)] _) := Lib.hid ((((((EnvB.start w).words #[.int .u32 13, .int .u32 0, .int .u32 1] [13, 0, 1] m rfl (D1.out) (w.heap.size) (by simp)).push (.slice (some ⟨w.heap.size, 0, none⟩) 3 3) 24 ⟨_, _, _, rfl⟩ (w.heap.size + 1) (by simp)).words #[.int .u32 0, .int .u32 1] [0, 1] t rfl (D2.out) (w.heap.size + 1 + 1) (by simp)).words #[.int .u32 0, .int .u32 1] [0, 1] t rfl (D2.out) (w.heap.size + 1 + 1 + 1) (by simp)))
  refine (CM.out _ _ _ _ (E1.out.nt 1 rfl) (E1.out.nt 0 rfl) (E1.out.nt 2 rfl)).mono ?_
  rintro e w1 ⟨⟨xa, xk, rfl, hx⟩, hb⟩
  have E2 : Hid (EnvB w [(w.heap.size + 1, .slice (some ⟨w.heap.size, 0, none⟩) 3 3)] [(.slice xa (len u) xk, digs u), (.slice (some ⟨w.heap.size + 1 + 1 + 1, 0, none⟩) 2 2, digs t), (.slice (some ⟨w.heap.size + 1 + 1, 0, none⟩) 2 2, digs t), (.slice (some ⟨w.heap.size, 0, none⟩) 3 3, digs m)] _) := Lib.hid (((E1.out.below hb).numN (hx.out : Nt _ _ u)))
  clear E1 hb hx
  go_wp2_with fail
  have E3 : Hid (EnvB w [(w1.heap.size, .slice xa (len u) xk), (w.heap.size + 1, .slice (some ⟨w.heap.size, 0, none⟩) 3 3)] [(.slice xa (len u) xk, digs u), (.slice (some ⟨w.heap.size + 1 + 1 + 1, 0, none⟩) 2 2, digs t), (.slice (some ⟨w.heap.size + 1 + 1, 0, none⟩) 2 2, digs t), (.slice (some ⟨w.heap.size, 0, none⟩) 3 3, digs m)] (w1.alloc (.cells #[.slice xa (len u) xk] 24))) := Lib.hid ((E2.out.push (.slice xa (len u) xk) 24 ⟨_, _, _, rfl⟩ (w1.heap.size) (by simp)))
  clear E2
  generalize w1.alloc (.cells #[.slice xa (len u) xk] 24) = w2 at *
  have bx0 := Lib.hid (E3.out.box 1 rfl)
  refine' wp_region_phaseU (by kernel_rfl) [0, 1, 2, 3, 4, 6] 5 (by kernel_rfl) #[true, true, true, true, true, false, true, false, false] (by kernel_rfl) 3 (by kernel_rfl) #[true, true, true, true, true, true, true, false, false] (by kernel_rfl) 2 (by kernel_rfl) [PNum (2), PEq (.agg #[.slice (some ⟨w.heap.size, 0, none⟩) 3 3]), PTup (y) (.int .i64 0), PTup (y) (.int .i64 0), PNum (y), PEq (.int .i64 0), PBox w2.heap.size, Fact.none, Fact.none] (List.forall_mem_cons.2 ⟨PNum.st _, List.forall_mem_cons.2 ⟨PEq.st _, List.forall_mem_cons.2 ⟨PTup.st _ _, List.forall_mem_cons.2 ⟨PTup.st _ _, List.forall_mem_cons.2 ⟨PNum.st _, List.forall_mem_cons.2 ⟨PEq.st _, List.forall_mem_cons.2 ⟨PBox.st _, List.forall_mem_cons.2 ⟨Fact.none_st, List.forall_mem_cons.2 ⟨Fact.none_st, List.forall_mem_nil _⟩⟩⟩⟩⟩⟩⟩⟩⟩) _ ?hFr1 ?stepr1 ?later1 ?doner1
  case hFr1 => intro x; simp only [frameL, Act.put, List.setIfInBounds_toArray, List.set_cons_zero, List.set_cons_succ, Nat.zero_add, Nat.reduceAdd]; exact rfl
  case stepr1 =>
    refine List.forall_mem_cons.2 ⟨?_, ?_⟩
    · intro xv bv ev WW hB hdp
      refine op_of rfl ?_
      obtain ⟨pa, pk, ed3, hp⟩ := (show (PTup (y) (.int .i64 0)) (xv 3) (bv 3) (ev 3) WW from hdp 3 (by kernel_rfl))
      clear hdp
      intro KK hKK
      go_simp
      exact act_eq (hKK.out _ _ (Below.refl _ _) rfl) (by first | rfl | simp [upd, ed3])
    refine List.forall_mem_cons.2 ⟨?_, ?_⟩
    · intro xv bv ev WW hB hdp
      refine op_of rfl ?_
      clear hdp
      intro KK hKK
      go_simp
      refine (rOf_c 2 _ (by decide)).mono ?_
      rintro e WW' ⟨⟨qa, qk, rfl, hq⟩, hb⟩
      (try dsimp only)
      (try simp only [Act.put, List.setIfInBounds_toArray, List.set_cons_zero, List.set_cons_succ])
      exact act_eq (hKK.out _ _ hb ⟨_, _, rfl, hq⟩) (by first | rfl | simp [upd])
    refine List.forall_mem_cons.2 ⟨?_, ?_⟩
    · intro xv bv ev WW hB hdp
      refine op_of rfl ?_
      clear hdp
      intro KK hKK
      obtain ⟨z, -, -, -, -⟩ := bx0.out.below hB
      go_simp
      exact act_eq (hKK.out (.agg #[.slice (some ⟨w.heap.size, 0, none⟩) 3 3]) _ (Below.refl _ _) rfl) (by first | rfl | simp [upd])
    refine List.forall_mem_cons.2 ⟨?_, ?_⟩
    · intro xv bv ev WW hB hdp
      refine op_of rfl ?_
      obtain ⟨qa, qk, ed0, hq⟩ := (show (PNum (2)) (xv 0) (bv 0) (ev 0) WW from hdp 0 (by kernel_rfl))
      have ed1 : xv 1 = .agg #[.slice (some ⟨w.heap.size, 0, none⟩) 3 3] := hdp 1 (by kernel_rfl)
      clear hdp
      intro KK hKK
      go_simp
      refine (CI.out _ _ _ hq.out ((E3.out.below hB).nt 3 rfl)).mono ?_
      rintro e WW' ⟨⟨pa, pk, rfl, hp⟩, hb⟩
      (try dsimp only)
      (try simp only [Act.put, List.setIfInBounds_toArray, List.set_cons_zero, List.set_cons_succ])
      exact act_eq (hKK.out _ _ hb ⟨_, _, rfl, hp⟩) (by first | rfl | simp [upd, ed0, ed1])
    refine List.forall_mem_cons.2 ⟨?_, ?_⟩
    · intro xv bv ev WW hB hdp
      refine op_of rfl ?_
      obtain ⟨pa, pk, ed2, hp⟩ := (show (PTup (y) (.int .i64 0)) (xv 2) (bv 2) (ev 2) WW from hdp 2 (by kernel_rfl))
      clear hdp
      intro KK hKK
      go_simp
      exact act_eq (hKK.out _ _ (Below.refl _ _) ⟨_, _, rfl, hp⟩) (by first | rfl | simp [upd, ed2])
    refine List.forall_mem_cons.2 ⟨?_, ?_⟩
    · intro xv bv ev WW hB hdp
      refine op_of rfl ?_
      obtain ⟨pa, pk, ed3, hp⟩ := (show (PTup (y) (.int .i64 0)) (xv 3) (bv 3) (ev 3) WW from hdp 3 (by kernel_rfl))
      clear hdp
      intro KK hKK
      go_simp
      exact act_eq (hKK.out _ _ (Below.refl _ _) ⟨_, _, rfl, hp⟩) (by first | rfl | simp [upd, ed3])
    refine List.forall_mem_cons.2 ⟨?_, ?_⟩
    · intro xv bv ev WW hB hdp
      refine op_of rfl ?_
      clear hdp
      intro KK hKK
      go_simp
      exact act_eq (hKK.out (.pointer (some ⟨WW.heap.size, 0, none⟩)) _ (below_one _ _) (PBox.mk hB rfl _)) (by first | rfl | simp [upd])
    exact List.forall_mem_nil _
  case later1 =>
    intro xv bv ev WW hB hR
    obtain ⟨pa, pk, ed3, hp⟩ := (show (PTup (y) (.int .i64 0)) (xv 3) (bv 3) (ev 3) WW from hR 3 (by kernel_rfl))
    refine ⟨.int .i64 0, rfl, fun hw => ?_⟩
    refine takeP (i := 5) (some 24) (v := .int .i64 0) rfl rfl (by kernel_rfl) (by kernel_rfl) (by kernel_rfl) (fun _ _ _ h => h) (by rfl) ?_ ?_
    · (intro wS; go_simp; try with_reducible rfl)
    rw [show (#[true, true, true, true, true, false, true, false, false] : Array Bool).setIfInBounds 5 true = #[true, true, true, true, true, true, true, false, false] from by kernel_rfl]
    exact hw
  intro xv bv ev w3 hB hR hO
  obtain ⟨qa, qk, ed0, hq⟩ := (show (PNum (2)) (xv 0) (bv 0) (ev 0) w3 from hR 0 (by kernel_rfl))
  have ed1 : xv 1 = .agg #[.slice (some ⟨w.heap.size, 0, none⟩) 3 3] := hR 1 (by kernel_rfl)
  obtain ⟨pa, pk, ed4, hp⟩ := (show (PNum (y)) (xv 4) (bv 4) (ev 4) w3 from hR 4 (by kernel_rfl))
  have ed5 : xv 5 = .int .i64 0 := hR 5 (by kernel_rfl)
  obtain ⟨gr1_6, ed6, hg6, hb6, he6, hc6, hf6, hs6⟩ := (show (PBox w2.heap.size) (xv 6) (bv 6) (ev 6) w3 from hR 6 (by kernel_rfl))
  simp only [ed0, ed1, ed4, ed5, ed6]
  have E4 : Hid (EnvB w [(gr1_6, .slice none 0 0), (w1.heap.size, .slice xa (len u) xk), (w.heap.size + 1, .slice (some ⟨w.heap.size, 0, none⟩) 3 3)] [(.slice pa (len y) pk, digs y), (.slice qa (len 2) qk, digs 2), (.slice xa (len u) xk, digs u), (.slice (some ⟨w.heap.size + 1 + 1 + 1, 0, none⟩) 2 2, digs t), (.slice (some ⟨w.heap.size + 1 + 1, 0, none⟩) 2 2, digs t), (.slice (some ⟨w.heap.size, 0, none⟩) 3 3, digs m)] _) := Lib.hid (((((E3.out.below hB).add gr1_6 (.slice none 0 0) ⟨hc6, hf6, hs6, Nat.le_trans E3.out.size hg6, ⟨_, _, _, rfl⟩⟩ (fun p hp => by have := E3.out.old p hp; omega)).numN (hq.out : Nt _ _ (2))).numN (hp.out : Nt _ _ (y))))
  clear E3 hB hR hO bx0 ed0 ed1 ed4 ed5 ed6 hq hp hg6 hb6 he6 hc6 hf6 hs6
  obtain ⟨p1, f1, -, -, -⟩ := E4.out.box 0 rfl
  refine wpAny_next (i := 7) (by kernel_rfl) rfl (fun KK hKK => ?_)
  go_simp
  have E5 : Hid (EnvB w [(gr1_6, .slice pa (len y) pk), (w1.heap.size, .slice xa (len u) xk), (w.heap.size + 1, .slice (some ⟨w.heap.size, 0, none⟩) 3 3)] [(.slice pa (len y) pk, digs y), (.slice qa (len 2) qk, digs 2), (.slice xa (len u) xk, digs u), (.slice (some ⟨w.heap.size + 1 + 1 + 1, 0, none⟩) 2 2, digs t), (.slice (some ⟨w.heap.size + 1 + 1, 0, none⟩) 2 2, digs t), (.slice (some ⟨w.heap.size, 0, none⟩) 3 3, digs m)] _) := Lib.hid ((E4.out.set 0 (.slice pa (len y) pk) rfl ⟨_, _, _, rfl⟩))
  refine hKK.out _ _ ?_
  clear hKK KK
  refine wpAny_next (i := 8) (by kernel_rfl) rfl (fun KK hKK => ?_)
  go_simp
  refine hKK.out _ _ ?_
  clear hKK KK
  refine wpAny_done (by kernel_rfl) ?_ _
  go_wp2_with fail
  refine (rOf_c 2 _ (by decide)).mono ?_
  rintro e w4 ⟨⟨ia, ik, rfl, hi⟩, hb⟩
  have E6 : Hid (EnvB w [(gr1_6, .slice pa (len y) pk), (w1.heap.size, .slice xa (len u) xk), (w.heap.size + 1, .slice (some ⟨w.heap.size, 0, none⟩) 3 3)] [(.slice ia (len 2) ik, digs 2), (.slice pa (len y) pk, digs y), (.slice qa (len 2) qk, digs 2), (.slice xa (len u) xk, digs u), (.slice (some ⟨w.heap.size + 1 + 1 + 1, 0, none⟩) 2 2, digs t), (.slice (some ⟨w.heap.size + 1 + 1, 0, none⟩) 2 2, digs t), (.slice (some ⟨w.heap.size, 0, none⟩) 3 3, digs m)] _) := Lib.hid (((E5.out.below hb).numN (hi.out : Nt _ _ 2)))
  clear p1 f1 E5 E4 hb hi
  go_wp2_with fail
  refine (rOf_c 3 _ (by decide)).mono ?_
  rintro e w5 ⟨⟨ja, jk, rfl, hj⟩, hb⟩
  have E7 : Hid (EnvB w [(gr1_6, .slice pa (len y) pk), (w1.heap.size, .slice xa (len u) xk), (w.heap.size + 1, .slice (some ⟨w.heap.size, 0, none⟩) 3 3)] [(.slice ja (len 3) jk, digs 3), (.slice ia (len 2) ik, digs 2), (.slice pa (len y) pk, digs y), (.slice qa (len 2) qk, digs 2), (.slice xa (len u) xk, digs u), (.slice (some ⟨w.heap.size + 1 + 1 + 1, 0, none⟩) 2 2, digs t), (.slice (some ⟨w.heap.size + 1 + 1, 0, none⟩) 2 2, digs t), (.slice (some ⟨w.heap.size, 0, none⟩) 3 3, digs m)] _) := Lib.hid (((E6.out.below hb).numN (hj.out : Nt _ _ 3)))
  clear E6 hb hj
  go_wp2_with fail
  refine (rOf_c 3 _ (by decide)).mono ?_
  rintro e w6 ⟨⟨ka, kk, rfl, hk⟩, hb⟩
  have E8 : Hid (EnvB w [(gr1_6, .slice pa (len y) pk), (w1.heap.size, .slice xa (len u) xk), (w.heap.size + 1, .slice (some ⟨w.heap.size, 0, none⟩) 3 3)] [(.slice ka (len 3) kk, digs 3), (.slice ja (len 3) jk, digs 3), (.slice ia (len 2) ik, digs 2), (.slice pa (len y) pk, digs y), (.slice qa (len 2) qk, digs 2), (.slice xa (len u) xk, digs u), (.slice (some ⟨w.heap.size + 1 + 1 + 1, 0, none⟩) 2 2, digs t), (.slice (some ⟨w.heap.size + 1 + 1, 0, none⟩) 2 2, digs t), (.slice (some ⟨w.heap.size, 0, none⟩) 3 3, digs m)] _) := Lib.hid (((E7.out.below hb).numN (hk.out : Nt _ _ 3)))
  clear E7 hb hk
  go_wp2_with fail
  refine (rOf_c 5 _ (by decide)).mono ?_
  rintro e w7 ⟨⟨la, lk, rfl, hl⟩, hb⟩
  have E9 : Hid (EnvB w [(gr1_6, .slice pa (len y) pk), (w1.heap.size, .slice xa (len u) xk), (w.heap.size + 1, .slice (some ⟨w.heap.size, 0, none⟩) 3 3)] [(.slice la (len 5) lk, digs 5), (.slice ka (len 3) kk, digs 3), (.slice ja (len 3) jk, digs 3), (.slice ia (len 2) ik, digs 2), (.slice pa (len y) pk, digs y), (.slice qa (len 2) qk, digs 2), (.slice xa (len u) xk, digs u), (.slice (some ⟨w.heap.size + 1 + 1 + 1, 0, none⟩) 2 2, digs t), (.slice (some ⟨w.heap.size + 1 + 1, 0, none⟩) 2 2, digs t), (.slice (some ⟨w.heap.size, 0, none⟩) 3 3, digs m)] _) := Lib.hid (((E8.out.below hb).numN (hl.out : Nt _ _ 5)))
  clear E8 hb hl
  go_wp2_with fail
  refine (CC.out _ _ _ _ _ (E9.out.nt 3 rfl) (E9.out.nt 2 rfl) (E9.out.nt 1 rfl) (E9.out.nt 0 rfl)).mono ?_
  rintro e w8 ⟨⟨sa, sk, rfl, hs⟩, hb⟩
  have E10 : Hid (EnvB w [(gr1_6, .slice pa (len y) pk), (w1.heap.size, .slice xa (len u) xk), (w.heap.size + 1, .slice (some ⟨w.heap.size, 0, none⟩) 3 3)] [(.slice sa (len z) sk, digs z), (.slice la (len 5) lk, digs 5), (.slice ka (len 3) kk, digs 3), (.slice ja (len 3) jk, digs 3), (.slice ia (len 2) ik, digs 2), (.slice pa (len y) pk, digs y), (.slice qa (len 2) qk, digs 2), (.slice xa (len u) xk, digs u), (.slice (some ⟨w.heap.size + 1 + 1 + 1, 0, none⟩) 2 2, digs t), (.slice (some ⟨w.heap.size + 1 + 1, 0, none⟩) 2 2, digs t), (.slice (some ⟨w.heap.size, 0, none⟩) 3 3, digs m)] _) := Lib.hid (((E9.out.below hb).numN (hs.out : Nt _ _ z)))
  clear E9 hb hs
  have E11 : Hid (EnvB w [(w8.heap.size, .slice sa (len z) sk), (gr1_6, .slice pa (len y) pk), (w1.heap.size, .slice xa (len u) xk), (w.heap.size + 1, .slice (some ⟨w.heap.size, 0, none⟩) 3 3)] [(.slice sa (len z) sk, digs z), (.slice la (len 5) lk, digs 5), (.slice ka (len 3) kk, digs 3), (.slice ja (len 3) jk, digs 3), (.slice ia (len 2) ik, digs 2), (.slice pa (len y) pk, digs y), (.slice qa (len 2) qk, digs 2), (.slice xa (len u) xk, digs u), (.slice (some ⟨w.heap.size + 1 + 1 + 1, 0, none⟩) 2 2, digs t), (.slice (some ⟨w.heap.size + 1 + 1, 0, none⟩) 2 2, digs t), (.slice (some ⟨w.heap.size, 0, none⟩) 3 3, digs m)] _) := Lib.hid ((E10.out.push (.slice sa (len z) sk) 24 ⟨_, _, _, rfl⟩ (w8.heap.size) (by simp)))
  obtain ⟨p2, f2, -, -, -⟩ := E11.out.box 2 rfl
  go_wp2_with fail
  have E12 : Hid (EnvB w [(w8.heap.size, .slice sa (len z) sk), (gr1_6, .slice pa (len y) pk), (w1.heap.size, .slice xa (len u) xk), (w.heap.size + 1, .slice (some ⟨w.heap.size, 0, none⟩) 3 3)] [(.slice (some ⟨w8.heap.size + 1, 0, none⟩) 3 3, digs u), (.slice sa (len z) sk, digs z), (.slice la (len 5) lk, digs 5), (.slice ka (len 3) kk, digs 3), (.slice ja (len 3) jk, digs 3), (.slice ia (len 2) ik, digs 2), (.slice pa (len y) pk, digs y), (.slice qa (len 2) qk, digs 2), (.slice xa (len u) xk, digs u), (.slice (some ⟨w.heap.size + 1 + 1 + 1, 0, none⟩) 2 2, digs t), (.slice (some ⟨w.heap.size + 1 + 1, 0, none⟩) 2 2, digs t), (.slice (some ⟨w.heap.size, 0, none⟩) 3 3, digs m)] _) := Lib.hid ((E11.out.words #[.int .u32 0, .int .u32 0, .int .u32 1] [0, 0, 1] u rfl (D3.out) (w8.heap.size + 1) (by simp)))
  refine (equalF (E12.out.nt 8 rfl) (E12.out.nt 0 rfl)).mono ?_
  rintro e w9 ⟨rfl, hb⟩
  have E13 : Hid (EnvB w [(w8.heap.size, .slice sa (len z) sk), (gr1_6, .slice pa (len y) pk), (w1.heap.size, .slice xa (len u) xk), (w.heap.size + 1, .slice (some ⟨w.heap.size, 0, none⟩) 3 3)] [(.slice (some ⟨w8.heap.size + 1, 0, none⟩) 3 3, digs u), (.slice sa (len z) sk, digs z), (.slice la (len 5) lk, digs 5), (.slice ka (len 3) kk, digs 3), (.slice ja (len 3) jk, digs 3), (.slice ia (len 2) ik, digs 2), (.slice pa (len y) pk, digs y), (.slice qa (len 2) qk, digs 2), (.slice xa (len u) xk, digs u), (.slice (some ⟨w.heap.size + 1 + 1 + 1, 0, none⟩) 2 2, digs t), (.slice (some ⟨w.heap.size + 1 + 1, 0, none⟩) 2 2, digs t), (.slice (some ⟨w.heap.size, 0, none⟩) 3 3, digs m)] _) := Lib.hid ((E12.out.below hb))
  clear p2 f2 E12 E10 E11 hb
  obtain ⟨p3, f3, -, -, -⟩ := E13.out.box 1 rfl
  go_wp2_with fail
  have E14 : Hid (EnvB w [(w8.heap.size, .slice sa (len z) sk), (gr1_6, .slice pa (len y) pk), (w1.heap.size, .slice xa (len u) xk), (w.heap.size + 1, .slice (some ⟨w.heap.size, 0, none⟩) 3 3)] [(.slice (some ⟨w9.heap.size, 0, none⟩) 2 2, digs y), (.slice (some ⟨w8.heap.size + 1, 0, none⟩) 3 3, digs u), (.slice sa (len z) sk, digs z), (.slice la (len 5) lk, digs 5), (.slice ka (len 3) kk, digs 3), (.slice ja (len 3) jk, digs 3), (.slice ia (len 2) ik, digs 2), (.slice pa (len y) pk, digs y), (.slice qa (len 2) qk, digs 2), (.slice xa (len u) xk, digs u), (.slice (some ⟨w.heap.size + 1 + 1 + 1, 0, none⟩) 2 2, digs t), (.slice (some ⟨w.heap.size + 1 + 1, 0, none⟩) 2 2, digs t), (.slice (some ⟨w.heap.size, 0, none⟩) 3 3, digs m)] _) := Lib.hid ((E13.out.words #[.int .u32 7, .int .u32 2147483648] [7, 2147483648] y rfl (D4.out) (w9.heap.size) (by simp)))
  refine (equalF (E14.out.nt 7 rfl) (E14.out.nt 0 rfl)).mono ?_
  rintro e w10 ⟨rfl, hb⟩
  have E15 : Hid (EnvB w [(w8.heap.size, .slice sa (len z) sk), (gr1_6, .slice pa (len y) pk), (w1.heap.size, .slice xa (len u) xk), (w.heap.size + 1, .slice (some ⟨w.heap.size, 0, none⟩) 3 3)] [(.slice (some ⟨w9.heap.size, 0, none⟩) 2 2, digs y), (.slice (some ⟨w8.heap.size + 1, 0, none⟩) 3 3, digs u), (.slice sa (len z) sk, digs z), (.slice la (len 5) lk, digs 5), (.slice ka (len 3) kk, digs 3), (.slice ja (len 3) jk, digs 3), (.slice ia (len 2) ik, digs 2), (.slice pa (len y) pk, digs y), (.slice qa (len 2) qk, digs 2), (.slice xa (len u) xk, digs u), (.slice (some ⟨w.heap.size + 1 + 1 + 1, 0, none⟩) 2 2, digs t), (.slice (some ⟨w.heap.size + 1 + 1, 0, none⟩) 2 2, digs t), (.slice (some ⟨w.heap.size, 0, none⟩) 3 3, digs m)] _) := Lib.hid ((E14.out.below hb))
  clear p3 f3 E14 E13 hb
  obtain ⟨p4, f4, -, -, -⟩ := E15.out.box 0 rfl
  go_wp2_with fail
  have E16 : Hid (EnvB w [(w8.heap.size, .slice sa (len z) sk), (gr1_6, .slice pa (len y) pk), (w1.heap.size, .slice xa (len u) xk), (w.heap.size + 1, .slice (some ⟨w.heap.size, 0, none⟩) 3 3)] [(.slice (some ⟨w10.heap.size, 0, none⟩) 1 1, digs z), (.slice (some ⟨w9.heap.size, 0, none⟩) 2 2, digs y), (.slice (some ⟨w8.heap.size + 1, 0, none⟩) 3 3, digs u), (.slice sa (len z) sk, digs z), (.slice la (len 5) lk, digs 5), (.slice ka (len 3) kk, digs 3), (.slice ja (len 3) jk, digs 3), (.slice ia (len 2) ik, digs 2), (.slice pa (len y) pk, digs y), (.slice qa (len 2) qk, digs 2), (.slice xa (len u) xk, digs u), (.slice (some ⟨w.heap.size + 1 + 1 + 1, 0, none⟩) 2 2, digs t), (.slice (some ⟨w.heap.size + 1 + 1, 0, none⟩) 2 2, digs t), (.slice (some ⟨w.heap.size, 0, none⟩) 3 3, digs m)] _) := Lib.hid ((E15.out.words #[.int .u32 8] [8] z rfl (D5.out) (w10.heap.size) (by simp)))
  refine (equalF (E16.out.nt 3 rfl) (E16.out.nt 0 rfl)).mono ?_
  rintro e w11 ⟨rfl, hb⟩
  have E17 : Hid (EnvB w [(w8.heap.size, .slice sa (len z) sk), (gr1_6, .slice pa (len y) pk), (w1.heap.size, .slice xa (len u) xk), (w.heap.size + 1, .slice (some ⟨w.heap.size, 0, none⟩) 3 3)] [(.slice (some ⟨w10.heap.size, 0, none⟩) 1 1, digs z), (.slice (some ⟨w9.heap.size, 0, none⟩) 2 2, digs y), (.slice (some ⟨w8.heap.size + 1, 0, none⟩) 3 3, digs u), (.slice sa (len z) sk, digs z), (.slice la (len 5) lk, digs 5), (.slice ka (len 3) kk, digs 3), (.slice ja (len 3) jk, digs 3), (.slice ia (len 2) ik, digs 2), (.slice pa (len y) pk, digs y), (.slice qa (len 2) qk, digs 2), (.slice xa (len u) xk, digs u), (.slice (some ⟨w.heap.size + 1 + 1 + 1, 0, none⟩) 2 2, digs t), (.slice (some ⟨w.heap.size + 1 + 1, 0, none⟩) 2 2, digs t), (.slice (some ⟨w.heap.size, 0, none⟩) 3 3, digs m)] _) := Lib.hid ((E16.out.below hb))
  clear p4 f4 E16 E15 hb
  have hfin := Lib.hid E17.out.1
  go_wp2
  go_ret
  exact ⟨rfl, hfin.out⟩
theorem awake_c (w : World) : Calls Try.prog 12 #[] w fun e w' => e = .returned (.bool true) ∧ Below w.heap.size w w' :=
  awake_w 18446744073709551629 4294967296 18446744073709551616 9223372036854775815 8 w (digs_of _ _ (by decide) (by decide) (by decide)) (digs_of _ _ (by decide) (by decide) (by decide)) (digs_of _ _ (by decide) (by decide) (by decide)) (digs_of _ _ (by decide) (by decide) (by decide)) (digs_of _ _ (by decide) (by decide) (by decide))
    (fun a b c W ha hb hc => @Mul_m a b c 4294967296 4294967296 18446744073709551629 18446744073709551616 W (by decide) (by decide) (by decide) (by rw [len3]; decide) ha hb hc) (fun a b W ha hb => @awake_inv a b W ha hb) (fun a b c d W ha hb hc hd => @awake_crt a b c d W ha hb hc hd)

end Go.Proofs.Ythphmgdmhlimjaa
