/- NatmodRing: the walk. -/
import Derived.Test.YthphmgdmhlimjaaModFrame
import Derived.Test.YthphmgdmhlimjaaModL5
namespace Go.Proofs.Ythphmgdmhlimjaa
open Go.RowKit NatMath
set_option linter.unusedVariables false
theorem subm_back {N M Q : Nat} (hn : N < Q) (hm : M < Q) : subm ((N + M) % Q) M Q = N := by
  by_cases h : N + M < Q
  · rw [Nat.mod_eq_of_lt h]; unfold subm; split <;> omega
  · have e : (N + M) % Q = N + M - Q := by rw [Nat.mod_eq_sub_mod (by omega), Nat.mod_eq_of_lt (by omega)]
    rw [e]; unfold subm; split <;> omega
theorem subm_same (N Q : Nat) : subm N N Q = 0 := by unfold subm; simp

set_option maxRecDepth 100000 in
set_option maxHeartbeats 1000000 in
theorem Ring_no (ao : Option Addr) (ca : Nat) (bo : Option Addr) (cb : Nat) (co : Option Addr) (cc : Nat) (dq : Option Addr) (cd : Nat) (la lb lc lm : List Nat)  (w : World) (ha : Sl w (.slice ao la.length ca) la) (hb : Sl w (.slice bo lb.length cb) lb) (hc : Sl w (.slice co lc.length cc) lc) (hd : Sl w (.slice dq lm.length cd) lm) (hf0 : ¬ (la.length ≤ 32 ∧ lb.length ≤ 32 ∧ lc.length ≤ 32 ∧ lm.length ≤ 32)) :
    Calls Try.prog 5 #[.agg #[.slice ao la.length ca], .agg #[.slice bo lb.length cb], .agg #[.slice co lc.length cc], .agg #[.slice dq lm.length cd]] w fun e w' => e = .returned (.bool true) ∧ Below w.heap.size w w' := by
  have hf := Lib.hid hf0
  clear hf0
  have E0 : Hid (EnvB w [] [(.slice dq lm.length cd, lm), (.slice co lc.length cc, lc), (.slice bo lb.length cb, lb), (.slice ao la.length ca, la)] w) := Lib.hid (((((EnvB.start w).num ha).num hb).num hc).num hd)
  clear ha hb hc hd
  go_enter Try.func5, Try.ntmps5
  go_wp2_with fail
  have E1 : Hid (EnvB w [(w.heap.size + 1 + 1 + 1, .slice dq lm.length cd), (w.heap.size + 1 + 1, .slice co lc.length cc), (w.heap.size + 1, .slice bo lb.length cb), (w.heap.size, .slice ao la.length ca)] [(.slice dq lm.length cd, lm), (.slice co lc.length cc, lc), (.slice bo lb.length cb, lb), (.slice ao la.length ca, la)] _) := Lib.hid (((((E0.out.push (.slice ao la.length ca) 24 ⟨_, _, _, rfl⟩ (w.heap.size) (by simp)).push (.slice bo lb.length cb) 24 ⟨_, _, _, rfl⟩ (w.heap.size + 1) (by simp)).push (.slice co lc.length cc) 24 ⟨_, _, _, rfl⟩ (w.heap.size + 1 + 1) (by simp)).push (.slice dq lm.length cd) 24 ⟨_, _, _, rfl⟩ (w.heap.size + 1 + 1 + 1) (by simp)))
  refine (awake_c _).mono ?_
  rintro e w1 ⟨rfl, hb⟩
  have E2 : Hid (EnvB w [(w.heap.size + 1 + 1 + 1, .slice dq lm.length cd), (w.heap.size + 1 + 1, .slice co lc.length cc), (w.heap.size + 1, .slice bo lb.length cb), (w.heap.size, .slice ao la.length ca)] [(.slice dq lm.length cd, lm), (.slice co lc.length cc, lc), (.slice bo lb.length cb, lb), (.slice ao la.length ca, la)] _) := Lib.hid ((E1.out.below hb))
  clear E1 E0 hb
  obtain ⟨p1, f1, -, -, -⟩ := E2.out.box 3 rfl
  obtain ⟨p2, f2, -, -, -⟩ := E2.out.box 2 rfl
  obtain ⟨p3, f3, -, -, -⟩ := E2.out.box 1 rfl
  obtain ⟨p4, f4, -, -, -⟩ := E2.out.box 0 rfl
  go_wp2_with fail
  refine (few4_f _ _ _ (la) _ _ _ (lb) _ _ _ (lc) _ _ _ (lm) 32 _ (E2.out.sl 3 rfl) (E2.out.sl 2 rfl) (E2.out.sl 1 rfl) (E2.out.sl 0 rfl) hf.out _ (by simp)).mono ?_
  rintro e w2 ⟨rfl, hb⟩
  have E3 : Hid (EnvB w [(w.heap.size + 1 + 1 + 1, .slice dq lm.length cd), (w.heap.size + 1 + 1, .slice co lc.length cc), (w.heap.size + 1, .slice bo lb.length cb), (w.heap.size, .slice ao la.length ca)] [(.slice dq lm.length cd, lm), (.slice co lc.length cc, lc), (.slice bo lb.length cb, lb), (.slice ao la.length ca, la)] _) := Lib.hid ((E2.out.below hb))
  clear p1 f1 p2 f2 p3 f3 p4 f4 E2 hb
  go_wp2_with fail
  refine (awake_c _).mono ?_
  rintro e w3 ⟨rfl, hb⟩
  have E4 : Hid (EnvB w [(w.heap.size + 1 + 1 + 1, .slice dq lm.length cd), (w.heap.size + 1 + 1, .slice co lc.length cc), (w.heap.size + 1, .slice bo lb.length cb), (w.heap.size, .slice ao la.length ca)] [(.slice dq lm.length cd, lm), (.slice co lc.length cc, lc), (.slice bo lb.length cb, lb), (.slice ao la.length ca, la)] _) := Lib.hid ((E3.out.below hb))
  clear E3 hb
  have hfin := Lib.hid E4.out.1
  go_wp2
  go_ret
  exact ⟨rfl, hfin.out⟩
set_option maxRecDepth 100000 in
set_option maxHeartbeats 1000000 in
theorem Ring_e1 (ao : Option Addr) (ca : Nat) (bo : Option Addr) (cb : Nat) (co : Option Addr) (cc : Nat) (dq : Option Addr) (cd : Nat) (la lb lc lm : List Nat)  (w : World) (ha : Sl w (.slice ao la.length ca) la) (hb : Sl w (.slice bo lb.length cb) lb) (hc : Sl w (.slice co lc.length cc) lc) (hd : Sl w (.slice dq lm.length cd) lm) (hf0 : la.length ≤ 32 ∧ lb.length ≤ 32 ∧ lc.length ≤ 32 ∧ lm.length ≤ 32) (hfs0 : fstc (lm) [la, lb, lc] = 1) :
    Calls Try.prog 5 #[.agg #[.slice ao la.length ca], .agg #[.slice bo lb.length cb], .agg #[.slice co lc.length cc], .agg #[.slice dq lm.length cd]] w fun e w' => e = .returned (.bool true) ∧ Below w.heap.size w w' := by
  have hf := Lib.hid hf0
  have hfs := Lib.hid hfs0
  clear hf0 hfs0
  have E0 : Hid (EnvB w [] [(.slice dq lm.length cd, lm), (.slice co lc.length cc, lc), (.slice bo lb.length cb, lb), (.slice ao la.length ca, la)] w) := Lib.hid (((((EnvB.start w).num ha).num hb).num hc).num hd)
  clear ha hb hc hd
  go_enter Try.func5, Try.ntmps5
  go_wp2_with fail
  have E1 : Hid (EnvB w [(w.heap.size + 1 + 1 + 1, .slice dq lm.length cd), (w.heap.size + 1 + 1, .slice co lc.length cc), (w.heap.size + 1, .slice bo lb.length cb), (w.heap.size, .slice ao la.length ca)] [(.slice dq lm.length cd, lm), (.slice co lc.length cc, lc), (.slice bo lb.length cb, lb), (.slice ao la.length ca, la)] _) := Lib.hid (((((E0.out.push (.slice ao la.length ca) 24 ⟨_, _, _, rfl⟩ (w.heap.size) (by simp)).push (.slice bo lb.length cb) 24 ⟨_, _, _, rfl⟩ (w.heap.size + 1) (by simp)).push (.slice co lc.length cc) 24 ⟨_, _, _, rfl⟩ (w.heap.size + 1 + 1) (by simp)).push (.slice dq lm.length cd) 24 ⟨_, _, _, rfl⟩ (w.heap.size + 1 + 1 + 1) (by simp)))
  refine (awake_c _).mono ?_
  rintro e w1 ⟨rfl, hb⟩
  have E2 : Hid (EnvB w [(w.heap.size + 1 + 1 + 1, .slice dq lm.length cd), (w.heap.size + 1 + 1, .slice co lc.length cc), (w.heap.size + 1, .slice bo lb.length cb), (w.heap.size, .slice ao la.length ca)] [(.slice dq lm.length cd, lm), (.slice co lc.length cc, lc), (.slice bo lb.length cb, lb), (.slice ao la.length ca, la)] _) := Lib.hid ((E1.out.below hb))
  clear E1 E0 hb
  obtain ⟨p1, f1, -, -, -⟩ := E2.out.box 3 rfl
  obtain ⟨p2, f2, -, -, -⟩ := E2.out.box 2 rfl
  obtain ⟨p3, f3, -, -, -⟩ := E2.out.box 1 rfl
  obtain ⟨p4, f4, -, -, -⟩ := E2.out.box 0 rfl
  go_wp2_with fail
  refine (few4_t _ _ _ (la) _ _ _ (lb) _ _ _ (lc) _ _ _ (lm) 32 _ (E2.out.sl 3 rfl) (E2.out.sl 2 rfl) (E2.out.sl 1 rfl) (E2.out.sl 0 rfl) hf.out _ (by simp)).mono ?_
  rintro e w2 ⟨rfl, hb⟩
  have E3 : Hid (EnvB w [(w.heap.size + 1 + 1 + 1, .slice dq lm.length cd), (w.heap.size + 1 + 1, .slice co lc.length cc), (w.heap.size + 1, .slice bo lb.length cb), (w.heap.size, .slice ao la.length ca)] [(.slice dq lm.length cd, lm), (.slice co lc.length cc, lc), (.slice bo lb.length cb, lb), (.slice ao la.length ca, la)] _) := Lib.hid ((E2.out.below hb))
  clear p1 f1 p2 f2 p3 f3 p4 f4 E2 hb
  obtain ⟨p5, f5, -, -, -⟩ := E3.out.box 0 rfl
  obtain ⟨p6, f6, -, -, -⟩ := E3.out.box 3 rfl
  obtain ⟨p7, f7, -, -, -⟩ := E3.out.box 2 rfl
  obtain ⟨p8, f8, -, -, -⟩ := E3.out.box 1 rfl
  go_wp2_with fail
  refine (first3_c _ _ _ (la) _ _ _ (lb) _ _ _ (lc) _ _ _ (lm) 1 _ hfs.out (E3.out.sl 0 rfl) (E3.out.sl 3 rfl) (E3.out.sl 2 rfl) (E3.out.sl 1 rfl) _ (by simp)).mono ?_
  rintro e w3 ⟨rfl, hb⟩
  have E4 : Hid (EnvB w [(w.heap.size + 1 + 1 + 1, .slice dq lm.length cd), (w.heap.size + 1 + 1, .slice co lc.length cc), (w.heap.size + 1, .slice bo lb.length cb), (w.heap.size, .slice ao la.length ca)] [(.slice dq lm.length cd, lm), (.slice co lc.length cc, lc), (.slice bo lb.length cb, lb), (.slice ao la.length ca, la)] _) := Lib.hid ((E3.out.below hb))
  clear p5 f5 p6 f6 p7 f7 p8 f8 E3 hb
  go_wp2_with fail
  refine (awake_c _).mono ?_
  rintro e w4 ⟨rfl, hb⟩
  have E5 : Hid (EnvB w [(w.heap.size + 1 + 1 + 1, .slice dq lm.length cd), (w.heap.size + 1 + 1, .slice co lc.length cc), (w.heap.size + 1, .slice bo lb.length cb), (w.heap.size, .slice ao la.length ca)] [(.slice dq lm.length cd, lm), (.slice co lc.length cc, lc), (.slice bo lb.length cb, lb), (.slice ao la.length ca, la)] _) := Lib.hid ((E4.out.below hb))
  clear E4 hb
  have hfin := Lib.hid E5.out.1
  go_wp2
  go_ret
  exact ⟨rfl, hfin.out⟩
set_option maxRecDepth 100000 in
set_option maxHeartbeats 1000000 in
theorem Ring_e2 (ao : Option Addr) (ca : Nat) (bo : Option Addr) (cb : Nat) (co : Option Addr) (cc : Nat) (dq : Option Addr) (cd : Nat) (la lb lc lm : List Nat)  (w : World) (ha : Sl w (.slice ao la.length ca) la) (hb : Sl w (.slice bo lb.length cb) lb) (hc : Sl w (.slice co lc.length cc) lc) (hd : Sl w (.slice dq lm.length cd) lm) (hf0 : la.length ≤ 32 ∧ lb.length ≤ 32 ∧ lc.length ≤ 32 ∧ lm.length ≤ 32) (hfs0 : fstc (lm) [la, lb, lc] = 2) :
    Calls Try.prog 5 #[.agg #[.slice ao la.length ca], .agg #[.slice bo lb.length cb], .agg #[.slice co lc.length cc], .agg #[.slice dq lm.length cd]] w fun e w' => e = .returned (.bool true) ∧ Below w.heap.size w w' := by
  have hf := Lib.hid hf0
  have hfs := Lib.hid hfs0
  clear hf0 hfs0
  have E0 : Hid (EnvB w [] [(.slice dq lm.length cd, lm), (.slice co lc.length cc, lc), (.slice bo lb.length cb, lb), (.slice ao la.length ca, la)] w) := Lib.hid (((((EnvB.start w).num ha).num hb).num hc).num hd)
  clear ha hb hc hd
  go_enter Try.func5, Try.ntmps5
  go_wp2_with fail
  have E1 : Hid (EnvB w [(w.heap.size + 1 + 1 + 1, .slice dq lm.length cd), (w.heap.size + 1 + 1, .slice co lc.length cc), (w.heap.size + 1, .slice bo lb.length cb), (w.heap.size, .slice ao la.length ca)] [(.slice dq lm.length cd, lm), (.slice co lc.length cc, lc), (.slice bo lb.length cb, lb), (.slice ao la.length ca, la)] _) := Lib.hid (((((E0.out.push (.slice ao la.length ca) 24 ⟨_, _, _, rfl⟩ (w.heap.size) (by simp)).push (.slice bo lb.length cb) 24 ⟨_, _, _, rfl⟩ (w.heap.size + 1) (by simp)).push (.slice co lc.length cc) 24 ⟨_, _, _, rfl⟩ (w.heap.size + 1 + 1) (by simp)).push (.slice dq lm.length cd) 24 ⟨_, _, _, rfl⟩ (w.heap.size + 1 + 1 + 1) (by simp)))
  refine (awake_c _).mono ?_
  rintro e w1 ⟨rfl, hb⟩
  have E2 : Hid (EnvB w [(w.heap.size + 1 + 1 + 1, .slice dq lm.length cd), (w.heap.size + 1 + 1, .slice co lc.length cc), (w.heap.size + 1, .slice bo lb.length cb), (w.heap.size, .slice ao la.length ca)] [(.slice dq lm.length cd, lm), (.slice co lc.length cc, lc), (.slice bo lb.length cb, lb), (.slice ao la.length ca, la)] _) := Lib.hid ((E1.out.below hb))
  clear E1 E0 hb
  obtain ⟨p1, f1, -, -, -⟩ := E2.out.box 3 rfl
  obtain ⟨p2, f2, -, -, -⟩ := E2.out.box 2 rfl
  obtain ⟨p3, f3, -, -, -⟩ := E2.out.box 1 rfl
  obtain ⟨p4, f4, -, -, -⟩ := E2.out.box 0 rfl
  go_wp2_with fail
  refine (few4_t _ _ _ (la) _ _ _ (lb) _ _ _ (lc) _ _ _ (lm) 32 _ (E2.out.sl 3 rfl) (E2.out.sl 2 rfl) (E2.out.sl 1 rfl) (E2.out.sl 0 rfl) hf.out _ (by simp)).mono ?_
  rintro e w2 ⟨rfl, hb⟩
  have E3 : Hid (EnvB w [(w.heap.size + 1 + 1 + 1, .slice dq lm.length cd), (w.heap.size + 1 + 1, .slice co lc.length cc), (w.heap.size + 1, .slice bo lb.length cb), (w.heap.size, .slice ao la.length ca)] [(.slice dq lm.length cd, lm), (.slice co lc.length cc, lc), (.slice bo lb.length cb, lb), (.slice ao la.length ca, la)] _) := Lib.hid ((E2.out.below hb))
  clear p1 f1 p2 f2 p3 f3 p4 f4 E2 hb
  obtain ⟨p5, f5, -, -, -⟩ := E3.out.box 0 rfl
  obtain ⟨p6, f6, -, -, -⟩ := E3.out.box 3 rfl
  obtain ⟨p7, f7, -, -, -⟩ := E3.out.box 2 rfl
  obtain ⟨p8, f8, -, -, -⟩ := E3.out.box 1 rfl
  go_wp2_with fail
  refine (first3_c _ _ _ (la) _ _ _ (lb) _ _ _ (lc) _ _ _ (lm) 2 _ hfs.out (E3.out.sl 0 rfl) (E3.out.sl 3 rfl) (E3.out.sl 2 rfl) (E3.out.sl 1 rfl) _ (by simp)).mono ?_
  rintro e w3 ⟨rfl, hb⟩
  have E4 : Hid (EnvB w [(w.heap.size + 1 + 1 + 1, .slice dq lm.length cd), (w.heap.size + 1 + 1, .slice co lc.length cc), (w.heap.size + 1, .slice bo lb.length cb), (w.heap.size, .slice ao la.length ca)] [(.slice dq lm.length cd, lm), (.slice co lc.length cc, lc), (.slice bo lb.length cb, lb), (.slice ao la.length ca, la)] _) := Lib.hid ((E3.out.below hb))
  clear p5 f5 p6 f6 p7 f7 p8 f8 E3 hb
  go_wp2_with fail
  refine (awake_c _).mono ?_
  rintro e w4 ⟨rfl, hb⟩
  have E5 : Hid (EnvB w [(w.heap.size + 1 + 1 + 1, .slice dq lm.length cd), (w.heap.size + 1 + 1, .slice co lc.length cc), (w.heap.size + 1, .slice bo lb.length cb), (w.heap.size, .slice ao la.length ca)] [(.slice dq lm.length cd, lm), (.slice co lc.length cc, lc), (.slice bo lb.length cb, lb), (.slice ao la.length ca, la)] _) := Lib.hid ((E4.out.below hb))
  clear E4 hb
  have hfin := Lib.hid E5.out.1
  go_wp2
  go_ret
  exact ⟨rfl, hfin.out⟩
set_option maxRecDepth 100000 in
set_option maxHeartbeats 1000000 in
theorem Ring_ok (ao : Option Addr) (ca : Nat) (bo : Option Addr) (cb : Nat) (co : Option Addr) (cc : Nat) (dq : Option Addr) (cd : Nat) (N M O Q : Nat) (r1 r2 r3 r4 r5 r6 : Nat) (w : World) (ha : Nt w (.slice ao (len N) ca) N) (hb : Nt w (.slice bo (len M) cb) M) (hc : Nt w (.slice co (len O) cc) O) (hd : Nt w (.slice dq (len Q) cd) Q) (hf0 : len N ≤ 32 ∧ len M ≤ 32 ∧ len O ≤ 32 ∧ len Q ≤ 32) (hfs0 : fstc (digs Q) [digs N, digs M, digs O] = 0) (hk0 : len Q ≤ 32) (hn0 : N < Q) (hm90 : M < Q) (ho0 : O < Q) (l10 : r1 < Q) (l20 : r2 < Q) (l30 : r3 < Q) (l40 : r4 < Q) (l50 : r5 < Q) (l60 : r6 < Q) (e10 : N * M % Q = r1) (e20 : M * O % Q = r2) (e30 : (N + M) % Q = r3) (e40 : r1 * O % Q = r4) (e4b0 : N * r2 % Q = r4) (e50 : r3 * O % Q = r5) (e60 : N * O % Q = r6) (e5b0 : (r6 + r2) % Q = r5) (e70 : subm r3 M Q = N) (e80 : subm N N Q = 0) (e1b0 : M * N % Q = r1) (e3b0 : (M + N) % Q = r3) (lz0 : 0 < Q) :
    Calls Try.prog 5 #[.agg #[.slice ao (len N) ca], .agg #[.slice bo (len M) cb], .agg #[.slice co (len O) cc], .agg #[.slice dq (len Q) cd]] w fun e w' => e = .returned (.bool true) ∧ Below w.heap.size w w' := by
  have hf := Lib.hid hf0
  have hfs := Lib.hid hfs0
  have hk := Lib.hid hk0
  have hn := Lib.hid hn0
  have hm9 := Lib.hid hm90
  have ho := Lib.hid ho0
  have l1 := Lib.hid l10
  have l2 := Lib.hid l20
  have l3 := Lib.hid l30
  have l4 := Lib.hid l40
  have l5 := Lib.hid l50
  have l6 := Lib.hid l60
  have e1 := Lib.hid e10
  have e2 := Lib.hid e20
  have e3 := Lib.hid e30
  have e4 := Lib.hid e40
  have e4b := Lib.hid e4b0
  have e5 := Lib.hid e50
  have e6 := Lib.hid e60
  have e5b := Lib.hid e5b0
  have e7 := Lib.hid e70
  have e8 := Lib.hid e80
  have e1b := Lib.hid e1b0
  have e3b := Lib.hid e3b0
  have lz := Lib.hid lz0
  clear hf0 hfs0 hk0 hn0 hm90 ho0 l10 l20 l30 l40 l50 l60 e10 e20 e30 e40 e4b0 e50 e60 e5b0 e70 e80 e1b0 e3b0 lz0
  have E0 : Hid (EnvB w [] [(.slice dq (len Q) cd, digs Q), (.slice co (len O) cc, digs O), (.slice bo (len M) cb, digs M), (.slice ao (len N) ca, digs N)] w) := Lib.hid (((((EnvB.start w).numN ha).numN hb).numN hc).numN hd)
  clear ha hb hc hd
  go_enter Try.func5, Try.ntmps5
  go_wp2_with fail
  have E1 : Hid (EnvB w [(w.heap.size + 1 + 1 + 1, .slice dq (len Q) cd), (w.heap.size + 1 + 1, .slice co (len O) cc), (w.heap.size + 1, .slice bo (len M) cb), (w.heap.size, .slice ao (len N) ca)] [(.slice dq (len Q) cd, digs Q), (.slice co (len O) cc, digs O), (.slice bo (len M) cb, digs M), (.slice ao (len N) ca, digs N)] _) := Lib.hid (((((E0.out.push (.slice ao (len N) ca) 24 ⟨_, _, _, rfl⟩ (w.heap.size) (by simp)).push (.slice bo (len M) cb) 24 ⟨_, _, _, rfl⟩ (w.heap.size + 1) (by simp)).push (.slice co (len O) cc) 24 ⟨_, _, _, rfl⟩ (w.heap.size + 1 + 1) (by simp)).push (.slice dq (len Q) cd) 24 ⟨_, _, _, rfl⟩ (w.heap.size + 1 + 1 + 1) (by simp)))
  refine (awake_c _).mono ?_
  rintro e w1 ⟨rfl, hb⟩
  have E2 : Hid (EnvB w [(w.heap.size + 1 + 1 + 1, .slice dq (len Q) cd), (w.heap.size + 1 + 1, .slice co (len O) cc), (w.heap.size + 1, .slice bo (len M) cb), (w.heap.size, .slice ao (len N) ca)] [(.slice dq (len Q) cd, digs Q), (.slice co (len O) cc, digs O), (.slice bo (len M) cb, digs M), (.slice ao (len N) ca, digs N)] _) := Lib.hid ((E1.out.below hb))
  clear E1 E0 hb
  obtain ⟨p1, f1, -, -, -⟩ := E2.out.box 3 rfl
  obtain ⟨p2, f2, -, -, -⟩ := E2.out.box 2 rfl
  obtain ⟨p3, f3, -, -, -⟩ := E2.out.box 1 rfl
  obtain ⟨p4, f4, -, -, -⟩ := E2.out.box 0 rfl
  go_wp2_with fail
  refine (few4_t _ _ _ (digs N) _ _ _ (digs M) _ _ _ (digs O) _ _ _ (digs Q) 32 _ (E2.out.nt 3 rfl) (E2.out.nt 2 rfl) (E2.out.nt 1 rfl) (E2.out.nt 0 rfl) hf.out _ (by simp)).mono ?_
  rintro e w2 ⟨rfl, hb⟩
  have E3 : Hid (EnvB w [(w.heap.size + 1 + 1 + 1, .slice dq (len Q) cd), (w.heap.size + 1 + 1, .slice co (len O) cc), (w.heap.size + 1, .slice bo (len M) cb), (w.heap.size, .slice ao (len N) ca)] [(.slice dq (len Q) cd, digs Q), (.slice co (len O) cc, digs O), (.slice bo (len M) cb, digs M), (.slice ao (len N) ca, digs N)] _) := Lib.hid ((E2.out.below hb))
  clear p1 f1 p2 f2 p3 f3 p4 f4 E2 hb
  obtain ⟨p5, f5, -, -, -⟩ := E3.out.box 0 rfl
  obtain ⟨p6, f6, -, -, -⟩ := E3.out.box 3 rfl
  obtain ⟨p7, f7, -, -, -⟩ := E3.out.box 2 rfl
  obtain ⟨p8, f8, -, -, -⟩ := E3.out.box 1 rfl
  go_wp2_with fail
  refine (first3_c _ _ _ (digs N) _ _ _ (digs M) _ _ _ (digs O) _ _ _ (digs Q) 0 _ hfs.out (E3.out.nt 0 rfl) (E3.out.nt 3 rfl) (E3.out.nt 2 rfl) (E3.out.nt 1 rfl) _ (by simp)).mono ?_
  rintro e w3 ⟨rfl, hb⟩
  have E4 : Hid (EnvB w [(w.heap.size + 1 + 1 + 1, .slice dq (len Q) cd), (w.heap.size + 1 + 1, .slice co (len O) cc), (w.heap.size + 1, .slice bo (len M) cb), (w.heap.size, .slice ao (len N) ca)] [(.slice dq (len Q) cd, digs Q), (.slice co (len O) cc, digs O), (.slice bo (len M) cb, digs M), (.slice ao (len N) ca, digs N)] _) := Lib.hid ((E3.out.below hb))
  clear p5 f5 p6 f6 p7 f7 p8 f8 E3 hb
  go_wp2_with fail
  have E5 : Hid (EnvB w [(w.heap.size + 1 + 1 + 1, .slice dq (len Q) cd), (w.heap.size + 1 + 1, .slice co (len O) cc), (w.heap.size + 1, .slice bo (len M) cb), (w.heap.size, .slice ao (len N) ca)] [(.slice dq (len Q) cd, digs Q), (.slice co (len O) cc, digs O), (.slice bo (len M) cb, digs M), (.slice ao (len N) ca, digs N)] (w3.alloc (.cells #[.bool true] 4))) := Lib.hid (E4.out.alloc _)
  have RW : Hid (Good w3.heap.size (w3.alloc (.cells #[.bool true] 4))) := Lib.hid (Good.mk1 w3)
  clear E4
  have E6 : Hid (EnvB w [(w.heap.size + 1 + 1 + 1, .slice dq (len Q) cd), (w.heap.size + 1 + 1, .slice co (len O) cc), (w.heap.size + 1, .slice bo (len M) cb), (w.heap.size, .slice ao (len N) ca)] [(.slice dq (len Q) cd, digs Q), (.slice co (len O) cc, digs O), (.slice bo (len M) cb, digs M), (.slice ao (len N) ca, digs N)] (w3.alloc (.cells #[.bool true] 4))) := Lib.hid (E5.out)
  clear E5
  generalize w3.alloc (.cells #[.bool true] 4) = w4 at *
  have bx0 := Lib.hid (E6.out.box 3 rfl)
  have bx1 := Lib.hid (E6.out.box 2 rfl)
  have bx2 := Lib.hid (E6.out.box 1 rfl)
  refine' wp_region_phase (by kernel_rfl) [0, 1, 2, 3, 4, 5, 6, 7, 8, 9] (by kernel_rfl) #[true, true, true, true, true, true, true, true, true, true, false, false] (by kernel_rfl) 2 (by kernel_rfl) [PEq (.func (.func 27) #[] #[.pointer (some ⟨w.heap.size + 1 + 1 + 1, 0, none⟩), .pointer (some ⟨w3.heap.size, 0, none⟩)]), PEq (.agg #[.slice ao (len N) ca]), PEq (.agg #[.slice bo (len M) cb]), PNum (r1), PEq (.func (.func 27) #[] #[.pointer (some ⟨w.heap.size + 1 + 1 + 1, 0, none⟩), .pointer (some ⟨w3.heap.size, 0, none⟩)]), PEq (.agg #[.slice bo (len M) cb]), PEq (.agg #[.slice co (len O) cc]), PNum (r2), PBox w4.heap.size, PBox w4.heap.size, Fact.none, Fact.none] (List.forall_mem_cons.2 ⟨PEq.st _, List.forall_mem_cons.2 ⟨PEq.st _, List.forall_mem_cons.2 ⟨PEq.st _, List.forall_mem_cons.2 ⟨PNum.st _, List.forall_mem_cons.2 ⟨PEq.st _, List.forall_mem_cons.2 ⟨PEq.st _, List.forall_mem_cons.2 ⟨PEq.st _, List.forall_mem_cons.2 ⟨PNum.st _, List.forall_mem_cons.2 ⟨PBox.st _, List.forall_mem_cons.2 ⟨PBox.st _, List.forall_mem_cons.2 ⟨Fact.none_st, List.forall_mem_cons.2 ⟨Fact.none_st, List.forall_mem_nil _⟩⟩⟩⟩⟩⟩⟩⟩⟩⟩⟩⟩) _ ?hFr1 ?stepr1 ?doner1
  case hFr1 => intro x; simp only [frameL, Act.put, List.setIfInBounds_toArray, List.set_cons_zero, List.set_cons_succ, Nat.zero_add, Nat.reduceAdd]; exact rfl
  case stepr1 =>
    refine List.forall_mem_cons.2 ⟨?_, ?_⟩
    · intro xv bv ev WW hB hdp
      refine op_of rfl ?_
      clear hdp
      intro KK hKK
      go_simp
      exact act_eq (hKK.out _ _ (Below.refl _ _) rfl) (by first | rfl | simp [upd])
    refine List.forall_mem_cons.2 ⟨?_, ?_⟩
    · intro xv bv ev WW hB hdp
      refine op_of rfl ?_
      clear hdp
      intro KK hKK
      obtain ⟨z, -, -, -, -⟩ := bx0.out.below hB
      go_simp
      exact act_eq (hKK.out (.agg #[.slice ao (len N) ca]) _ (Below.refl _ _) rfl) (by first | rfl | simp [upd])
    refine List.forall_mem_cons.2 ⟨?_, ?_⟩
    · intro xv bv ev WW hB hdp
      refine op_of rfl ?_
      clear hdp
      intro KK hKK
      obtain ⟨z, -, -, -, -⟩ := bx1.out.below hB
      go_simp
      exact act_eq (hKK.out (.agg #[.slice bo (len M) cb]) _ (Below.refl _ _) rfl) (by first | rfl | simp [upd])
    refine List.forall_mem_cons.2 ⟨?_, ?_⟩
    · intro xv bv ev WW hB hdp
      refine op_of rfl ?_
      have ed0 : xv 0 = .func (.func 27) #[] #[.pointer (some ⟨w.heap.size + 1 + 1 + 1, 0, none⟩), .pointer (some ⟨w3.heap.size, 0, none⟩)] := hdp 0 (by kernel_rfl)
      have ed1 : xv 1 = .agg #[.slice ao (len N) ca] := hdp 1 (by kernel_rfl)
      have ed2 : xv 2 = .agg #[.slice bo (len M) cb] := hdp 2 (by kernel_rfl)
      clear hdp
      intro KK hKK
      go_simp
      refine (do_Mulk ((E6.out.below hB).box 0 rfl) (RW.out.below hB) ((E6.out.below hB).nt 0 rfl) hk.out l1.out hn.out hm9.out e1.out ((E6.out.below hB).nt 3 rfl) ((E6.out.below hB).nt 2 rfl)).mono ?_
      rintro e WW' ⟨⟨aba, abk, rfl, hab⟩, hb⟩
      (try dsimp only)
      (try simp only [Act.put, List.setIfInBounds_toArray, List.set_cons_zero, List.set_cons_succ])
      exact act_eq (hKK.out _ _ hb ⟨_, _, rfl, hab⟩) (by first | rfl | simp [upd, ed0, ed1, ed2])
    refine List.forall_mem_cons.2 ⟨?_, ?_⟩
    · intro xv bv ev WW hB hdp
      refine op_of rfl ?_
      clear hdp
      intro KK hKK
      go_simp
      exact act_eq (hKK.out _ _ (Below.refl _ _) rfl) (by first | rfl | simp [upd])
    refine List.forall_mem_cons.2 ⟨?_, ?_⟩
    · intro xv bv ev WW hB hdp
      refine op_of rfl ?_
      clear hdp
      intro KK hKK
      obtain ⟨z, -, -, -, -⟩ := bx1.out.below hB
      go_simp
      exact act_eq (hKK.out (.agg #[.slice bo (len M) cb]) _ (Below.refl _ _) rfl) (by first | rfl | simp [upd])
    refine List.forall_mem_cons.2 ⟨?_, ?_⟩
    · intro xv bv ev WW hB hdp
      refine op_of rfl ?_
      clear hdp
      intro KK hKK
      obtain ⟨z, -, -, -, -⟩ := bx2.out.below hB
      go_simp
      exact act_eq (hKK.out (.agg #[.slice co (len O) cc]) _ (Below.refl _ _) rfl) (by first | rfl | simp [upd])
    refine List.forall_mem_cons.2 ⟨?_, ?_⟩
    · intro xv bv ev WW hB hdp
      refine op_of rfl ?_
      have ed4 : xv 4 = .func (.func 27) #[] #[.pointer (some ⟨w.heap.size + 1 + 1 + 1, 0, none⟩), .pointer (some ⟨w3.heap.size, 0, none⟩)] := hdp 4 (by kernel_rfl)
      have ed5 : xv 5 = .agg #[.slice bo (len M) cb] := hdp 5 (by kernel_rfl)
      have ed6 : xv 6 = .agg #[.slice co (len O) cc] := hdp 6 (by kernel_rfl)
      clear hdp
      intro KK hKK
      go_simp
      refine (do_Mulk ((E6.out.below hB).box 0 rfl) (RW.out.below hB) ((E6.out.below hB).nt 0 rfl) hk.out l2.out hm9.out ho.out e2.out ((E6.out.below hB).nt 2 rfl) ((E6.out.below hB).nt 1 rfl)).mono ?_
      rintro e WW' ⟨⟨bca, bck, rfl, hbc⟩, hb⟩
      (try dsimp only)
      (try simp only [Act.put, List.setIfInBounds_toArray, List.set_cons_zero, List.set_cons_succ])
      exact act_eq (hKK.out _ _ hb ⟨_, _, rfl, hbc⟩) (by first | rfl | simp [upd, ed4, ed5, ed6])
    refine List.forall_mem_cons.2 ⟨?_, ?_⟩
    · intro xv bv ev WW hB hdp
      refine op_of rfl ?_
      clear hdp
      intro KK hKK
      go_simp
      exact act_eq (hKK.out (.pointer (some ⟨WW.heap.size, 0, none⟩)) _ (below_one _ _) (PBox.mk hB rfl _)) (by first | rfl | simp [upd])
    refine List.forall_mem_cons.2 ⟨?_, ?_⟩
    · intro xv bv ev WW hB hdp
      refine op_of rfl ?_
      clear hdp
      intro KK hKK
      go_simp
      exact act_eq (hKK.out (.pointer (some ⟨WW.heap.size, 0, none⟩)) _ (below_one _ _) (PBox.mk hB rfl _)) (by first | rfl | simp [upd])
    exact List.forall_mem_nil _
  intro xv bv ev w5 hB hR hO
  have ed0 : xv 0 = .func (.func 27) #[] #[.pointer (some ⟨w.heap.size + 1 + 1 + 1, 0, none⟩), .pointer (some ⟨w3.heap.size, 0, none⟩)] := hR 0 (by kernel_rfl)
  have ed1 : xv 1 = .agg #[.slice ao (len N) ca] := hR 1 (by kernel_rfl)
  have ed2 : xv 2 = .agg #[.slice bo (len M) cb] := hR 2 (by kernel_rfl)
  obtain ⟨aba, abk, ed3, hab⟩ := (show (PNum (r1)) (xv 3) (bv 3) (ev 3) w5 from hR 3 (by kernel_rfl))
  have ed4 : xv 4 = .func (.func 27) #[] #[.pointer (some ⟨w.heap.size + 1 + 1 + 1, 0, none⟩), .pointer (some ⟨w3.heap.size, 0, none⟩)] := hR 4 (by kernel_rfl)
  have ed5 : xv 5 = .agg #[.slice bo (len M) cb] := hR 5 (by kernel_rfl)
  have ed6 : xv 6 = .agg #[.slice co (len O) cc] := hR 6 (by kernel_rfl)
  obtain ⟨bca, bck, ed7, hbc⟩ := (show (PNum (r2)) (xv 7) (bv 7) (ev 7) w5 from hR 7 (by kernel_rfl))
  obtain ⟨gr1_8, ed8, hg8, hb8, he8, hc8, hf8, hs8⟩ := (show (PBox w4.heap.size) (xv 8) (bv 8) (ev 8) w5 from hR 8 (by kernel_rfl))
  obtain ⟨gr1_9, ed9, hg9, hb9, he9, hc9, hf9, hs9⟩ := (show (PBox w4.heap.size) (xv 9) (bv 9) (ev 9) w5 from hR 9 (by kernel_rfl))
  simp only [ed0, ed1, ed2, ed3, ed4, ed5, ed6, ed7, ed8, ed9]
  have RW2 := Lib.hid (RW.out.below hB)
  clear RW
  have RW := RW2
  clear RW2
  have ne8_9 : gr1_8 ≠ gr1_9 := by have := hO 8 9 (by kernel_rfl) (by kernel_rfl) (by decide); omega
  have E7 : Hid (EnvB w [(gr1_9, .slice none 0 0), (gr1_8, .slice none 0 0), (w.heap.size + 1 + 1 + 1, .slice dq (len Q) cd), (w.heap.size + 1 + 1, .slice co (len O) cc), (w.heap.size + 1, .slice bo (len M) cb), (w.heap.size, .slice ao (len N) ca)] [(.slice bca (len r2) bck, digs r2), (.slice aba (len r1) abk, digs r1), (.slice dq (len Q) cd, digs Q), (.slice co (len O) cc, digs O), (.slice bo (len M) cb, digs M), (.slice ao (len N) ca, digs N)] _) := Lib.hid ((((((E6.out.below hB).add gr1_8 (.slice none 0 0) ⟨hc8, hf8, hs8, Nat.le_trans E6.out.size hg8, ⟨_, _, _, rfl⟩⟩ (fun p hp => by have := E6.out.old p hp; omega)).add gr1_9 (.slice none 0 0) ⟨hc9, hf9, hs9, Nat.le_trans E6.out.size hg9, ⟨_, _, _, rfl⟩⟩ (List.forall_mem_cons.2 ⟨ne8_9, fun p hp => by have := E6.out.old p hp; omega⟩)).numN (hab.out : Nt _ _ (r1))).numN (hbc.out : Nt _ _ (r2))))
  clear E6 hB hR hO bx0 bx1 bx2 ed0 ed1 ed2 ed3 ed4 ed5 ed6 ed7 ed8 ed9 hab hbc hg8 hb8 he8 hc8 hf8 hs8 hg9 hb9 he9 hc9 hf9 hs9 ne8_9
  obtain ⟨p9, f9, -, -, -⟩ := E7.out.box 1 rfl
  refine wpAny_next (i := 10) (by kernel_rfl) rfl (fun KK hKK => ?_)
  go_simp
  have RW2 : Hid (Good w3.heap.size (w5.setCell ⟨gr1_8, 0, none⟩ (.slice aba (len r1) abk))) := Lib.hid (RW.out.set (E7.out.box 1 rfl) _)
  clear RW
  have RW := RW2
  clear RW2
  have E8 : Hid (EnvB w [(gr1_9, .slice none 0 0), (gr1_8, .slice aba (len r1) abk), (w.heap.size + 1 + 1 + 1, .slice dq (len Q) cd), (w.heap.size + 1 + 1, .slice co (len O) cc), (w.heap.size + 1, .slice bo (len M) cb), (w.heap.size, .slice ao (len N) ca)] [(.slice bca (len r2) bck, digs r2), (.slice aba (len r1) abk, digs r1), (.slice dq (len Q) cd, digs Q), (.slice co (len O) cc, digs O), (.slice bo (len M) cb, digs M), (.slice ao (len N) ca, digs N)] _) := Lib.hid ((E7.out.set 1 (.slice aba (len r1) abk) rfl ⟨_, _, _, rfl⟩))
  refine hKK.out _ _ ?_
  clear hKK KK
  obtain ⟨p10, f10, -, -, -⟩ := E8.out.box 0 rfl
  refine wpAny_next (i := 11) (by kernel_rfl) rfl (fun KK hKK => ?_)
  go_simp
  have RW2 : Hid (Good w3.heap.size ((w5.setCell ⟨gr1_8, 0, none⟩ (.slice aba (len r1) abk)).setCell ⟨gr1_9, 0, none⟩ (.slice bca (len r2) bck))) := Lib.hid (RW.out.set (E8.out.box 0 rfl) _)
  clear RW
  have RW := RW2
  clear RW2
  have E9 : Hid (EnvB w [(gr1_9, .slice bca (len r2) bck), (gr1_8, .slice aba (len r1) abk), (w.heap.size + 1 + 1 + 1, .slice dq (len Q) cd), (w.heap.size + 1 + 1, .slice co (len O) cc), (w.heap.size + 1, .slice bo (len M) cb), (w.heap.size, .slice ao (len N) ca)] [(.slice bca (len r2) bck, digs r2), (.slice aba (len r1) abk, digs r1), (.slice dq (len Q) cd, digs Q), (.slice co (len O) cc, digs O), (.slice bo (len M) cb, digs M), (.slice ao (len N) ca, digs N)] _) := Lib.hid ((E8.out.set 0 (.slice bca (len r2) bck) rfl ⟨_, _, _, rfl⟩))
  refine hKK.out _ _ ?_
  clear hKK KK
  refine wpAny_done (by kernel_rfl) ?_ _
  obtain ⟨p11, f11, -, -, -⟩ := E9.out.box 5 rfl
  obtain ⟨p12, f12, -, -, -⟩ := E9.out.box 4 rfl
  go_wp2_with fail
  refine (do_Addk (E9.out.box 2 rfl) RW.out (E9.out.nt 2 rfl) hk.out l3.out hn.out hm9.out e3.out (E9.out.nt 5 rfl) (E9.out.nt 4 rfl)).mono ?_
  rintro e w6 ⟨⟨sua, suk, rfl, hsu⟩, hb⟩
  have RW2 := Lib.hid (RW.out.below hb)
  clear RW
  have RW := RW2
  clear RW2
  have E10 : Hid (EnvB w [(gr1_9, .slice bca (len r2) bck), (gr1_8, .slice aba (len r1) abk), (w.heap.size + 1 + 1 + 1, .slice dq (len Q) cd), (w.heap.size + 1 + 1, .slice co (len O) cc), (w.heap.size + 1, .slice bo (len M) cb), (w.heap.size, .slice ao (len N) ca)] [(.slice sua (len r3) suk, digs r3), (.slice bca (len r2) bck, digs r2), (.slice aba (len r1) abk, digs r1), (.slice dq (len Q) cd, digs Q), (.slice co (len O) cc, digs O), (.slice bo (len M) cb, digs M), (.slice ao (len N) ca, digs N)] _) := Lib.hid (((E9.out.below hb).numN (hsu.out : Nt _ _ r3)))
  clear p9 f9 p10 f10 p11 f11 p12 f12 E9 E7 E8 hb hsu
  have RW2 : Hid (Good w3.heap.size (w6.alloc (.cells #[.slice sua (len r3) suk] 24))) := Lib.hid (RW.out.below (below_one _ _))
  clear RW
  have RW := RW2
  clear RW2
  have E11 : Hid (EnvB w [(w6.heap.size, .slice sua (len r3) suk), (gr1_9, .slice bca (len r2) bck), (gr1_8, .slice aba (len r1) abk), (w.heap.size + 1 + 1 + 1, .slice dq (len Q) cd), (w.heap.size + 1 + 1, .slice co (len O) cc), (w.heap.size + 1, .slice bo (len M) cb), (w.heap.size, .slice ao (len N) ca)] [(.slice sua (len r3) suk, digs r3), (.slice bca (len r2) bck, digs r2), (.slice aba (len r1) abk, digs r1), (.slice dq (len Q) cd, digs Q), (.slice co (len O) cc, digs O), (.slice bo (len M) cb, digs M), (.slice ao (len N) ca, digs N)] _) := Lib.hid ((E10.out.push (.slice sua (len r3) suk) 24 ⟨_, _, _, rfl⟩ (w6.heap.size) (by simp)))
  obtain ⟨-, p13, f13⟩ := RW.out
  obtain ⟨p14, f14, -, -, -⟩ := E11.out.box 2 rfl
  obtain ⟨p15, f15, -, -, -⟩ := E11.out.box 4 rfl
  go_wp2_with fail
  refine (do_Mulk (E11.out.box 3 rfl) RW.out (E11.out.nt 3 rfl) hk.out l4.out l1.out ho.out e4.out (E11.out.nt 2 rfl) (E11.out.nt 4 rfl)).mono ?_
  rintro e w7 ⟨⟨ona, onk, rfl, hon⟩, hb⟩
  have RW2 := Lib.hid (RW.out.below hb)
  clear RW
  have RW := RW2
  clear RW2
  have E12 : Hid (EnvB w [(w6.heap.size, .slice sua (len r3) suk), (gr1_9, .slice bca (len r2) bck), (gr1_8, .slice aba (len r1) abk), (w.heap.size + 1 + 1 + 1, .slice dq (len Q) cd), (w.heap.size + 1 + 1, .slice co (len O) cc), (w.heap.size + 1, .slice bo (len M) cb), (w.heap.size, .slice ao (len N) ca)] [(.slice ona (len r4) onk, digs r4), (.slice sua (len r3) suk, digs r3), (.slice bca (len r2) bck, digs r2), (.slice aba (len r1) abk, digs r1), (.slice dq (len Q) cd, digs Q), (.slice co (len O) cc, digs O), (.slice bo (len M) cb, digs M), (.slice ao (len N) ca, digs N)] _) := Lib.hid (((E11.out.below hb).numN (hon.out : Nt _ _ r4)))
  clear p13 f13 p14 f14 p15 f15 E11 E10 hb hon
  have RW2 : Hid (Good w3.heap.size (w7.alloc (.cells #[.slice ona (len r4) onk] 24))) := Lib.hid (RW.out.below (below_one _ _))
  clear RW
  have RW := RW2
  clear RW2
  have E13 : Hid (EnvB w [(w7.heap.size, .slice ona (len r4) onk), (w6.heap.size, .slice sua (len r3) suk), (gr1_9, .slice bca (len r2) bck), (gr1_8, .slice aba (len r1) abk), (w.heap.size + 1 + 1 + 1, .slice dq (len Q) cd), (w.heap.size + 1 + 1, .slice co (len O) cc), (w.heap.size + 1, .slice bo (len M) cb), (w.heap.size, .slice ao (len N) ca)] [(.slice ona (len r4) onk, digs r4), (.slice sua (len r3) suk, digs r3), (.slice bca (len r2) bck, digs r2), (.slice aba (len r1) abk, digs r1), (.slice dq (len Q) cd, digs Q), (.slice co (len O) cc, digs O), (.slice bo (len M) cb, digs M), (.slice ao (len N) ca, digs N)] _) := Lib.hid ((E12.out.push (.slice ona (len r4) onk) 24 ⟨_, _, _, rfl⟩ (w7.heap.size) (by simp)))
  obtain ⟨p16, f16, -, -, -⟩ := E13.out.box 7 rfl
  obtain ⟨p17, f17, -, -, -⟩ := E13.out.box 2 rfl
  go_wp2_with fail
  refine (do_Mulk (E13.out.box 4 rfl) RW.out (E13.out.nt 4 rfl) hk.out l4.out hn.out l2.out e4b.out (E13.out.nt 7 rfl) (E13.out.nt 2 rfl)).mono ?_
  rintro e w8 ⟨⟨twa, twk, rfl, htw⟩, hb⟩
  have RW2 := Lib.hid (RW.out.below hb)
  clear RW
  have RW := RW2
  clear RW2
  have E14 : Hid (EnvB w [(w7.heap.size, .slice ona (len r4) onk), (w6.heap.size, .slice sua (len r3) suk), (gr1_9, .slice bca (len r2) bck), (gr1_8, .slice aba (len r1) abk), (w.heap.size + 1 + 1 + 1, .slice dq (len Q) cd), (w.heap.size + 1 + 1, .slice co (len O) cc), (w.heap.size + 1, .slice bo (len M) cb), (w.heap.size, .slice ao (len N) ca)] [(.slice twa (len r4) twk, digs r4), (.slice ona (len r4) onk, digs r4), (.slice sua (len r3) suk, digs r3), (.slice bca (len r2) bck, digs r2), (.slice aba (len r1) abk, digs r1), (.slice dq (len Q) cd, digs Q), (.slice co (len O) cc, digs O), (.slice bo (len M) cb, digs M), (.slice ao (len N) ca, digs N)] _) := Lib.hid (((E13.out.below hb).numN (htw.out : Nt _ _ r4)))
  clear p16 f16 p17 f17 E13 E12 hb htw
  have RW2 : Hid (Good w3.heap.size (w8.alloc (.cells #[.slice twa (len r4) twk] 24))) := Lib.hid (RW.out.below (below_one _ _))
  clear RW
  have RW := RW2
  clear RW2
  have E15 : Hid (EnvB w [(w8.heap.size, .slice twa (len r4) twk), (w7.heap.size, .slice ona (len r4) onk), (w6.heap.size, .slice sua (len r3) suk), (gr1_9, .slice bca (len r2) bck), (gr1_8, .slice aba (len r1) abk), (w.heap.size + 1 + 1 + 1, .slice dq (len Q) cd), (w.heap.size + 1 + 1, .slice co (len O) cc), (w.heap.size + 1, .slice bo (len M) cb), (w.heap.size, .slice ao (len N) ca)] [(.slice twa (len r4) twk, digs r4), (.slice ona (len r4) onk, digs r4), (.slice sua (len r3) suk, digs r3), (.slice bca (len r2) bck, digs r2), (.slice aba (len r1) abk, digs r1), (.slice dq (len Q) cd, digs Q), (.slice co (len O) cc, digs O), (.slice bo (len M) cb, digs M), (.slice ao (len N) ca, digs N)] _) := Lib.hid ((E14.out.push (.slice twa (len r4) twk) 24 ⟨_, _, _, rfl⟩ (w8.heap.size) (by simp)))
  obtain ⟨p18, f18, -, -, -⟩ := E15.out.box 2 rfl
  obtain ⟨p19, f19, -, -, -⟩ := E15.out.box 6 rfl
  go_wp2_with fail
  refine (do_Mulk (E15.out.box 5 rfl) RW.out (E15.out.nt 5 rfl) hk.out l5.out l3.out ho.out e5.out (E15.out.nt 2 rfl) (E15.out.nt 6 rfl)).mono ?_
  rintro e w9 ⟨⟨lea, lek, rfl, hle⟩, hb⟩
  have RW2 := Lib.hid (RW.out.below hb)
  clear RW
  have RW := RW2
  clear RW2
  have E16 : Hid (EnvB w [(w8.heap.size, .slice twa (len r4) twk), (w7.heap.size, .slice ona (len r4) onk), (w6.heap.size, .slice sua (len r3) suk), (gr1_9, .slice bca (len r2) bck), (gr1_8, .slice aba (len r1) abk), (w.heap.size + 1 + 1 + 1, .slice dq (len Q) cd), (w.heap.size + 1 + 1, .slice co (len O) cc), (w.heap.size + 1, .slice bo (len M) cb), (w.heap.size, .slice ao (len N) ca)] [(.slice lea (len r5) lek, digs r5), (.slice twa (len r4) twk, digs r4), (.slice ona (len r4) onk, digs r4), (.slice sua (len r3) suk, digs r3), (.slice bca (len r2) bck, digs r2), (.slice aba (len r1) abk, digs r1), (.slice dq (len Q) cd, digs Q), (.slice co (len O) cc, digs O), (.slice bo (len M) cb, digs M), (.slice ao (len N) ca, digs N)] _) := Lib.hid (((E15.out.below hb).numN (hle.out : Nt _ _ r5)))
  clear p18 f18 p19 f19 E15 E14 hb hle
  go_wp2_with fail
  have RW2 : Hid (Good w3.heap.size (w9.alloc (.cells #[.slice lea (len r5) lek] 24))) := Lib.hid (RW.out.below (below_one _ _))
  clear RW
  have RW := RW2
  clear RW2
  have E17 : Hid (EnvB w [(w9.heap.size, .slice lea (len r5) lek), (w8.heap.size, .slice twa (len r4) twk), (w7.heap.size, .slice ona (len r4) onk), (w6.heap.size, .slice sua (len r3) suk), (gr1_9, .slice bca (len r2) bck), (gr1_8, .slice aba (len r1) abk), (w.heap.size + 1 + 1 + 1, .slice dq (len Q) cd), (w.heap.size + 1 + 1, .slice co (len O) cc), (w.heap.size + 1, .slice bo (len M) cb), (w.heap.size, .slice ao (len N) ca)] [(.slice lea (len r5) lek, digs r5), (.slice twa (len r4) twk, digs r4), (.slice ona (len r4) onk, digs r4), (.slice sua (len r3) suk, digs r3), (.slice bca (len r2) bck, digs r2), (.slice aba (len r1) abk, digs r1), (.slice dq (len Q) cd, digs Q), (.slice co (len O) cc, digs O), (.slice bo (len M) cb, digs M), (.slice ao (len N) ca, digs N)] _) := Lib.hid ((E16.out.push (.slice lea (len r5) lek) 24 ⟨_, _, _, rfl⟩ (w9.heap.size) (by simp)))
  have E18 : Hid (EnvB w [(w9.heap.size, .slice lea (len r5) lek), (w8.heap.size, .slice twa (len r4) twk), (w7.heap.size, .slice ona (len r4) onk), (w6.heap.size, .slice sua (len r3) suk), (gr1_9, .slice bca (len r2) bck), (gr1_8, .slice aba (len r1) abk), (w.heap.size + 1 + 1 + 1, .slice dq (len Q) cd), (w.heap.size + 1 + 1, .slice co (len O) cc), (w.heap.size + 1, .slice bo (len M) cb), (w.heap.size, .slice ao (len N) ca)] [(.slice lea (len r5) lek, digs r5), (.slice twa (len r4) twk, digs r4), (.slice ona (len r4) onk, digs r4), (.slice sua (len r3) suk, digs r3), (.slice bca (len r2) bck, digs r2), (.slice aba (len r1) abk, digs r1), (.slice dq (len Q) cd, digs Q), (.slice co (len O) cc, digs O), (.slice bo (len M) cb, digs M), (.slice ao (len N) ca, digs N)] (w9.alloc (.cells #[.slice lea (len r5) lek] 24))) := Lib.hid (E17.out)
  clear E17
  generalize w9.alloc (.cells #[.slice lea (len r5) lek] 24) = w10 at *
  have bx0 := Lib.hid (E18.out.box 9 rfl)
  have bx1 := Lib.hid (E18.out.box 7 rfl)
  have bx2 := Lib.hid (E18.out.box 4 rfl)
  refine' wp_region_phase (by kernel_rfl) [0, 1, 2, 3, 4, 5, 6, 7] (by kernel_rfl) #[true, true, true, true, true, true, true, true, false] (by kernel_rfl) 1 (by kernel_rfl) [PEq (.func (.func 27) #[] #[.pointer (some ⟨w.heap.size + 1 + 1 + 1, 0, none⟩), .pointer (some ⟨w3.heap.size, 0, none⟩)]), PEq (.func (.func 27) #[] #[.pointer (some ⟨w.heap.size + 1 + 1 + 1, 0, none⟩), .pointer (some ⟨w3.heap.size, 0, none⟩)]), PEq (.agg #[.slice ao (len N) ca]), PEq (.agg #[.slice co (len O) cc]), PNum (r6), PEq (.agg #[.slice bca (len r2) bck]), PNum (r5), PBox w10.heap.size, Fact.none] (List.forall_mem_cons.2 ⟨PEq.st _, List.forall_mem_cons.2 ⟨PEq.st _, List.forall_mem_cons.2 ⟨PEq.st _, List.forall_mem_cons.2 ⟨PEq.st _, List.forall_mem_cons.2 ⟨PNum.st _, List.forall_mem_cons.2 ⟨PEq.st _, List.forall_mem_cons.2 ⟨PNum.st _, List.forall_mem_cons.2 ⟨PBox.st _, List.forall_mem_cons.2 ⟨Fact.none_st, List.forall_mem_nil _⟩⟩⟩⟩⟩⟩⟩⟩⟩) _ ?hFr2 ?stepr2 ?doner2
  case hFr2 => intro x; simp only [frameL, Act.put, List.setIfInBounds_toArray, List.set_cons_zero, List.set_cons_succ, Nat.zero_add, Nat.reduceAdd]; exact rfl
  case stepr2 =>
    refine List.forall_mem_cons.2 ⟨?_, ?_⟩
    · intro xv bv ev WW hB hdp
      refine op_of rfl ?_
      clear hdp
      intro KK hKK
      go_simp
      exact act_eq (hKK.out _ _ (Below.refl _ _) rfl) (by first | rfl | simp [upd])
    refine List.forall_mem_cons.2 ⟨?_, ?_⟩
    · intro xv bv ev WW hB hdp
      refine op_of rfl ?_
      clear hdp
      intro KK hKK
      go_simp
      exact act_eq (hKK.out _ _ (Below.refl _ _) rfl) (by first | rfl | simp [upd])
    refine List.forall_mem_cons.2 ⟨?_, ?_⟩
    · intro xv bv ev WW hB hdp
      refine op_of rfl ?_
      clear hdp
      intro KK hKK
      obtain ⟨z, -, -, -, -⟩ := bx0.out.below hB
      go_simp
      exact act_eq (hKK.out (.agg #[.slice ao (len N) ca]) _ (Below.refl _ _) rfl) (by first | rfl | simp [upd])
    refine List.forall_mem_cons.2 ⟨?_, ?_⟩
    · intro xv bv ev WW hB hdp
      refine op_of rfl ?_
      clear hdp
      intro KK hKK
      obtain ⟨z, -, -, -, -⟩ := bx1.out.below hB
      go_simp
      exact act_eq (hKK.out (.agg #[.slice co (len O) cc]) _ (Below.refl _ _) rfl) (by first | rfl | simp [upd])
    refine List.forall_mem_cons.2 ⟨?_, ?_⟩
    · intro xv bv ev WW hB hdp
      refine op_of rfl ?_
      have ed1 : xv 1 = .func (.func 27) #[] #[.pointer (some ⟨w.heap.size + 1 + 1 + 1, 0, none⟩), .pointer (some ⟨w3.heap.size, 0, none⟩)] := hdp 1 (by kernel_rfl)
      have ed2 : xv 2 = .agg #[.slice ao (len N) ca] := hdp 2 (by kernel_rfl)
      have ed3 : xv 3 = .agg #[.slice co (len O) cc] := hdp 3 (by kernel_rfl)
      clear hdp
      intro KK hKK
      go_simp
      refine (do_Mulk ((E18.out.below hB).box 6 rfl) (RW.out.below hB) ((E18.out.below hB).nt 6 rfl) hk.out l6.out hn.out ho.out e6.out ((E18.out.below hB).nt 9 rfl) ((E18.out.below hB).nt 7 rfl)).mono ?_
      rintro e WW' ⟨⟨aca, ack, rfl, hac⟩, hb⟩
      (try dsimp only)
      (try simp only [Act.put, List.setIfInBounds_toArray, List.set_cons_zero, List.set_cons_succ])
      exact act_eq (hKK.out _ _ hb ⟨_, _, rfl, hac⟩) (by first | rfl | simp [upd, ed1, ed2, ed3])
    refine List.forall_mem_cons.2 ⟨?_, ?_⟩
    · intro xv bv ev WW hB hdp
      refine op_of rfl ?_
      clear hdp
      intro KK hKK
      obtain ⟨z, -, -, -, -⟩ := bx2.out.below hB
      go_simp
      exact act_eq (hKK.out (.agg #[.slice bca (len r2) bck]) _ (Below.refl _ _) rfl) (by first | rfl | simp [upd])
    refine List.forall_mem_cons.2 ⟨?_, ?_⟩
    · intro xv bv ev WW hB hdp
      refine op_of rfl ?_
      have ed0 : xv 0 = .func (.func 27) #[] #[.pointer (some ⟨w.heap.size + 1 + 1 + 1, 0, none⟩), .pointer (some ⟨w3.heap.size, 0, none⟩)] := hdp 0 (by kernel_rfl)
      obtain ⟨aca, ack, ed4, hac⟩ := (show (PNum (r6)) (xv 4) (bv 4) (ev 4) WW from hdp 4 (by kernel_rfl))
      have ed5 : xv 5 = .agg #[.slice bca (len r2) bck] := hdp 5 (by kernel_rfl)
      clear hdp
      intro KK hKK
      go_simp
      refine (do_Addk ((E18.out.below hB).box 6 rfl) (RW.out.below hB) ((E18.out.below hB).nt 6 rfl) hk.out l5.out l6.out l2.out e5b.out hac.out ((E18.out.below hB).nt 4 rfl)).mono ?_
      rintro e WW' ⟨⟨ria, rik, rfl, hri⟩, hb⟩
      (try dsimp only)
      (try simp only [Act.put, List.setIfInBounds_toArray, List.set_cons_zero, List.set_cons_succ])
      exact act_eq (hKK.out _ _ hb ⟨_, _, rfl, hri⟩) (by first | rfl | simp [upd, ed0, ed4, ed5])
    refine List.forall_mem_cons.2 ⟨?_, ?_⟩
    · intro xv bv ev WW hB hdp
      refine op_of rfl ?_
      clear hdp
      intro KK hKK
      go_simp
      exact act_eq (hKK.out (.pointer (some ⟨WW.heap.size, 0, none⟩)) _ (below_one _ _) (PBox.mk hB rfl _)) (by first | rfl | simp [upd])
    exact List.forall_mem_nil _
  intro xv bv ev w11 hB hR hO
  have ed0 : xv 0 = .func (.func 27) #[] #[.pointer (some ⟨w.heap.size + 1 + 1 + 1, 0, none⟩), .pointer (some ⟨w3.heap.size, 0, none⟩)] := hR 0 (by kernel_rfl)
  have ed1 : xv 1 = .func (.func 27) #[] #[.pointer (some ⟨w.heap.size + 1 + 1 + 1, 0, none⟩), .pointer (some ⟨w3.heap.size, 0, none⟩)] := hR 1 (by kernel_rfl)
  have ed2 : xv 2 = .agg #[.slice ao (len N) ca] := hR 2 (by kernel_rfl)
  have ed3 : xv 3 = .agg #[.slice co (len O) cc] := hR 3 (by kernel_rfl)
  obtain ⟨aca, ack, ed4, hac⟩ := (show (PNum (r6)) (xv 4) (bv 4) (ev 4) w11 from hR 4 (by kernel_rfl))
  have ed5 : xv 5 = .agg #[.slice bca (len r2) bck] := hR 5 (by kernel_rfl)
  obtain ⟨ria, rik, ed6, hri⟩ := (show (PNum (r5)) (xv 6) (bv 6) (ev 6) w11 from hR 6 (by kernel_rfl))
  obtain ⟨gr2_7, ed7, hg7, hb7, he7, hc7, hf7, hs7⟩ := (show (PBox w10.heap.size) (xv 7) (bv 7) (ev 7) w11 from hR 7 (by kernel_rfl))
  simp only [ed0, ed1, ed2, ed3, ed4, ed5, ed6, ed7]
  have RW2 := Lib.hid (RW.out.below hB)
  clear RW
  have RW := RW2
  clear RW2
  have E19 : Hid (EnvB w [(gr2_7, .slice none 0 0), (w9.heap.size, .slice lea (len r5) lek), (w8.heap.size, .slice twa (len r4) twk), (w7.heap.size, .slice ona (len r4) onk), (w6.heap.size, .slice sua (len r3) suk), (gr1_9, .slice bca (len r2) bck), (gr1_8, .slice aba (len r1) abk), (w.heap.size + 1 + 1 + 1, .slice dq (len Q) cd), (w.heap.size + 1 + 1, .slice co (len O) cc), (w.heap.size + 1, .slice bo (len M) cb), (w.heap.size, .slice ao (len N) ca)] [(.slice ria (len r5) rik, digs r5), (.slice aca (len r6) ack, digs r6), (.slice lea (len r5) lek, digs r5), (.slice twa (len r4) twk, digs r4), (.slice ona (len r4) onk, digs r4), (.slice sua (len r3) suk, digs r3), (.slice bca (len r2) bck, digs r2), (.slice aba (len r1) abk, digs r1), (.slice dq (len Q) cd, digs Q), (.slice co (len O) cc, digs O), (.slice bo (len M) cb, digs M), (.slice ao (len N) ca, digs N)] _) := Lib.hid (((((E18.out.below hB).add gr2_7 (.slice none 0 0) ⟨hc7, hf7, hs7, Nat.le_trans E18.out.size hg7, ⟨_, _, _, rfl⟩⟩ (fun p hp => by have := E18.out.old p hp; omega)).numN (hac.out : Nt _ _ (r6))).numN (hri.out : Nt _ _ (r5))))
  clear E18 E16 hB hR hO bx0 bx1 bx2 ed0 ed1 ed2 ed3 ed4 ed5 ed6 ed7 hac hri hg7 hb7 he7 hc7 hf7 hs7
  obtain ⟨p20, f20, -, -, -⟩ := E19.out.box 0 rfl
  refine wpAny_next (i := 8) (by kernel_rfl) rfl (fun KK hKK => ?_)
  go_simp
  have RW2 : Hid (Good w3.heap.size (w11.setCell ⟨gr2_7, 0, none⟩ (.slice ria (len r5) rik))) := Lib.hid (RW.out.set (E19.out.box 0 rfl) _)
  clear RW
  have RW := RW2
  clear RW2
  have E20 : Hid (EnvB w [(gr2_7, .slice ria (len r5) rik), (w9.heap.size, .slice lea (len r5) lek), (w8.heap.size, .slice twa (len r4) twk), (w7.heap.size, .slice ona (len r4) onk), (w6.heap.size, .slice sua (len r3) suk), (gr1_9, .slice bca (len r2) bck), (gr1_8, .slice aba (len r1) abk), (w.heap.size + 1 + 1 + 1, .slice dq (len Q) cd), (w.heap.size + 1 + 1, .slice co (len O) cc), (w.heap.size + 1, .slice bo (len M) cb), (w.heap.size, .slice ao (len N) ca)] [(.slice ria (len r5) rik, digs r5), (.slice aca (len r6) ack, digs r6), (.slice lea (len r5) lek, digs r5), (.slice twa (len r4) twk, digs r4), (.slice ona (len r4) onk, digs r4), (.slice sua (len r3) suk, digs r3), (.slice bca (len r2) bck, digs r2), (.slice aba (len r1) abk, digs r1), (.slice dq (len Q) cd, digs Q), (.slice co (len O) cc, digs O), (.slice bo (len M) cb, digs M), (.slice ao (len N) ca, digs N)] _) := Lib.hid ((E19.out.set 0 (.slice ria (len r5) rik) rfl ⟨_, _, _, rfl⟩))
  refine hKK.out _ _ ?_
  clear hKK KK
  refine wpAny_done (by kernel_rfl) ?_ _
  obtain ⟨p21, f21, -, -, -⟩ := E20.out.box 4 rfl
  obtain ⟨p22, f22, -, -, -⟩ := E20.out.box 9 rfl
  go_wp2_with fail
  refine (do_Subk (E20.out.box 7 rfl) RW.out (E20.out.nt 8 rfl) hk.out hn.out l3.out hm9.out e7.out (E20.out.nt 5 rfl) (E20.out.nt 10 rfl)).mono ?_
  rintro e w12 ⟨⟨baa, bak, rfl, hba⟩, hb⟩
  have RW2 := Lib.hid (RW.out.below hb)
  clear RW
  have RW := RW2
  clear RW2
  have E21 : Hid (EnvB w [(gr2_7, .slice ria (len r5) rik), (w9.heap.size, .slice lea (len r5) lek), (w8.heap.size, .slice twa (len r4) twk), (w7.heap.size, .slice ona (len r4) onk), (w6.heap.size, .slice sua (len r3) suk), (gr1_9, .slice bca (len r2) bck), (gr1_8, .slice aba (len r1) abk), (w.heap.size + 1 + 1 + 1, .slice dq (len Q) cd), (w.heap.size + 1 + 1, .slice co (len O) cc), (w.heap.size + 1, .slice bo (len M) cb), (w.heap.size, .slice ao (len N) ca)] [(.slice baa (len N) bak, digs N), (.slice ria (len r5) rik, digs r5), (.slice aca (len r6) ack, digs r6), (.slice lea (len r5) lek, digs r5), (.slice twa (len r4) twk, digs r4), (.slice ona (len r4) onk, digs r4), (.slice sua (len r3) suk, digs r3), (.slice bca (len r2) bck, digs r2), (.slice aba (len r1) abk, digs r1), (.slice dq (len Q) cd, digs Q), (.slice co (len O) cc, digs O), (.slice bo (len M) cb, digs M), (.slice ao (len N) ca, digs N)] _) := Lib.hid (((E20.out.below hb).numN (hba.out : Nt _ _ N)))
  clear p20 f20 p21 f21 p22 f22 E20 E19 hb hba
  have RW2 : Hid (Good w3.heap.size (w12.alloc (.cells #[.slice baa (len N) bak] 24))) := Lib.hid (RW.out.below (below_one _ _))
  clear RW
  have RW := RW2
  clear RW2
  have E22 : Hid (EnvB w [(w12.heap.size, .slice baa (len N) bak), (gr2_7, .slice ria (len r5) rik), (w9.heap.size, .slice lea (len r5) lek), (w8.heap.size, .slice twa (len r4) twk), (w7.heap.size, .slice ona (len r4) onk), (w6.heap.size, .slice sua (len r3) suk), (gr1_9, .slice bca (len r2) bck), (gr1_8, .slice aba (len r1) abk), (w.heap.size + 1 + 1 + 1, .slice dq (len Q) cd), (w.heap.size + 1 + 1, .slice co (len O) cc), (w.heap.size + 1, .slice bo (len M) cb), (w.heap.size, .slice ao (len N) ca)] [(.slice baa (len N) bak, digs N), (.slice ria (len r5) rik, digs r5), (.slice aca (len r6) ack, digs r6), (.slice lea (len r5) lek, digs r5), (.slice twa (len r4) twk, digs r4), (.slice ona (len r4) onk, digs r4), (.slice sua (len r3) suk, digs r3), (.slice bca (len r2) bck, digs r2), (.slice aba (len r1) abk, digs r1), (.slice dq (len Q) cd, digs Q), (.slice co (len O) cc, digs O), (.slice bo (len M) cb, digs M), (.slice ao (len N) ca, digs N)] _) := Lib.hid ((E21.out.push (.slice baa (len N) bak) 24 ⟨_, _, _, rfl⟩ (w12.heap.size) (by simp)))
  obtain ⟨p23, f23, -, -, -⟩ := E22.out.box 11 rfl
  go_wp2_with fail
  refine (calls_rz (do_Subk (E22.out.box 8 rfl) RW.out (E22.out.nt 9 rfl) hk.out lz.out hn.out hn.out e8.out (E22.out.nt 12 rfl) (E22.out.nt 12 rfl))).mono ?_
  rintro e w13 ⟨⟨zea, zek, rfl⟩, hb⟩
  have RW2 := Lib.hid (RW.out.below hb)
  clear RW
  have RW := RW2
  clear RW2
  have E23 : Hid (EnvB w [(w12.heap.size, .slice baa (len N) bak), (gr2_7, .slice ria (len r5) rik), (w9.heap.size, .slice lea (len r5) lek), (w8.heap.size, .slice twa (len r4) twk), (w7.heap.size, .slice ona (len r4) onk), (w6.heap.size, .slice sua (len r3) suk), (gr1_9, .slice bca (len r2) bck), (gr1_8, .slice aba (len r1) abk), (w.heap.size + 1 + 1 + 1, .slice dq (len Q) cd), (w.heap.size + 1 + 1, .slice co (len O) cc), (w.heap.size + 1, .slice bo (len M) cb), (w.heap.size, .slice ao (len N) ca)] [(.slice baa (len N) bak, digs N), (.slice ria (len r5) rik, digs r5), (.slice aca (len r6) ack, digs r6), (.slice lea (len r5) lek, digs r5), (.slice twa (len r4) twk, digs r4), (.slice ona (len r4) onk, digs r4), (.slice sua (len r3) suk, digs r3), (.slice bca (len r2) bck, digs r2), (.slice aba (len r1) abk, digs r1), (.slice dq (len Q) cd, digs Q), (.slice co (len O) cc, digs O), (.slice bo (len M) cb, digs M), (.slice ao (len N) ca, digs N)] _) := Lib.hid ((E22.out.below hb))
  clear p23 f23 E22 E21 hb
  go_wp2_with fail
  have RW2 : Hid (Good w3.heap.size (w13.alloc (.cells #[.slice zea 0 zek] 24))) := Lib.hid (RW.out.below (below_one _ _))
  clear RW
  have RW := RW2
  clear RW2
  have E24 : Hid (EnvB w [(w13.heap.size, .slice zea 0 zek), (w12.heap.size, .slice baa (len N) bak), (gr2_7, .slice ria (len r5) rik), (w9.heap.size, .slice lea (len r5) lek), (w8.heap.size, .slice twa (len r4) twk), (w7.heap.size, .slice ona (len r4) onk), (w6.heap.size, .slice sua (len r3) suk), (gr1_9, .slice bca (len r2) bck), (gr1_8, .slice aba (len r1) abk), (w.heap.size + 1 + 1 + 1, .slice dq (len Q) cd), (w.heap.size + 1 + 1, .slice co (len O) cc), (w.heap.size + 1, .slice bo (len M) cb), (w.heap.size, .slice ao (len N) ca)] [(.slice baa (len N) bak, digs N), (.slice ria (len r5) rik, digs r5), (.slice aca (len r6) ack, digs r6), (.slice lea (len r5) lek, digs r5), (.slice twa (len r4) twk, digs r4), (.slice ona (len r4) onk, digs r4), (.slice sua (len r3) suk, digs r3), (.slice bca (len r2) bck, digs r2), (.slice aba (len r1) abk, digs r1), (.slice dq (len Q) cd, digs Q), (.slice co (len O) cc, digs O), (.slice bo (len M) cb, digs M), (.slice ao (len N) ca, digs N)] _) := Lib.hid ((E23.out.push (.slice zea 0 zek) 24 ⟨_, _, _, rfl⟩ (w13.heap.size) (by simp)))
  have E25 : Hid (EnvB w [(w13.heap.size, .slice zea 0 zek), (w12.heap.size, .slice baa (len N) bak), (gr2_7, .slice ria (len r5) rik), (w9.heap.size, .slice lea (len r5) lek), (w8.heap.size, .slice twa (len r4) twk), (w7.heap.size, .slice ona (len r4) onk), (w6.heap.size, .slice sua (len r3) suk), (gr1_9, .slice bca (len r2) bck), (gr1_8, .slice aba (len r1) abk), (w.heap.size + 1 + 1 + 1, .slice dq (len Q) cd), (w.heap.size + 1 + 1, .slice co (len O) cc), (w.heap.size + 1, .slice bo (len M) cb), (w.heap.size, .slice ao (len N) ca)] [(.slice baa (len N) bak, digs N), (.slice ria (len r5) rik, digs r5), (.slice aca (len r6) ack, digs r6), (.slice lea (len r5) lek, digs r5), (.slice twa (len r4) twk, digs r4), (.slice ona (len r4) onk, digs r4), (.slice sua (len r3) suk, digs r3), (.slice bca (len r2) bck, digs r2), (.slice aba (len r1) abk, digs r1), (.slice dq (len Q) cd, digs Q), (.slice co (len O) cc, digs O), (.slice bo (len M) cb, digs M), (.slice ao (len N) ca, digs N)] (w13.alloc (.cells #[.slice zea 0 zek] 24))) := Lib.hid (E24.out)
  clear E24
  generalize w13.alloc (.cells #[.slice zea 0 zek] 24) = w14 at *
  have bx0 := Lib.hid (E25.out.box 5 rfl)
  have bx1 := Lib.hid (E25.out.box 4 rfl)
  have bx2 := Lib.hid (E25.out.box 3 rfl)
  have bx3 := Lib.hid (E25.out.box 2 rfl)
  have bx4 := Lib.hid (E25.out.box 1 rfl)
  have bx5 := Lib.hid (E25.out.box 12 rfl)
  have bx6 := Lib.hid (E25.out.box 0 rfl)
  have bx7 := Lib.hid (E25.out.box 8 rfl)
  have bx8 := Lib.hid (E25.out.box 11 rfl)
  have bx9 := Lib.hid (E25.out.box 6 rfl)
  refine' wp_region_phase (by kernel_rfl) [0, 1, 2, 3, 4, 5, 6, 7, 8, 9, 10, 11, 12, 13, 14, 15, 16, 17, 18, 19, 20, 21, 22, 23, 24, 25, 26, 27, 28, 29, 30, 31, 32, 33, 34, 35, 36, 37, 38, 39, 40] (by kernel_rfl) #[true, true, true, true, true, true, true, true, true, true, true, true, true, true, true, true, true, true, true, true, true, true, true, true, true, true, true, true, true, true, true, true, true, true, true, true, true, true, true, true, true, false] (by kernel_rfl) 1 (by kernel_rfl) [PEq (.bool true), PEq (.bool true), PEq (.agg #[.slice ona (len r4) onk]), PEq (.agg #[.slice twa (len r4) twk]), PEq (.bool true), PEq (.bool true), PEq (.bool true), PEq (.agg #[.slice lea (len r5) lek]), PEq (.agg #[.slice ria (len r5) rik]), PEq (.bool true), PEq (.bool true), PEq (.bool true), PEq (.agg #[.slice baa (len N) bak]), PEq (.agg #[.slice ao (len N) ca]), PEq (.bool true), PEq (.bool true), PEq (.bool true), PEq (.pointer (some ⟨w13.heap.size, 0, none⟩)), PEq (.slice zea 0 zek), PEq (.int .i64 0), PEq (.bool true), PEq (.bool true), PEq (.bool true), PEq (.agg #[.slice aba (len r1) abk]), PEq (.func (.func 27) #[] #[.pointer (some ⟨w.heap.size + 1 + 1 + 1, 0, none⟩), .pointer (some ⟨w3.heap.size, 0, none⟩)]), PEq (.agg #[.slice bo (len M) cb]), PEq (.agg #[.slice ao (len N) ca]), PNum (r1), PEq (.bool true), PEq (.bool true), PEq (.bool true), PEq (.agg #[.slice sua (len r3) suk]), PEq (.func (.func 27) #[] #[.pointer (some ⟨w.heap.size + 1 + 1 + 1, 0, none⟩), .pointer (some ⟨w3.heap.size, 0, none⟩)]), PEq (.agg #[.slice bo (len M) cb]), PEq (.agg #[.slice ao (len N) ca]), PNum (r3), PEq (.bool true), PEq (.bool true), PEq (.bool true), PEq (.bool true), PEq (.bool true), Fact.none] (List.forall_mem_cons.2 ⟨PEq.st _, List.forall_mem_cons.2 ⟨PEq.st _, List.forall_mem_cons.2 ⟨PEq.st _, List.forall_mem_cons.2 ⟨PEq.st _, List.forall_mem_cons.2 ⟨PEq.st _, List.forall_mem_cons.2 ⟨PEq.st _, List.forall_mem_cons.2 ⟨PEq.st _, List.forall_mem_cons.2 ⟨PEq.st _, List.forall_mem_cons.2 ⟨PEq.st _, List.forall_mem_cons.2 ⟨PEq.st _, List.forall_mem_cons.2 ⟨PEq.st _, List.forall_mem_cons.2 ⟨PEq.st _, List.forall_mem_cons.2 ⟨PEq.st _, List.forall_mem_cons.2 ⟨PEq.st _, List.forall_mem_cons.2 ⟨PEq.st _, List.forall_mem_cons.2 ⟨PEq.st _, List.forall_mem_cons.2 ⟨PEq.st _, List.forall_mem_cons.2 ⟨PEq.st _, List.forall_mem_cons.2 ⟨PEq.st _, List.forall_mem_cons.2 ⟨PEq.st _, List.forall_mem_cons.2 ⟨PEq.st _, List.forall_mem_cons.2 ⟨PEq.st _, List.forall_mem_cons.2 ⟨PEq.st _, List.forall_mem_cons.2 ⟨PEq.st _, List.forall_mem_cons.2 ⟨PEq.st _, List.forall_mem_cons.2 ⟨PEq.st _, List.forall_mem_cons.2 ⟨PEq.st _, List.forall_mem_cons.2 ⟨PNum.st _, List.forall_mem_cons.2 ⟨PEq.st _, List.forall_mem_cons.2 ⟨PEq.st _, List.forall_mem_cons.2 ⟨PEq.st _, List.forall_mem_cons.2 ⟨PEq.st _, List.forall_mem_cons.2 ⟨PEq.st _, List.forall_mem_cons.2 ⟨PEq.st _, List.forall_mem_cons.2 ⟨PEq.st _, List.forall_mem_cons.2 ⟨PNum.st _, List.forall_mem_cons.2 ⟨PEq.st _, List.forall_mem_cons.2 ⟨PEq.st _, List.forall_mem_cons.2 ⟨PEq.st _, List.forall_mem_cons.2 ⟨PEq.st _, List.forall_mem_cons.2 ⟨PEq.st _, List.forall_mem_cons.2 ⟨Fact.none_st, List.forall_mem_nil _⟩⟩⟩⟩⟩⟩⟩⟩⟩⟩⟩⟩⟩⟩⟩⟩⟩⟩⟩⟩⟩⟩⟩⟩⟩⟩⟩⟩⟩⟩⟩⟩⟩⟩⟩⟩⟩⟩⟩⟩⟩⟩) _ ?hFr3 ?stepr3 ?doner3
  case hFr3 => intro x; simp only [frameL, Act.put, List.setIfInBounds_toArray, List.set_cons_zero, List.set_cons_succ, Nat.zero_add, Nat.reduceAdd]; exact rfl
  case stepr3 =>
    refine List.forall_mem_cons.2 ⟨?_, ?_⟩
    · intro xv bv ev WW hB hdp
      refine op_of rfl ?_
      clear hdp
      intro KK hKK
      obtain ⟨-, z, -⟩ := RW.out.below hB
      go_simp
      exact act_eq (hKK.out (.bool true) _ (Below.refl _ _) rfl) (by first | rfl | simp [upd])
    refine List.forall_mem_cons.2 ⟨?_, ?_⟩
    · intro xv bv ev WW hB hdp
      refine op_of rfl ?_
      have ed0 : xv 0 = .bool true := hdp 0 (by kernel_rfl)
      clear hdp
      intro KK hKK
      go_simp
      exact act_eq (hKK.out _ _ (Below.refl _ _) rfl) (by first | rfl | simp [upd, ed0])
    refine List.forall_mem_cons.2 ⟨?_, ?_⟩
    · intro xv bv ev WW hB hdp
      refine op_of rfl ?_
      have ed1 : xv 1 = .bool true := hdp 1 (by kernel_rfl)
      clear hdp
      intro KK hKK
      refine op_guard (d := 84) rfl rfl (by first | exact congrArg some ed1 | simp [ed1]) ?_
      obtain ⟨z, -, -, -, -⟩ := bx0.out.below hB
      go_simp
      exact act_eq (hKK.out (.agg #[.slice ona (len r4) onk]) _ (Below.refl _ _) rfl) (by first | rfl | simp [upd, ed1])
    refine List.forall_mem_cons.2 ⟨?_, ?_⟩
    · intro xv bv ev WW hB hdp
      refine op_of rfl ?_
      have ed1 : xv 1 = .bool true := hdp 1 (by kernel_rfl)
      clear hdp
      intro KK hKK
      refine op_guard (d := 84) rfl rfl (by first | exact congrArg some ed1 | simp [ed1]) ?_
      obtain ⟨z, -, -, -, -⟩ := bx1.out.below hB
      go_simp
      exact act_eq (hKK.out (.agg #[.slice twa (len r4) twk]) _ (Below.refl _ _) rfl) (by first | rfl | simp [upd, ed1])
    refine List.forall_mem_cons.2 ⟨?_, ?_⟩
    · intro xv bv ev WW hB hdp
      refine op_of rfl ?_
      have ed2 : xv 2 = .agg #[.slice ona (len r4) onk] := hdp 2 (by kernel_rfl)
      have ed3 : xv 3 = .agg #[.slice twa (len r4) twk] := hdp 3 (by kernel_rfl)
      have ed1 : xv 1 = .bool true := hdp 1 (by kernel_rfl)
      clear hdp
      intro KK hKK
      refine op_guard (d := 84) rfl rfl (by first | exact congrArg some ed1 | simp [ed1]) ?_
      go_simp
      refine (same_c (t := true) (by simp) ((E25.out.below hB).nt 5 rfl) ((E25.out.below hB).nt 4 rfl)).mono ?_
      rintro e WW' ⟨rfl, hb⟩
      (try dsimp only)
      (try simp only [Act.put, List.setIfInBounds_toArray, List.set_cons_zero, List.set_cons_succ])
      exact act_eq (hKK.out _ _ hb rfl) (by first | rfl | simp [upd, ed2, ed3, ed1])
    refine List.forall_mem_cons.2 ⟨?_, ?_⟩
    · intro xv bv ev WW hB hdp
      refine op_of rfl ?_
      have ed1 : xv 1 = .bool true := hdp 1 (by kernel_rfl)
      have ed4 : xv 4 = .bool true := hdp 4 (by kernel_rfl)
      clear hdp
      intro KK hKK
      go_simp
      exact act_eq (hKK.out _ _ (Below.refl _ _) rfl) (by first | rfl | simp [upd, ed1, ed4])
    refine List.forall_mem_cons.2 ⟨?_, ?_⟩
    · intro xv bv ev WW hB hdp
      refine op_of rfl ?_
      have ed5 : xv 5 = .bool true := hdp 5 (by kernel_rfl)
      clear hdp
      intro KK hKK
      go_simp
      exact act_eq (hKK.out _ _ (Below.refl _ _) rfl) (by first | rfl | simp [upd, ed5])
    refine List.forall_mem_cons.2 ⟨?_, ?_⟩
    · intro xv bv ev WW hB hdp
      refine op_of rfl ?_
      have ed6 : xv 6 = .bool true := hdp 6 (by kernel_rfl)
      clear hdp
      intro KK hKK
      refine op_guard (d := 89) rfl rfl (by first | exact congrArg some ed6 | simp [ed6]) ?_
      obtain ⟨z, -, -, -, -⟩ := bx2.out.below hB
      go_simp
      exact act_eq (hKK.out (.agg #[.slice lea (len r5) lek]) _ (Below.refl _ _) rfl) (by first | rfl | simp [upd, ed6])
    refine List.forall_mem_cons.2 ⟨?_, ?_⟩
    · intro xv bv ev WW hB hdp
      refine op_of rfl ?_
      have ed6 : xv 6 = .bool true := hdp 6 (by kernel_rfl)
      clear hdp
      intro KK hKK
      refine op_guard (d := 89) rfl rfl (by first | exact congrArg some ed6 | simp [ed6]) ?_
      obtain ⟨z, -, -, -, -⟩ := bx3.out.below hB
      go_simp
      exact act_eq (hKK.out (.agg #[.slice ria (len r5) rik]) _ (Below.refl _ _) rfl) (by first | rfl | simp [upd, ed6])
    refine List.forall_mem_cons.2 ⟨?_, ?_⟩
    · intro xv bv ev WW hB hdp
      refine op_of rfl ?_
      have ed7 : xv 7 = .agg #[.slice lea (len r5) lek] := hdp 7 (by kernel_rfl)
      have ed8 : xv 8 = .agg #[.slice ria (len r5) rik] := hdp 8 (by kernel_rfl)
      have ed6 : xv 6 = .bool true := hdp 6 (by kernel_rfl)
      clear hdp
      intro KK hKK
      refine op_guard (d := 89) rfl rfl (by first | exact congrArg some ed6 | simp [ed6]) ?_
      go_simp
      refine (same_c (t := true) (by simp) ((E25.out.below hB).nt 3 rfl) ((E25.out.below hB).nt 1 rfl)).mono ?_
      rintro e WW' ⟨rfl, hb⟩
      (try dsimp only)
      (try simp only [Act.put, List.setIfInBounds_toArray, List.set_cons_zero, List.set_cons_succ])
      exact act_eq (hKK.out _ _ hb rfl) (by first | rfl | simp [upd, ed7, ed8, ed6])
    refine List.forall_mem_cons.2 ⟨?_, ?_⟩
    · intro xv bv ev WW hB hdp
      refine op_of rfl ?_
      have ed6 : xv 6 = .bool true := hdp 6 (by kernel_rfl)
      have ed9 : xv 9 = .bool true := hdp 9 (by kernel_rfl)
      clear hdp
      intro KK hKK
      go_simp
      exact act_eq (hKK.out _ _ (Below.refl _ _) rfl) (by first | rfl | simp [upd, ed6, ed9])
    refine List.forall_mem_cons.2 ⟨?_, ?_⟩
    · intro xv bv ev WW hB hdp
      refine op_of rfl ?_
      have ed10 : xv 10 = .bool true := hdp 10 (by kernel_rfl)
      clear hdp
      intro KK hKK
      go_simp
      exact act_eq (hKK.out _ _ (Below.refl _ _) rfl) (by first | rfl | simp [upd, ed10])
    refine List.forall_mem_cons.2 ⟨?_, ?_⟩
    · intro xv bv ev WW hB hdp
      refine op_of rfl ?_
      have ed11 : xv 11 = .bool true := hdp 11 (by kernel_rfl)
      clear hdp
      intro KK hKK
      refine op_guard (d := 94) rfl rfl (by first | exact congrArg some ed11 | simp [ed11]) ?_
      obtain ⟨z, -, -, -, -⟩ := bx4.out.below hB
      go_simp
      exact act_eq (hKK.out (.agg #[.slice baa (len N) bak]) _ (Below.refl _ _) rfl) (by first | rfl | simp [upd, ed11])
    refine List.forall_mem_cons.2 ⟨?_, ?_⟩
    · intro xv bv ev WW hB hdp
      refine op_of rfl ?_
      have ed11 : xv 11 = .bool true := hdp 11 (by kernel_rfl)
      clear hdp
      intro KK hKK
      refine op_guard (d := 94) rfl rfl (by first | exact congrArg some ed11 | simp [ed11]) ?_
      obtain ⟨z, -, -, -, -⟩ := bx5.out.below hB
      go_simp
      exact act_eq (hKK.out (.agg #[.slice ao (len N) ca]) _ (Below.refl _ _) rfl) (by first | rfl | simp [upd, ed11])
    refine List.forall_mem_cons.2 ⟨?_, ?_⟩
    · intro xv bv ev WW hB hdp
      refine op_of rfl ?_
      have ed12 : xv 12 = .agg #[.slice baa (len N) bak] := hdp 12 (by kernel_rfl)
      have ed13 : xv 13 = .agg #[.slice ao (len N) ca] := hdp 13 (by kernel_rfl)
      have ed11 : xv 11 = .bool true := hdp 11 (by kernel_rfl)
      clear hdp
      intro KK hKK
      refine op_guard (d := 94) rfl rfl (by first | exact congrArg some ed11 | simp [ed11]) ?_
      go_simp
      refine (same_c (t := true) (by simp) ((E25.out.below hB).nt 0 rfl) ((E25.out.below hB).nt 12 rfl)).mono ?_
      rintro e WW' ⟨rfl, hb⟩
      (try dsimp only)
      (try simp only [Act.put, List.setIfInBounds_toArray, List.set_cons_zero, List.set_cons_succ])
      exact act_eq (hKK.out _ _ hb rfl) (by first | rfl | simp [upd, ed12, ed13, ed11])
    refine List.forall_mem_cons.2 ⟨?_, ?_⟩
    · intro xv bv ev WW hB hdp
      refine op_of rfl ?_
      have ed11 : xv 11 = .bool true := hdp 11 (by kernel_rfl)
      have ed14 : xv 14 = .bool true := hdp 14 (by kernel_rfl)
      clear hdp
      intro KK hKK
      go_simp
      exact act_eq (hKK.out _ _ (Below.refl _ _) rfl) (by first | rfl | simp [upd, ed11, ed14])
    refine List.forall_mem_cons.2 ⟨?_, ?_⟩
    · intro xv bv ev WW hB hdp
      refine op_of rfl ?_
      have ed15 : xv 15 = .bool true := hdp 15 (by kernel_rfl)
      clear hdp
      intro KK hKK
      go_simp
      exact act_eq (hKK.out _ _ (Below.refl _ _) rfl) (by first | rfl | simp [upd, ed15])
    refine List.forall_mem_cons.2 ⟨?_, ?_⟩
    · intro xv bv ev WW hB hdp
      refine op_of rfl ?_
      have ed16 : xv 16 = .bool true := hdp 16 (by kernel_rfl)
      clear hdp
      intro KK hKK
      refine op_guard (d := 99) rfl rfl (by first | exact congrArg some ed16 | simp [ed16]) ?_
      go_simp
      exact act_eq (hKK.out _ _ (Below.refl _ _) rfl) (by first | rfl | simp [upd, ed16])
    refine List.forall_mem_cons.2 ⟨?_, ?_⟩
    · intro xv bv ev WW hB hdp
      refine op_of rfl ?_
      have ed17 : xv 17 = .pointer (some ⟨w13.heap.size, 0, none⟩) := hdp 17 (by kernel_rfl)
      have ed16 : xv 16 = .bool true := hdp 16 (by kernel_rfl)
      clear hdp
      intro KK hKK
      refine op_guard (d := 99) rfl rfl (by first | exact congrArg some ed16 | simp [ed16]) ?_
      obtain ⟨z, -, -, -, -⟩ := bx6.out.below hB
      go_simp
      exact act_eq (hKK.out (.slice zea 0 zek) _ (Below.refl _ _) rfl) (by first | rfl | simp [upd, ed17, ed16])
    refine List.forall_mem_cons.2 ⟨?_, ?_⟩
    · intro xv bv ev WW hB hdp
      refine op_of rfl ?_
      have ed18 : xv 18 = .slice zea 0 zek := hdp 18 (by kernel_rfl)
      have ed16 : xv 16 = .bool true := hdp 16 (by kernel_rfl)
      clear hdp
      intro KK hKK
      refine op_guard (d := 99) rfl rfl (by first | exact congrArg some ed16 | simp [ed16]) ?_
      go_simp
      exact act_eq (hKK.out _ _ (Below.refl _ _) rfl) (by first | rfl | simp [upd, ed18, ed16])
    refine List.forall_mem_cons.2 ⟨?_, ?_⟩
    · intro xv bv ev WW hB hdp
      refine op_of rfl ?_
      have ed19 : xv 19 = .int .i64 0 := hdp 19 (by kernel_rfl)
      have ed16 : xv 16 = .bool true := hdp 16 (by kernel_rfl)
      clear hdp
      intro KK hKK
      refine op_guard (d := 99) rfl rfl (by first | exact congrArg some ed16 | simp [ed16]) ?_
      go_simp
      exact act_eq (hKK.out _ _ (Below.refl _ _) rfl) (by first | rfl | simp [upd, ed19, ed16])
    refine List.forall_mem_cons.2 ⟨?_, ?_⟩
    · intro xv bv ev WW hB hdp
      refine op_of rfl ?_
      have ed16 : xv 16 = .bool true := hdp 16 (by kernel_rfl)
      have ed20 : xv 20 = .bool true := hdp 20 (by kernel_rfl)
      clear hdp
      intro KK hKK
      go_simp
      exact act_eq (hKK.out _ _ (Below.refl _ _) rfl) (by first | rfl | simp [upd, ed16, ed20])
    refine List.forall_mem_cons.2 ⟨?_, ?_⟩
    · intro xv bv ev WW hB hdp
      refine op_of rfl ?_
      have ed21 : xv 21 = .bool true := hdp 21 (by kernel_rfl)
      clear hdp
      intro KK hKK
      go_simp
      exact act_eq (hKK.out _ _ (Below.refl _ _) rfl) (by first | rfl | simp [upd, ed21])
    refine List.forall_mem_cons.2 ⟨?_, ?_⟩
    · intro xv bv ev WW hB hdp
      refine op_of rfl ?_
      have ed22 : xv 22 = .bool true := hdp 22 (by kernel_rfl)
      clear hdp
      intro KK hKK
      refine op_guard (d := 105) rfl rfl (by first | exact congrArg some ed22 | simp [ed22]) ?_
      obtain ⟨z, -, -, -, -⟩ := bx7.out.below hB
      go_simp
      exact act_eq (hKK.out (.agg #[.slice aba (len r1) abk]) _ (Below.refl _ _) rfl) (by first | rfl | simp [upd, ed22])
    refine List.forall_mem_cons.2 ⟨?_, ?_⟩
    · intro xv bv ev WW hB hdp
      refine op_of rfl ?_
      have ed22 : xv 22 = .bool true := hdp 22 (by kernel_rfl)
      clear hdp
      intro KK hKK
      refine op_guard (d := 105) rfl rfl (by first | exact congrArg some ed22 | simp [ed22]) ?_
      go_simp
      exact act_eq (hKK.out _ _ (Below.refl _ _) rfl) (by first | rfl | simp [upd, ed22])
    refine List.forall_mem_cons.2 ⟨?_, ?_⟩
    · intro xv bv ev WW hB hdp
      refine op_of rfl ?_
      have ed22 : xv 22 = .bool true := hdp 22 (by kernel_rfl)
      clear hdp
      intro KK hKK
      refine op_guard (d := 105) rfl rfl (by first | exact congrArg some ed22 | simp [ed22]) ?_
      obtain ⟨z, -, -, -, -⟩ := bx8.out.below hB
      go_simp
      exact act_eq (hKK.out (.agg #[.slice bo (len M) cb]) _ (Below.refl _ _) rfl) (by first | rfl | simp [upd, ed22])
    refine List.forall_mem_cons.2 ⟨?_, ?_⟩
    · intro xv bv ev WW hB hdp
      refine op_of rfl ?_
      have ed22 : xv 22 = .bool true := hdp 22 (by kernel_rfl)
      clear hdp
      intro KK hKK
      refine op_guard (d := 105) rfl rfl (by first | exact congrArg some ed22 | simp [ed22]) ?_
      obtain ⟨z, -, -, -, -⟩ := bx5.out.below hB
      go_simp
      exact act_eq (hKK.out (.agg #[.slice ao (len N) ca]) _ (Below.refl _ _) rfl) (by first | rfl | simp [upd, ed22])
    refine List.forall_mem_cons.2 ⟨?_, ?_⟩
    · intro xv bv ev WW hB hdp
      refine op_of rfl ?_
      have ed24 : xv 24 = .func (.func 27) #[] #[.pointer (some ⟨w.heap.size + 1 + 1 + 1, 0, none⟩), .pointer (some ⟨w3.heap.size, 0, none⟩)] := hdp 24 (by kernel_rfl)
      have ed25 : xv 25 = .agg #[.slice bo (len M) cb] := hdp 25 (by kernel_rfl)
      have ed26 : xv 26 = .agg #[.slice ao (len N) ca] := hdp 26 (by kernel_rfl)
      have ed22 : xv 22 = .bool true := hdp 22 (by kernel_rfl)
      clear hdp
      intro KK hKK
      refine op_guard (d := 105) rfl rfl (by first | exact congrArg some ed22 | simp [ed22]) ?_
      go_simp
      refine (do_Mulk ((E25.out.below hB).box 9 rfl) (RW.out.below hB) ((E25.out.below hB).nt 9 rfl) hk.out l1.out hm9.out hn.out e1b.out ((E25.out.below hB).nt 11 rfl) ((E25.out.below hB).nt 12 rfl)).mono ?_
      rintro e WW' ⟨⟨xaa, xak, rfl, hxa⟩, hb⟩
      (try dsimp only)
      (try simp only [Act.put, List.setIfInBounds_toArray, List.set_cons_zero, List.set_cons_succ])
      exact act_eq (hKK.out _ _ hb ⟨_, _, rfl, hxa⟩) (by first | rfl | simp [upd, ed24, ed25, ed26, ed22])
    refine List.forall_mem_cons.2 ⟨?_, ?_⟩
    · intro xv bv ev WW hB hdp
      refine op_of rfl ?_
      have ed23 : xv 23 = .agg #[.slice aba (len r1) abk] := hdp 23 (by kernel_rfl)
      obtain ⟨xaa, xak, ed27, hxa⟩ := (show (PNum (r1)) (xv 27) (bv 27) (ev 27) WW from hdp 27 (by kernel_rfl))
      have ed22 : xv 22 = .bool true := hdp 22 (by kernel_rfl)
      clear hdp
      intro KK hKK
      refine op_guard (d := 105) rfl rfl (by first | exact congrArg some ed22 | simp [ed22]) ?_
      go_simp
      refine (same_c (t := true) (by simp) ((E25.out.below hB).nt 8 rfl) hxa.out).mono ?_
      rintro e WW' ⟨rfl, hb⟩
      (try dsimp only)
      (try simp only [Act.put, List.setIfInBounds_toArray, List.set_cons_zero, List.set_cons_succ])
      exact act_eq (hKK.out _ _ hb rfl) (by first | rfl | simp [upd, ed23, ed27, ed22])
    refine List.forall_mem_cons.2 ⟨?_, ?_⟩
    · intro xv bv ev WW hB hdp
      refine op_of rfl ?_
      have ed22 : xv 22 = .bool true := hdp 22 (by kernel_rfl)
      have ed28 : xv 28 = .bool true := hdp 28 (by kernel_rfl)
      clear hdp
      intro KK hKK
      go_simp
      exact act_eq (hKK.out _ _ (Below.refl _ _) rfl) (by first | rfl | simp [upd, ed22, ed28])
    refine List.forall_mem_cons.2 ⟨?_, ?_⟩
    · intro xv bv ev WW hB hdp
      refine op_of rfl ?_
      have ed29 : xv 29 = .bool true := hdp 29 (by kernel_rfl)
      clear hdp
      intro KK hKK
      go_simp
      exact act_eq (hKK.out _ _ (Below.refl _ _) rfl) (by first | rfl | simp [upd, ed29])
    refine List.forall_mem_cons.2 ⟨?_, ?_⟩
    · intro xv bv ev WW hB hdp
      refine op_of rfl ?_
      have ed30 : xv 30 = .bool true := hdp 30 (by kernel_rfl)
      clear hdp
      intro KK hKK
      refine op_guard (d := 113) rfl rfl (by first | exact congrArg some ed30 | simp [ed30]) ?_
      obtain ⟨z, -, -, -, -⟩ := bx9.out.below hB
      go_simp
      exact act_eq (hKK.out (.agg #[.slice sua (len r3) suk]) _ (Below.refl _ _) rfl) (by first | rfl | simp [upd, ed30])
    refine List.forall_mem_cons.2 ⟨?_, ?_⟩
    · intro xv bv ev WW hB hdp
      refine op_of rfl ?_
      have ed30 : xv 30 = .bool true := hdp 30 (by kernel_rfl)
      clear hdp
      intro KK hKK
      refine op_guard (d := 113) rfl rfl (by first | exact congrArg some ed30 | simp [ed30]) ?_
      go_simp
      exact act_eq (hKK.out _ _ (Below.refl _ _) rfl) (by first | rfl | simp [upd, ed30])
    refine List.forall_mem_cons.2 ⟨?_, ?_⟩
    · intro xv bv ev WW hB hdp
      refine op_of rfl ?_
      have ed30 : xv 30 = .bool true := hdp 30 (by kernel_rfl)
      clear hdp
      intro KK hKK
      refine op_guard (d := 113) rfl rfl (by first | exact congrArg some ed30 | simp [ed30]) ?_
      obtain ⟨z, -, -, -, -⟩ := bx8.out.below hB
      go_simp
      exact act_eq (hKK.out (.agg #[.slice bo (len M) cb]) _ (Below.refl _ _) rfl) (by first | rfl | simp [upd, ed30])
    refine List.forall_mem_cons.2 ⟨?_, ?_⟩
    · intro xv bv ev WW hB hdp
      refine op_of rfl ?_
      have ed30 : xv 30 = .bool true := hdp 30 (by kernel_rfl)
      clear hdp
      intro KK hKK
      refine op_guard (d := 113) rfl rfl (by first | exact congrArg some ed30 | simp [ed30]) ?_
      obtain ⟨z, -, -, -, -⟩ := bx5.out.below hB
      go_simp
      exact act_eq (hKK.out (.agg #[.slice ao (len N) ca]) _ (Below.refl _ _) rfl) (by first | rfl | simp [upd, ed30])
    refine List.forall_mem_cons.2 ⟨?_, ?_⟩
    · intro xv bv ev WW hB hdp
      refine op_of rfl ?_
      have ed32 : xv 32 = .func (.func 27) #[] #[.pointer (some ⟨w.heap.size + 1 + 1 + 1, 0, none⟩), .pointer (some ⟨w3.heap.size, 0, none⟩)] := hdp 32 (by kernel_rfl)
      have ed33 : xv 33 = .agg #[.slice bo (len M) cb] := hdp 33 (by kernel_rfl)
      have ed34 : xv 34 = .agg #[.slice ao (len N) ca] := hdp 34 (by kernel_rfl)
      have ed30 : xv 30 = .bool true := hdp 30 (by kernel_rfl)
      clear hdp
      intro KK hKK
      refine op_guard (d := 113) rfl rfl (by first | exact congrArg some ed30 | simp [ed30]) ?_
      go_simp
      refine (do_Addk ((E25.out.below hB).box 9 rfl) (RW.out.below hB) ((E25.out.below hB).nt 9 rfl) hk.out l3.out hm9.out hn.out e3b.out ((E25.out.below hB).nt 11 rfl) ((E25.out.below hB).nt 12 rfl)).mono ?_
      rintro e WW' ⟨⟨xba, xbk, rfl, hxb⟩, hb⟩
      (try dsimp only)
      (try simp only [Act.put, List.setIfInBounds_toArray, List.set_cons_zero, List.set_cons_succ])
      exact act_eq (hKK.out _ _ hb ⟨_, _, rfl, hxb⟩) (by first | rfl | simp [upd, ed32, ed33, ed34, ed30])
    refine List.forall_mem_cons.2 ⟨?_, ?_⟩
    · intro xv bv ev WW hB hdp
      refine op_of rfl ?_
      have ed31 : xv 31 = .agg #[.slice sua (len r3) suk] := hdp 31 (by kernel_rfl)
      obtain ⟨xba, xbk, ed35, hxb⟩ := (show (PNum (r3)) (xv 35) (bv 35) (ev 35) WW from hdp 35 (by kernel_rfl))
      have ed30 : xv 30 = .bool true := hdp 30 (by kernel_rfl)
      clear hdp
      intro KK hKK
      refine op_guard (d := 113) rfl rfl (by first | exact congrArg some ed30 | simp [ed30]) ?_
      go_simp
      refine (same_c (t := true) (by simp) ((E25.out.below hB).nt 6 rfl) hxb.out).mono ?_
      rintro e WW' ⟨rfl, hb⟩
      (try dsimp only)
      (try simp only [Act.put, List.setIfInBounds_toArray, List.set_cons_zero, List.set_cons_succ])
      exact act_eq (hKK.out _ _ hb rfl) (by first | rfl | simp [upd, ed31, ed35, ed30])
    refine List.forall_mem_cons.2 ⟨?_, ?_⟩
    · intro xv bv ev WW hB hdp
      refine op_of rfl ?_
      have ed30 : xv 30 = .bool true := hdp 30 (by kernel_rfl)
      have ed36 : xv 36 = .bool true := hdp 36 (by kernel_rfl)
      clear hdp
      intro KK hKK
      go_simp
      exact act_eq (hKK.out _ _ (Below.refl _ _) rfl) (by first | rfl | simp [upd, ed30, ed36])
    refine List.forall_mem_cons.2 ⟨?_, ?_⟩
    · intro xv bv ev WW hB hdp
      refine op_of rfl ?_
      have ed37 : xv 37 = .bool true := hdp 37 (by kernel_rfl)
      clear hdp
      intro KK hKK
      go_simp
      exact act_eq (hKK.out _ _ (Below.refl _ _) rfl) (by first | rfl | simp [upd, ed37])
    refine List.forall_mem_cons.2 ⟨?_, ?_⟩
    · intro xv bv ev WW hB hdp
      refine op_of rfl ?_
      have ed38 : xv 38 = .bool true := hdp 38 (by kernel_rfl)
      clear hdp
      intro KK hKK
      refine op_guard (d := 121) rfl rfl (by first | exact congrArg some ed38 | simp [ed38]) ?_
      obtain ⟨-, z, -⟩ := RW.out.below hB
      go_simp
      exact act_eq (hKK.out (.bool true) _ (Below.refl _ _) rfl) (by first | rfl | simp [upd, ed38])
    refine List.forall_mem_cons.2 ⟨?_, ?_⟩
    · intro xv bv ev WW hB hdp
      refine op_of rfl ?_
      have ed38 : xv 38 = .bool true := hdp 38 (by kernel_rfl)
      have ed39 : xv 39 = .bool true := hdp 39 (by kernel_rfl)
      clear hdp
      intro KK hKK
      go_simp
      exact act_eq (hKK.out _ _ (Below.refl _ _) rfl) (by first | rfl | simp [upd, ed38, ed39])
    exact List.forall_mem_nil _
  intro xv bv ev w15 hB hR hO
  have ed0 : xv 0 = .bool true := hR 0 (by kernel_rfl)
  have ed1 : xv 1 = .bool true := hR 1 (by kernel_rfl)
  have ed2 : xv 2 = .agg #[.slice ona (len r4) onk] := hR 2 (by kernel_rfl)
  have ed3 : xv 3 = .agg #[.slice twa (len r4) twk] := hR 3 (by kernel_rfl)
  have ed4 : xv 4 = .bool true := hR 4 (by kernel_rfl)
  have ed5 : xv 5 = .bool true := hR 5 (by kernel_rfl)
  have ed6 : xv 6 = .bool true := hR 6 (by kernel_rfl)
  have ed7 : xv 7 = .agg #[.slice lea (len r5) lek] := hR 7 (by kernel_rfl)
  have ed8 : xv 8 = .agg #[.slice ria (len r5) rik] := hR 8 (by kernel_rfl)
  have ed9 : xv 9 = .bool true := hR 9 (by kernel_rfl)
  have ed10 : xv 10 = .bool true := hR 10 (by kernel_rfl)
  have ed11 : xv 11 = .bool true := hR 11 (by kernel_rfl)
  have ed12 : xv 12 = .agg #[.slice baa (len N) bak] := hR 12 (by kernel_rfl)
  have ed13 : xv 13 = .agg #[.slice ao (len N) ca] := hR 13 (by kernel_rfl)
  have ed14 : xv 14 = .bool true := hR 14 (by kernel_rfl)
  have ed15 : xv 15 = .bool true := hR 15 (by kernel_rfl)
  have ed16 : xv 16 = .bool true := hR 16 (by kernel_rfl)
  have ed17 : xv 17 = .pointer (some ⟨w13.heap.size, 0, none⟩) := hR 17 (by kernel_rfl)
  have ed18 : xv 18 = .slice zea 0 zek := hR 18 (by kernel_rfl)
  have ed19 : xv 19 = .int .i64 0 := hR 19 (by kernel_rfl)
  have ed20 : xv 20 = .bool true := hR 20 (by kernel_rfl)
  have ed21 : xv 21 = .bool true := hR 21 (by kernel_rfl)
  have ed22 : xv 22 = .bool true := hR 22 (by kernel_rfl)
  have ed23 : xv 23 = .agg #[.slice aba (len r1) abk] := hR 23 (by kernel_rfl)
  have ed24 : xv 24 = .func (.func 27) #[] #[.pointer (some ⟨w.heap.size + 1 + 1 + 1, 0, none⟩), .pointer (some ⟨w3.heap.size, 0, none⟩)] := hR 24 (by kernel_rfl)
  have ed25 : xv 25 = .agg #[.slice bo (len M) cb] := hR 25 (by kernel_rfl)
  have ed26 : xv 26 = .agg #[.slice ao (len N) ca] := hR 26 (by kernel_rfl)
  obtain ⟨xaa, xak, ed27, hxa⟩ := (show (PNum (r1)) (xv 27) (bv 27) (ev 27) w15 from hR 27 (by kernel_rfl))
  have ed28 : xv 28 = .bool true := hR 28 (by kernel_rfl)
  have ed29 : xv 29 = .bool true := hR 29 (by kernel_rfl)
  have ed30 : xv 30 = .bool true := hR 30 (by kernel_rfl)
  have ed31 : xv 31 = .agg #[.slice sua (len r3) suk] := hR 31 (by kernel_rfl)
  have ed32 : xv 32 = .func (.func 27) #[] #[.pointer (some ⟨w.heap.size + 1 + 1 + 1, 0, none⟩), .pointer (some ⟨w3.heap.size, 0, none⟩)] := hR 32 (by kernel_rfl)
  have ed33 : xv 33 = .agg #[.slice bo (len M) cb] := hR 33 (by kernel_rfl)
  have ed34 : xv 34 = .agg #[.slice ao (len N) ca] := hR 34 (by kernel_rfl)
  obtain ⟨xba, xbk, ed35, hxb⟩ := (show (PNum (r3)) (xv 35) (bv 35) (ev 35) w15 from hR 35 (by kernel_rfl))
  have ed36 : xv 36 = .bool true := hR 36 (by kernel_rfl)
  have ed37 : xv 37 = .bool true := hR 37 (by kernel_rfl)
  have ed38 : xv 38 = .bool true := hR 38 (by kernel_rfl)
  have ed39 : xv 39 = .bool true := hR 39 (by kernel_rfl)
  have ed40 : xv 40 = .bool true := hR 40 (by kernel_rfl)
  simp only [ed0, ed1, ed2, ed3, ed4, ed5, ed6, ed7, ed8, ed9, ed10, ed11, ed12, ed13, ed14, ed15, ed16, ed17, ed18, ed19, ed20, ed21, ed22, ed23, ed24, ed25, ed26, ed27, ed28, ed29, ed30, ed31, ed32, ed33, ed34, ed35, ed36, ed37, ed38, ed39, ed40]
  have RW2 := Lib.hid (RW.out.below hB)
  clear RW
  have RW := RW2
  clear RW2
  have E26 : Hid (EnvB w [(w13.heap.size, .slice zea 0 zek), (w12.heap.size, .slice baa (len N) bak), (gr2_7, .slice ria (len r5) rik), (w9.heap.size, .slice lea (len r5) lek), (w8.heap.size, .slice twa (len r4) twk), (w7.heap.size, .slice ona (len r4) onk), (w6.heap.size, .slice sua (len r3) suk), (gr1_9, .slice bca (len r2) bck), (gr1_8, .slice aba (len r1) abk), (w.heap.size + 1 + 1 + 1, .slice dq (len Q) cd), (w.heap.size + 1 + 1, .slice co (len O) cc), (w.heap.size + 1, .slice bo (len M) cb), (w.heap.size, .slice ao (len N) ca)] [(.slice xba (len r3) xbk, digs r3), (.slice xaa (len r1) xak, digs r1), (.slice baa (len N) bak, digs N), (.slice ria (len r5) rik, digs r5), (.slice aca (len r6) ack, digs r6), (.slice lea (len r5) lek, digs r5), (.slice twa (len r4) twk, digs r4), (.slice ona (len r4) onk, digs r4), (.slice sua (len r3) suk, digs r3), (.slice bca (len r2) bck, digs r2), (.slice aba (len r1) abk, digs r1), (.slice dq (len Q) cd, digs Q), (.slice co (len O) cc, digs O), (.slice bo (len M) cb, digs M), (.slice ao (len N) ca, digs N)] _) := Lib.hid ((((E25.out.below hB).numN (hxa.out : Nt _ _ (r1))).numN (hxb.out : Nt _ _ (r3))))
  clear E25 E23 hB hR hO bx0 bx1 bx2 bx3 bx4 bx5 bx6 bx7 bx8 bx9 ed0 ed1 ed2 ed3 ed4 ed5 ed6 ed7 ed8 ed9 ed10 ed11 ed12 ed13 ed14 ed15 ed16 ed17 ed18 ed19 ed20 ed21 ed22 ed23 ed24 ed25 ed26 ed27 ed28 ed29 ed30 ed31 ed32 ed33 ed34 ed35 ed36 ed37 ed38 ed39 ed40 hxa hxb
  refine wpAny_next (i := 41) (by kernel_rfl) rfl (fun KK hKK => ?_)
  go_simp
  refine hKK.out _ _ ?_
  clear hKK KK
  refine wpAny_done (by kernel_rfl) ?_ _
  have hfin := Lib.hid E26.out.1
  go_wp2
  go_ret
  exact ⟨rfl, hfin.out⟩
theorem NatmodRing_walk (a b c m : Value) (la lb lc lm : List Nat) (w : World) (ha : Sl w a la) (hb : Sl w b lb) (hc : Sl w c lc) (hm : Sl w m lm) :
    Calls Try.prog 5 #[.agg #[a], .agg #[b], .agg #[c], .agg #[m]] w fun e w' => e = .returned (.bool true) ∧ Below w.heap.size w w' := by
  obtain ⟨ao, ca, rfl, _⟩ := ha.open
  obtain ⟨bo, cb, rfl, _⟩ := hb.open
  obtain ⟨co, cc, rfl, _⟩ := hc.open
  obtain ⟨mo, cm, rfl, _⟩ := hm.open
  by_cases hf : la.length ≤ 32 ∧ lb.length ≤ 32 ∧ lc.length ≤ 32 ∧ lm.length ≤ 32
  rotate_left
  · exact Ring_no ao ca bo cb co cc mo cm la lb lc lm w ha hb hc hm hf
  rcases fst_cases lm [la, lb, lc] with h | h | h
  · obtain ⟨h1, h2, h3⟩ := fst_zero h
    obtain ⟨Q, rfl, m0, hk, hQ⟩ := mdl_nt hm h1
    obtain ⟨N, rfl, _, hN⟩ := nt_of ha (h2 la (by simp))
    obtain ⟨M, rfl, _, hM⟩ := nt_of hb (h2 lb (by simp))
    obtain ⟨O, rfl, _, hO⟩ := nt_of hc (h2 lc (by simp))
    have a1 := h3 (digs N) (by simp)
    have a2 := h3 (digs M) (by simp)
    have a3 := h3 (digs O) (by simp)
    rw [val_digs, val_digs] at a1 a2 a3
    have q0 : 0 < Q := by omega
    have L : ∀ x, x % Q < Q := fun x => Nat.mod_lt _ q0
    exact Ring_ok ao ca bo cb co cc mo cm N M O Q _ _ _ _ _ _ w hN hM hO hQ hf h hk a1 a2 a3 (L _) (L _) (L _) (L _) (L _) (L _) rfl rfl rfl rfl
      (by rw [Nat.mul_mod_mod, Nat.mod_mul_mod, Nat.mul_assoc]) rfl rfl
      (by rw [← Nat.add_mod, Nat.mod_mul_mod, Nat.add_mul]) (subm_back a1 a2) (subm_same N Q) (by rw [Nat.mul_comm]) (by rw [Nat.add_comm]) q0
  · exact Ring_e1 ao ca bo cb co cc mo cm la lb lc lm w ha hb hc hm hf h
  · exact Ring_e2 ao ca bo cb co cc mo cm la lb lc lm w ha hb hc hm hf h
end Go.Proofs.Ythphmgdmhlimjaa
