/- NatmodPowers: the walk. -/
import Derived.Test.YthphmgdmhlimjaaModFrame
import Derived.Test.YthphmgdmhlimjaaModL5
namespace Go.Proofs.Ythphmgdmhlimjaa
open Go.RowKit NatMath
set_option linter.unusedVariables false

set_option maxRecDepth 100000 in
set_option maxHeartbeats 1000000 in
theorem Pows_no0 (ao : Option Addr) (ca : Nat) (bo : Option Addr) (cb : Nat) (co : Option Addr) (cc : Nat) (dq : Option Addr) (cd : Nat) (eo : Option Addr) (ce : Nat) (la lb lm le lf : List Nat)  (w : World) (ha : Sl w (.slice ao la.length ca) la) (hb : Sl w (.slice bo lb.length cb) lb) (hc : Sl w (.slice co lm.length cc) lm) (hd : Sl w (.slice dq le.length cd) le) (he : Sl w (.slice eo lf.length ce) lf) (hf0 : ¬ (la.length ≤ 8 ∧ lb.length ≤ 8 ∧ lm.length ≤ 8)) :
    Calls Try.prog 10 #[.agg #[.slice ao la.length ca], .agg #[.slice bo lb.length cb], .agg #[.slice co lm.length cc], .agg #[.slice dq le.length cd], .agg #[.slice eo lf.length ce]] w fun e w' => e = .returned (.bool true) ∧ Below w.heap.size w w' := by
  have hf := Lib.hid hf0
  clear hf0
  have E0 : Hid (EnvB w [] [(.slice eo lf.length ce, lf), (.slice dq le.length cd, le), (.slice co lm.length cc, lm), (.slice bo lb.length cb, lb), (.slice ao la.length ca, la)] w) := Lib.hid ((((((EnvB.start w).num ha).num hb).num hc).num hd).num he)
  clear ha hb hc hd he
  go_enter Try.func10, Try.ntmps10
  go_wp2_with fail
  have E1 : Hid (EnvB w [(w.heap.size + 1 + 1 + 1 + 1, .slice eo lf.length ce), (w.heap.size + 1 + 1 + 1, .slice dq le.length cd), (w.heap.size + 1 + 1, .slice co lm.length cc), (w.heap.size + 1, .slice bo lb.length cb), (w.heap.size, .slice ao la.length ca)] [(.slice eo lf.length ce, lf), (.slice dq le.length cd, le), (.slice co lm.length cc, lm), (.slice bo lb.length cb, lb), (.slice ao la.length ca, la)] _) := Lib.hid ((((((E0.out.push (.slice ao la.length ca) 24 ⟨_, _, _, rfl⟩ (w.heap.size) (by simp)).push (.slice bo lb.length cb) 24 ⟨_, _, _, rfl⟩ (w.heap.size + 1) (by simp)).push (.slice co lm.length cc) 24 ⟨_, _, _, rfl⟩ (w.heap.size + 1 + 1) (by simp)).push (.slice dq le.length cd) 24 ⟨_, _, _, rfl⟩ (w.heap.size + 1 + 1 + 1) (by simp)).push (.slice eo lf.length ce) 24 ⟨_, _, _, rfl⟩ (w.heap.size + 1 + 1 + 1 + 1) (by simp)))
  refine (awake_c _).mono ?_
  rintro e w1 ⟨rfl, hb⟩
  have E2 : Hid (EnvB w [(w.heap.size + 1 + 1 + 1 + 1, .slice eo lf.length ce), (w.heap.size + 1 + 1 + 1, .slice dq le.length cd), (w.heap.size + 1 + 1, .slice co lm.length cc), (w.heap.size + 1, .slice bo lb.length cb), (w.heap.size, .slice ao la.length ca)] [(.slice eo lf.length ce, lf), (.slice dq le.length cd, le), (.slice co lm.length cc, lm), (.slice bo lb.length cb, lb), (.slice ao la.length ca, la)] _) := Lib.hid ((E1.out.below hb))
  clear E1 E0 hb
  obtain ⟨p1, f1, -, -, -⟩ := E2.out.box 4 rfl
  obtain ⟨p2, f2, -, -, -⟩ := E2.out.box 3 rfl
  obtain ⟨p3, f3, -, -, -⟩ := E2.out.box 2 rfl
  go_wp2_with fail
  refine (few3_f _ _ _ (la) _ _ _ (lb) _ _ _ (lm) 8 _ (E2.out.sl 4 rfl) (E2.out.sl 3 rfl) (E2.out.sl 2 rfl) hf.out _ (by simp)).mono ?_
  rintro e w2 ⟨rfl, hb⟩
  have E3 : Hid (EnvB w [(w.heap.size + 1 + 1 + 1 + 1, .slice eo lf.length ce), (w.heap.size + 1 + 1 + 1, .slice dq le.length cd), (w.heap.size + 1 + 1, .slice co lm.length cc), (w.heap.size + 1, .slice bo lb.length cb), (w.heap.size, .slice ao la.length ca)] [(.slice eo lf.length ce, lf), (.slice dq le.length cd, le), (.slice co lm.length cc, lm), (.slice bo lb.length cb, lb), (.slice ao la.length ca, la)] _) := Lib.hid ((E2.out.below hb))
  clear p1 f1 p2 f2 p3 f3 E2 hb
  go_wp2_with fail
  refine (awake_c _).mono ?_
  rintro e w3 ⟨rfl, hb⟩
  have E4 : Hid (EnvB w [(w.heap.size + 1 + 1 + 1 + 1, .slice eo lf.length ce), (w.heap.size + 1 + 1 + 1, .slice dq le.length cd), (w.heap.size + 1 + 1, .slice co lm.length cc), (w.heap.size + 1, .slice bo lb.length cb), (w.heap.size, .slice ao la.length ca)] [(.slice eo lf.length ce, lf), (.slice dq le.length cd, le), (.slice co lm.length cc, lm), (.slice bo lb.length cb, lb), (.slice ao la.length ca, la)] _) := Lib.hid ((E3.out.below hb))
  clear E3 hb
  have hfin := Lib.hid E4.out.1
  go_wp2
  go_ret
  exact ⟨rfl, hfin.out⟩
set_option maxRecDepth 100000 in
set_option maxHeartbeats 1000000 in
theorem Pows_no1 (ao : Option Addr) (ca : Nat) (bo : Option Addr) (cb : Nat) (co : Option Addr) (cc : Nat) (dq : Option Addr) (cd : Nat) (eo : Option Addr) (ce : Nat) (la lb lm le lf : List Nat)  (w : World) (ha : Sl w (.slice ao la.length ca) la) (hb : Sl w (.slice bo lb.length cb) lb) (hc : Sl w (.slice co lm.length cc) lm) (hd : Sl w (.slice dq le.length cd) le) (he : Sl w (.slice eo lf.length ce) lf) (hf0 : la.length ≤ 8 ∧ lb.length ≤ 8 ∧ lm.length ≤ 8) (hf20 : ¬ (le.length ≤ 2 ∧ lf.length ≤ 2)) :
    Calls Try.prog 10 #[.agg #[.slice ao la.length ca], .agg #[.slice bo lb.length cb], .agg #[.slice co lm.length cc], .agg #[.slice dq le.length cd], .agg #[.slice eo lf.length ce]] w fun e w' => e = .returned (.bool true) ∧ Below w.heap.size w w' := by
  have hf := Lib.hid hf0
  have hf2 := Lib.hid hf20
  clear hf0 hf20
  have E0 : Hid (EnvB w [] [(.slice eo lf.length ce, lf), (.slice dq le.length cd, le), (.slice co lm.length cc, lm), (.slice bo lb.length cb, lb), (.slice ao la.length ca, la)] w) := Lib.hid ((((((EnvB.start w).num ha).num hb).num hc).num hd).num he)
  clear ha hb hc hd he
  go_enter Try.func10, Try.ntmps10
  go_wp2_with fail
  have E1 : Hid (EnvB w [(w.heap.size + 1 + 1 + 1 + 1, .slice eo lf.length ce), (w.heap.size + 1 + 1 + 1, .slice dq le.length cd), (w.heap.size + 1 + 1, .slice co lm.length cc), (w.heap.size + 1, .slice bo lb.length cb), (w.heap.size, .slice ao la.length ca)] [(.slice eo lf.length ce, lf), (.slice dq le.length cd, le), (.slice co lm.length cc, lm), (.slice bo lb.length cb, lb), (.slice ao la.length ca, la)] _) := Lib.hid ((((((E0.out.push (.slice ao la.length ca) 24 ⟨_, _, _, rfl⟩ (w.heap.size) (by simp)).push (.slice bo lb.length cb) 24 ⟨_, _, _, rfl⟩ (w.heap.size + 1) (by simp)).push (.slice co lm.length cc) 24 ⟨_, _, _, rfl⟩ (w.heap.size + 1 + 1) (by simp)).push (.slice dq le.length cd) 24 ⟨_, _, _, rfl⟩ (w.heap.size + 1 + 1 + 1) (by simp)).push (.slice eo lf.length ce) 24 ⟨_, _, _, rfl⟩ (w.heap.size + 1 + 1 + 1 + 1) (by simp)))
  refine (awake_c _).mono ?_
  rintro e w1 ⟨rfl, hb⟩
  have E2 : Hid (EnvB w [(w.heap.size + 1 + 1 + 1 + 1, .slice eo lf.length ce), (w.heap.size + 1 + 1 + 1, .slice dq le.length cd), (w.heap.size + 1 + 1, .slice co lm.length cc), (w.heap.size + 1, .slice bo lb.length cb), (w.heap.size, .slice ao la.length ca)] [(.slice eo lf.length ce, lf), (.slice dq le.length cd, le), (.slice co lm.length cc, lm), (.slice bo lb.length cb, lb), (.slice ao la.length ca, la)] _) := Lib.hid ((E1.out.below hb))
  clear E1 E0 hb
  obtain ⟨p1, f1, -, -, -⟩ := E2.out.box 4 rfl
  obtain ⟨p2, f2, -, -, -⟩ := E2.out.box 3 rfl
  obtain ⟨p3, f3, -, -, -⟩ := E2.out.box 2 rfl
  go_wp2_with fail
  refine (few3_t _ _ _ (la) _ _ _ (lb) _ _ _ (lm) 8 _ (E2.out.sl 4 rfl) (E2.out.sl 3 rfl) (E2.out.sl 2 rfl) hf.out _ (by simp)).mono ?_
  rintro e w2 ⟨rfl, hb⟩
  have E3 : Hid (EnvB w [(w.heap.size + 1 + 1 + 1 + 1, .slice eo lf.length ce), (w.heap.size + 1 + 1 + 1, .slice dq le.length cd), (w.heap.size + 1 + 1, .slice co lm.length cc), (w.heap.size + 1, .slice bo lb.length cb), (w.heap.size, .slice ao la.length ca)] [(.slice eo lf.length ce, lf), (.slice dq le.length cd, le), (.slice co lm.length cc, lm), (.slice bo lb.length cb, lb), (.slice ao la.length ca, la)] _) := Lib.hid ((E2.out.below hb))
  clear p1 f1 p2 f2 p3 f3 E2 hb
  obtain ⟨p4, f4, -, -, -⟩ := E3.out.box 1 rfl
  obtain ⟨p5, f5, -, -, -⟩ := E3.out.box 0 rfl
  go_wp2_with fail
  refine (few2_f _ _ _ (le) _ _ _ (lf) 2 _ (E3.out.sl 1 rfl) (E3.out.sl 0 rfl) hf2.out _ (by simp)).mono ?_
  rintro e w3 ⟨rfl, hb⟩
  have E4 : Hid (EnvB w [(w.heap.size + 1 + 1 + 1 + 1, .slice eo lf.length ce), (w.heap.size + 1 + 1 + 1, .slice dq le.length cd), (w.heap.size + 1 + 1, .slice co lm.length cc), (w.heap.size + 1, .slice bo lb.length cb), (w.heap.size, .slice ao la.length ca)] [(.slice eo lf.length ce, lf), (.slice dq le.length cd, le), (.slice co lm.length cc, lm), (.slice bo lb.length cb, lb), (.slice ao la.length ca, la)] _) := Lib.hid ((E3.out.below hb))
  clear p4 f4 p5 f5 E3 hb
  go_wp2_with fail
  refine (awake_c _).mono ?_
  rintro e w4 ⟨rfl, hb⟩
  have E5 : Hid (EnvB w [(w.heap.size + 1 + 1 + 1 + 1, .slice eo lf.length ce), (w.heap.size + 1 + 1 + 1, .slice dq le.length cd), (w.heap.size + 1 + 1, .slice co lm.length cc), (w.heap.size + 1, .slice bo lb.length cb), (w.heap.size, .slice ao la.length ca)] [(.slice eo lf.length ce, lf), (.slice dq le.length cd, le), (.slice co lm.length cc, lm), (.slice bo lb.length cb, lb), (.slice ao la.length ca, la)] _) := Lib.hid ((E4.out.below hb))
  clear E4 hb
  have hfin := Lib.hid E5.out.1
  go_wp2
  go_ret
  exact ⟨rfl, hfin.out⟩
set_option maxRecDepth 100000 in
set_option maxHeartbeats 1000000 in
theorem Pows_no2 (ao : Option Addr) (ca : Nat) (bo : Option Addr) (cb : Nat) (co : Option Addr) (cc : Nat) (dq : Option Addr) (cd : Nat) (eo : Option Addr) (ce : Nat) (la lb lm le lf : List Nat)  (w : World) (ha : Sl w (.slice ao la.length ca) la) (hb : Sl w (.slice bo lb.length cb) lb) (hc : Sl w (.slice co lm.length cc) lm) (hd : Sl w (.slice dq le.length cd) le) (he : Sl w (.slice eo lf.length ce) lf) (hf0 : la.length ≤ 8 ∧ lb.length ≤ 8 ∧ lm.length ≤ 8) (hf20 : le.length ≤ 2 ∧ lf.length ≤ 2) (hfs0 : fstc (lm) [la, lb] = 1) :
    Calls Try.prog 10 #[.agg #[.slice ao la.length ca], .agg #[.slice bo lb.length cb], .agg #[.slice co lm.length cc], .agg #[.slice dq le.length cd], .agg #[.slice eo lf.length ce]] w fun e w' => e = .returned (.bool true) ∧ Below w.heap.size w w' := by
  have hf := Lib.hid hf0
  have hf2 := Lib.hid hf20
  have hfs := Lib.hid hfs0
  clear hf0 hf20 hfs0
  have E0 : Hid (EnvB w [] [(.slice eo lf.length ce, lf), (.slice dq le.length cd, le), (.slice co lm.length cc, lm), (.slice bo lb.length cb, lb), (.slice ao la.length ca, la)] w) := Lib.hid ((((((EnvB.start w).num ha).num hb).num hc).num hd).num he)
  clear ha hb hc hd he
  go_enter Try.func10, Try.ntmps10
  go_wp2_with fail
  have E1 : Hid (EnvB w [(w.heap.size + 1 + 1 + 1 + 1, .slice eo lf.length ce), (w.heap.size + 1 + 1 + 1, .slice dq le.length cd), (w.heap.size + 1 + 1, .slice co lm.length cc), (w.heap.size + 1, .slice bo lb.length cb), (w.heap.size, .slice ao la.length ca)] [(.slice eo lf.length ce, lf), (.slice dq le.length cd, le), (.slice co lm.length cc, lm), (.slice bo lb.length cb, lb), (.slice ao la.length ca, la)] _) := Lib.hid ((((((E0.out.push (.slice ao la.length ca) 24 ⟨_, _, _, rfl⟩ (w.heap.size) (by simp)).push (.slice bo lb.length cb) 24 ⟨_, _, _, rfl⟩ (w.heap.size + 1) (by simp)).push (.slice co lm.length cc) 24 ⟨_, _, _, rfl⟩ (w.heap.size + 1 + 1) (by simp)).push (.slice dq le.length cd) 24 ⟨_, _, _, rfl⟩ (w.heap.size + 1 + 1 + 1) (by simp)).push (.slice eo lf.length ce) 24 ⟨_, _, _, rfl⟩ (w.heap.size + 1 + 1 + 1 + 1) (by simp)))
  refine (awake_c _).mono ?_
  rintro e w1 ⟨rfl, hb⟩
  have E2 : Hid (EnvB w [(w.heap.size + 1 + 1 + 1 + 1, .slice eo lf.length ce), (w.heap.size + 1 + 1 + 1, .slice dq le.length cd), (w.heap.size + 1 + 1, .slice co lm.length cc), (w.heap.size + 1, .slice bo lb.length cb), (w.heap.size, .slice ao la.length ca)] [(.slice eo lf.length ce, lf), (.slice dq le.length cd, le), (.slice co lm.length cc, lm), (.slice bo lb.length cb, lb), (.slice ao la.length ca, la)] _) := Lib.hid ((E1.out.below hb))
  clear E1 E0 hb
  obtain ⟨p1, f1, -, -, -⟩ := E2.out.box 4 rfl
  obtain ⟨p2, f2, -, -, -⟩ := E2.out.box 3 rfl
  obtain ⟨p3, f3, -, -, -⟩ := E2.out.box 2 rfl
  go_wp2_with fail
  refine (few3_t _ _ _ (la) _ _ _ (lb) _ _ _ (lm) 8 _ (E2.out.sl 4 rfl) (E2.out.sl 3 rfl) (E2.out.sl 2 rfl) hf.out _ (by simp)).mono ?_
  rintro e w2 ⟨rfl, hb⟩
  have E3 : Hid (EnvB w [(w.heap.size + 1 + 1 + 1 + 1, .slice eo lf.length ce), (w.heap.size + 1 + 1 + 1, .slice dq le.length cd), (w.heap.size + 1 + 1, .slice co lm.length cc), (w.heap.size + 1, .slice bo lb.length cb), (w.heap.size, .slice ao la.length ca)] [(.slice eo lf.length ce, lf), (.slice dq le.length cd, le), (.slice co lm.length cc, lm), (.slice bo lb.length cb, lb), (.slice ao la.length ca, la)] _) := Lib.hid ((E2.out.below hb))
  clear p1 f1 p2 f2 p3 f3 E2 hb
  obtain ⟨p4, f4, -, -, -⟩ := E3.out.box 1 rfl
  obtain ⟨p5, f5, -, -, -⟩ := E3.out.box 0 rfl
  go_wp2_with fail
  refine (few2_t _ _ _ (le) _ _ _ (lf) 2 _ (E3.out.sl 1 rfl) (E3.out.sl 0 rfl) hf2.out _ (by simp)).mono ?_
  rintro e w3 ⟨rfl, hb⟩
  have E4 : Hid (EnvB w [(w.heap.size + 1 + 1 + 1 + 1, .slice eo lf.length ce), (w.heap.size + 1 + 1 + 1, .slice dq le.length cd), (w.heap.size + 1 + 1, .slice co lm.length cc), (w.heap.size + 1, .slice bo lb.length cb), (w.heap.size, .slice ao la.length ca)] [(.slice eo lf.length ce, lf), (.slice dq le.length cd, le), (.slice co lm.length cc, lm), (.slice bo lb.length cb, lb), (.slice ao la.length ca, la)] _) := Lib.hid ((E3.out.below hb))
  clear p4 f4 p5 f5 E3 hb
  obtain ⟨p6, f6, -, -, -⟩ := E4.out.box 2 rfl
  obtain ⟨p7, f7, -, -, -⟩ := E4.out.box 4 rfl
  obtain ⟨p8, f8, -, -, -⟩ := E4.out.box 3 rfl
  go_wp2_with fail
  refine (first2_c _ _ _ (la) _ _ _ (lb) _ _ _ (lm) 1 _ hfs.out (E4.out.sl 2 rfl) (E4.out.sl 4 rfl) (E4.out.sl 3 rfl) _ (by simp)).mono ?_
  rintro e w4 ⟨rfl, hb⟩
  have E5 : Hid (EnvB w [(w.heap.size + 1 + 1 + 1 + 1, .slice eo lf.length ce), (w.heap.size + 1 + 1 + 1, .slice dq le.length cd), (w.heap.size + 1 + 1, .slice co lm.length cc), (w.heap.size + 1, .slice bo lb.length cb), (w.heap.size, .slice ao la.length ca)] [(.slice eo lf.length ce, lf), (.slice dq le.length cd, le), (.slice co lm.length cc, lm), (.slice bo lb.length cb, lb), (.slice ao la.length ca, la)] _) := Lib.hid ((E4.out.below hb))
  clear p6 f6 p7 f7 p8 f8 E4 hb
  go_wp2_with fail
  refine (awake_c _).mono ?_
  rintro e w5 ⟨rfl, hb⟩
  have E6 : Hid (EnvB w [(w.heap.size + 1 + 1 + 1 + 1, .slice eo lf.length ce), (w.heap.size + 1 + 1 + 1, .slice dq le.length cd), (w.heap.size + 1 + 1, .slice co lm.length cc), (w.heap.size + 1, .slice bo lb.length cb), (w.heap.size, .slice ao la.length ca)] [(.slice eo lf.length ce, lf), (.slice dq le.length cd, le), (.slice co lm.length cc, lm), (.slice bo lb.length cb, lb), (.slice ao la.length ca, la)] _) := Lib.hid ((E5.out.below hb))
  clear E5 hb
  have hfin := Lib.hid E6.out.1
  go_wp2
  go_ret
  exact ⟨rfl, hfin.out⟩
set_option maxRecDepth 100000 in
set_option maxHeartbeats 1000000 in
theorem Pows_no3 (ao : Option Addr) (ca : Nat) (bo : Option Addr) (cb : Nat) (co : Option Addr) (cc : Nat) (dq : Option Addr) (cd : Nat) (eo : Option Addr) (ce : Nat) (la lb lm le lf : List Nat)  (w : World) (ha : Sl w (.slice ao la.length ca) la) (hb : Sl w (.slice bo lb.length cb) lb) (hc : Sl w (.slice co lm.length cc) lm) (hd : Sl w (.slice dq le.length cd) le) (he : Sl w (.slice eo lf.length ce) lf) (hf0 : la.length ≤ 8 ∧ lb.length ≤ 8 ∧ lm.length ≤ 8) (hf20 : le.length ≤ 2 ∧ lf.length ≤ 2) (hfs0 : fstc (lm) [la, lb] = 2) :
    Calls Try.prog 10 #[.agg #[.slice ao la.length ca], .agg #[.slice bo lb.length cb], .agg #[.slice co lm.length cc], .agg #[.slice dq le.length cd], .agg #[.slice eo lf.length ce]] w fun e w' => e = .returned (.bool true) ∧ Below w.heap.size w w' := by
  have hf := Lib.hid hf0
  have hf2 := Lib.hid hf20
  have hfs := Lib.hid hfs0
  clear hf0 hf20 hfs0
  have E0 : Hid (EnvB w [] [(.slice eo lf.length ce, lf), (.slice dq le.length cd, le), (.slice co lm.length cc, lm), (.slice bo lb.length cb, lb), (.slice ao la.length ca, la)] w) := Lib.hid ((((((EnvB.start w).num ha).num hb).num hc).num hd).num he)
  clear ha hb hc hd he
  go_enter Try.func10, Try.ntmps10
  go_wp2_with fail
  have E1 : Hid (EnvB w [(w.heap.size + 1 + 1 + 1 + 1, .slice eo lf.length ce), (w.heap.size + 1 + 1 + 1, .slice dq le.length cd), (w.heap.size + 1 + 1, .slice co lm.length cc), (w.heap.size + 1, .slice bo lb.length cb), (w.heap.size, .slice ao la.length ca)] [(.slice eo lf.length ce, lf), (.slice dq le.length cd, le), (.slice co lm.length cc, lm), (.slice bo lb.length cb, lb), (.slice ao la.length ca, la)] _) := Lib.hid ((((((E0.out.push (.slice ao la.length ca) 24 ⟨_, _, _, rfl⟩ (w.heap.size) (by simp)).push (.slice bo lb.length cb) 24 ⟨_, _, _, rfl⟩ (w.heap.size + 1) (by simp)).push (.slice co lm.length cc) 24 ⟨_, _, _, rfl⟩ (w.heap.size + 1 + 1) (by simp)).push (.slice dq le.length cd) 24 ⟨_, _, _, rfl⟩ (w.heap.size + 1 + 1 + 1) (by simp)).push (.slice eo lf.length ce) 24 ⟨_, _, _, rfl⟩ (w.heap.size + 1 + 1 + 1 + 1) (by simp)))
  refine (awake_c _).mono ?_
  rintro e w1 ⟨rfl, hb⟩
  have E2 : Hid (EnvB w [(w.heap.size + 1 + 1 + 1 + 1, .slice eo lf.length ce), (w.heap.size + 1 + 1 + 1, .slice dq le.length cd), (w.heap.size + 1 + 1, .slice co lm.length cc), (w.heap.size + 1, .slice bo lb.length cb), (w.heap.size, .slice ao la.length ca)] [(.slice eo lf.length ce, lf), (.slice dq le.length cd, le), (.slice co lm.length cc, lm), (.slice bo lb.length cb, lb), (.slice ao la.length ca, la)] _) := Lib.hid ((E1.out.below hb))
  clear E1 E0 hb
  obtain ⟨p1, f1, -, -, -⟩ := E2.out.box 4 rfl
  obtain ⟨p2, f2, -, -, -⟩ := E2.out.box 3 rfl
  obtain ⟨p3, f3, -, -, -⟩ := E2.out.box 2 rfl
  go_wp2_with fail
  refine (few3_t _ _ _ (la) _ _ _ (lb) _ _ _ (lm) 8 _ (E2.out.sl 4 rfl) (E2.out.sl 3 rfl) (E2.out.sl 2 rfl) hf.out _ (by simp)).mono ?_
  rintro e w2 ⟨rfl, hb⟩
  have E3 : Hid (EnvB w [(w.heap.size + 1 + 1 + 1 + 1, .slice eo lf.length ce), (w.heap.size + 1 + 1 + 1, .slice dq le.length cd), (w.heap.size + 1 + 1, .slice co lm.length cc), (w.heap.size + 1, .slice bo lb.length cb), (w.heap.size, .slice ao la.length ca)] [(.slice eo lf.length ce, lf), (.slice dq le.length cd, le), (.slice co lm.length cc, lm), (.slice bo lb.length cb, lb), (.slice ao la.length ca, la)] _) := Lib.hid ((E2.out.below hb))
  clear p1 f1 p2 f2 p3 f3 E2 hb
  obtain ⟨p4, f4, -, -, -⟩ := E3.out.box 1 rfl
  obtain ⟨p5, f5, -, -, -⟩ := E3.out.box 0 rfl
  go_wp2_with fail
  refine (few2_t _ _ _ (le) _ _ _ (lf) 2 _ (E3.out.sl 1 rfl) (E3.out.sl 0 rfl) hf2.out _ (by simp)).mono ?_
  rintro e w3 ⟨rfl, hb⟩
  have E4 : Hid (EnvB w [(w.heap.size + 1 + 1 + 1 + 1, .slice eo lf.length ce), (w.heap.size + 1 + 1 + 1, .slice dq le.length cd), (w.heap.size + 1 + 1, .slice co lm.length cc), (w.heap.size + 1, .slice bo lb.length cb), (w.heap.size, .slice ao la.length ca)] [(.slice eo lf.length ce, lf), (.slice dq le.length cd, le), (.slice co lm.length cc, lm), (.slice bo lb.length cb, lb), (.slice ao la.length ca, la)] _) := Lib.hid ((E3.out.below hb))
  clear p4 f4 p5 f5 E3 hb
  obtain ⟨p6, f6, -, -, -⟩ := E4.out.box 2 rfl
  obtain ⟨p7, f7, -, -, -⟩ := E4.out.box 4 rfl
  obtain ⟨p8, f8, -, -, -⟩ := E4.out.box 3 rfl
  go_wp2_with fail
  refine (first2_c _ _ _ (la) _ _ _ (lb) _ _ _ (lm) 2 _ hfs.out (E4.out.sl 2 rfl) (E4.out.sl 4 rfl) (E4.out.sl 3 rfl) _ (by simp)).mono ?_
  rintro e w4 ⟨rfl, hb⟩
  have E5 : Hid (EnvB w [(w.heap.size + 1 + 1 + 1 + 1, .slice eo lf.length ce), (w.heap.size + 1 + 1 + 1, .slice dq le.length cd), (w.heap.size + 1 + 1, .slice co lm.length cc), (w.heap.size + 1, .slice bo lb.length cb), (w.heap.size, .slice ao la.length ca)] [(.slice eo lf.length ce, lf), (.slice dq le.length cd, le), (.slice co lm.length cc, lm), (.slice bo lb.length cb, lb), (.slice ao la.length ca, la)] _) := Lib.hid ((E4.out.below hb))
  clear p6 f6 p7 f7 p8 f8 E4 hb
  go_wp2_with fail
  refine (awake_c _).mono ?_
  rintro e w5 ⟨rfl, hb⟩
  have E6 : Hid (EnvB w [(w.heap.size + 1 + 1 + 1 + 1, .slice eo lf.length ce), (w.heap.size + 1 + 1 + 1, .slice dq le.length cd), (w.heap.size + 1 + 1, .slice co lm.length cc), (w.heap.size + 1, .slice bo lb.length cb), (w.heap.size, .slice ao la.length ca)] [(.slice eo lf.length ce, lf), (.slice dq le.length cd, le), (.slice co lm.length cc, lm), (.slice bo lb.length cb, lb), (.slice ao la.length ca, la)] _) := Lib.hid ((E5.out.below hb))
  clear E5 hb
  have hfin := Lib.hid E6.out.1
  go_wp2
  go_ret
  exact ⟨rfl, hfin.out⟩
set_option maxRecDepth 100000 in
set_option maxHeartbeats 1000000 in
theorem Pows_no4 (ao : Option Addr) (ca : Nat) (bo : Option Addr) (cb : Nat) (co : Option Addr) (cc : Nat) (dq : Option Addr) (cd : Nat) (eo : Option Addr) (ce : Nat) (la lb lm le lf : List Nat)  (w : World) (ha : Sl w (.slice ao la.length ca) la) (hb : Sl w (.slice bo lb.length cb) lb) (hc : Sl w (.slice co lm.length cc) lm) (hd : Sl w (.slice dq le.length cd) le) (he : Sl w (.slice eo lf.length ce) lf) (hf0 : la.length ≤ 8 ∧ lb.length ≤ 8 ∧ lm.length ≤ 8) (hf20 : le.length ≤ 2 ∧ lf.length ≤ 2) (hfs0 : fstc (lm) [la, lb] = 0) (v30 : vld (le) = false) :
    Calls Try.prog 10 #[.agg #[.slice ao la.length ca], .agg #[.slice bo lb.length cb], .agg #[.slice co lm.length cc], .agg #[.slice dq le.length cd], .agg #[.slice eo lf.length ce]] w fun e w' => e = .returned (.bool true) ∧ Below w.heap.size w w' := by
  have hf := Lib.hid hf0
  have hf2 := Lib.hid hf20
  have hfs := Lib.hid hfs0
  have v3 := Lib.hid v30
  clear hf0 hf20 hfs0 v30
  have E0 : Hid (EnvB w [] [(.slice eo lf.length ce, lf), (.slice dq le.length cd, le), (.slice co lm.length cc, lm), (.slice bo lb.length cb, lb), (.slice ao la.length ca, la)] w) := Lib.hid ((((((EnvB.start w).num ha).num hb).num hc).num hd).num he)
  clear ha hb hc hd he
  go_enter Try.func10, Try.ntmps10
  go_wp2_with fail
  have E1 : Hid (EnvB w [(w.heap.size + 1 + 1 + 1 + 1, .slice eo lf.length ce), (w.heap.size + 1 + 1 + 1, .slice dq le.length cd), (w.heap.size + 1 + 1, .slice co lm.length cc), (w.heap.size + 1, .slice bo lb.length cb), (w.heap.size, .slice ao la.length ca)] [(.slice eo lf.length ce, lf), (.slice dq le.length cd, le), (.slice co lm.length cc, lm), (.slice bo lb.length cb, lb), (.slice ao la.length ca, la)] _) := Lib.hid ((((((E0.out.push (.slice ao la.length ca) 24 ⟨_, _, _, rfl⟩ (w.heap.size) (by simp)).push (.slice bo lb.length cb) 24 ⟨_, _, _, rfl⟩ (w.heap.size + 1) (by simp)).push (.slice co lm.length cc) 24 ⟨_, _, _, rfl⟩ (w.heap.size + 1 + 1) (by simp)).push (.slice dq le.length cd) 24 ⟨_, _, _, rfl⟩ (w.heap.size + 1 + 1 + 1) (by simp)).push (.slice eo lf.length ce) 24 ⟨_, _, _, rfl⟩ (w.heap.size + 1 + 1 + 1 + 1) (by simp)))
  refine (awake_c _).mono ?_
  rintro e w1 ⟨rfl, hb⟩
  have E2 : Hid (EnvB w [(w.heap.size + 1 + 1 + 1 + 1, .slice eo lf.length ce), (w.heap.size + 1 + 1 + 1, .slice dq le.length cd), (w.heap.size + 1 + 1, .slice co lm.length cc), (w.heap.size + 1, .slice bo lb.length cb), (w.heap.size, .slice ao la.length ca)] [(.slice eo lf.length ce, lf), (.slice dq le.length cd, le), (.slice co lm.length cc, lm), (.slice bo lb.length cb, lb), (.slice ao la.length ca, la)] _) := Lib.hid ((E1.out.below hb))
  clear E1 E0 hb
  obtain ⟨p1, f1, -, -, -⟩ := E2.out.box 4 rfl
  obtain ⟨p2, f2, -, -, -⟩ := E2.out.box 3 rfl
  obtain ⟨p3, f3, -, -, -⟩ := E2.out.box 2 rfl
  go_wp2_with fail
  refine (few3_t _ _ _ (la) _ _ _ (lb) _ _ _ (lm) 8 _ (E2.out.sl 4 rfl) (E2.out.sl 3 rfl) (E2.out.sl 2 rfl) hf.out _ (by simp)).mono ?_
  rintro e w2 ⟨rfl, hb⟩
  have E3 : Hid (EnvB w [(w.heap.size + 1 + 1 + 1 + 1, .slice eo lf.length ce), (w.heap.size + 1 + 1 + 1, .slice dq le.length cd), (w.heap.size + 1 + 1, .slice co lm.length cc), (w.heap.size + 1, .slice bo lb.length cb), (w.heap.size, .slice ao la.length ca)] [(.slice eo lf.length ce, lf), (.slice dq le.length cd, le), (.slice co lm.length cc, lm), (.slice bo lb.length cb, lb), (.slice ao la.length ca, la)] _) := Lib.hid ((E2.out.below hb))
  clear p1 f1 p2 f2 p3 f3 E2 hb
  obtain ⟨p4, f4, -, -, -⟩ := E3.out.box 1 rfl
  obtain ⟨p5, f5, -, -, -⟩ := E3.out.box 0 rfl
  go_wp2_with fail
  refine (few2_t _ _ _ (le) _ _ _ (lf) 2 _ (E3.out.sl 1 rfl) (E3.out.sl 0 rfl) hf2.out _ (by simp)).mono ?_
  rintro e w3 ⟨rfl, hb⟩
  have E4 : Hid (EnvB w [(w.heap.size + 1 + 1 + 1 + 1, .slice eo lf.length ce), (w.heap.size + 1 + 1 + 1, .slice dq le.length cd), (w.heap.size + 1 + 1, .slice co lm.length cc), (w.heap.size + 1, .slice bo lb.length cb), (w.heap.size, .slice ao la.length ca)] [(.slice eo lf.length ce, lf), (.slice dq le.length cd, le), (.slice co lm.length cc, lm), (.slice bo lb.length cb, lb), (.slice ao la.length ca, la)] _) := Lib.hid ((E3.out.below hb))
  clear p4 f4 p5 f5 E3 hb
  obtain ⟨p6, f6, -, -, -⟩ := E4.out.box 2 rfl
  obtain ⟨p7, f7, -, -, -⟩ := E4.out.box 4 rfl
  obtain ⟨p8, f8, -, -, -⟩ := E4.out.box 3 rfl
  go_wp2_with fail
  refine (first2_c _ _ _ (la) _ _ _ (lb) _ _ _ (lm) 0 _ hfs.out (E4.out.sl 2 rfl) (E4.out.sl 4 rfl) (E4.out.sl 3 rfl) _ (by simp)).mono ?_
  rintro e w4 ⟨rfl, hb⟩
  have E5 : Hid (EnvB w [(w.heap.size + 1 + 1 + 1 + 1, .slice eo lf.length ce), (w.heap.size + 1 + 1 + 1, .slice dq le.length cd), (w.heap.size + 1 + 1, .slice co lm.length cc), (w.heap.size + 1, .slice bo lb.length cb), (w.heap.size, .slice ao la.length ca)] [(.slice eo lf.length ce, lf), (.slice dq le.length cd, le), (.slice co lm.length cc, lm), (.slice bo lb.length cb, lb), (.slice ao la.length ca, la)] _) := Lib.hid ((E4.out.below hb))
  clear p6 f6 p7 f7 p8 f8 E4 hb
  obtain ⟨p9, f9, -, -, -⟩ := E5.out.box 1 rfl
  go_wp2_with fail
  refine (rValid_of v3.out (E5.out.sl 1 rfl)).mono ?_
  rintro e w5 ⟨rfl, hb⟩
  have E6 : Hid (EnvB w [(w.heap.size + 1 + 1 + 1 + 1, .slice eo lf.length ce), (w.heap.size + 1 + 1 + 1, .slice dq le.length cd), (w.heap.size + 1 + 1, .slice co lm.length cc), (w.heap.size + 1, .slice bo lb.length cb), (w.heap.size, .slice ao la.length ca)] [(.slice eo lf.length ce, lf), (.slice dq le.length cd, le), (.slice co lm.length cc, lm), (.slice bo lb.length cb, lb), (.slice ao la.length ca, la)] _) := Lib.hid ((E5.out.below hb))
  clear p9 f9 E5 hb
  go_wp2_with fail
  refine (awake_c _).mono ?_
  rintro e w6 ⟨rfl, hb⟩
  have E7 : Hid (EnvB w [(w.heap.size + 1 + 1 + 1 + 1, .slice eo lf.length ce), (w.heap.size + 1 + 1 + 1, .slice dq le.length cd), (w.heap.size + 1 + 1, .slice co lm.length cc), (w.heap.size + 1, .slice bo lb.length cb), (w.heap.size, .slice ao la.length ca)] [(.slice eo lf.length ce, lf), (.slice dq le.length cd, le), (.slice co lm.length cc, lm), (.slice bo lb.length cb, lb), (.slice ao la.length ca, la)] _) := Lib.hid ((E6.out.below hb))
  clear E6 hb
  have hfin := Lib.hid E7.out.1
  go_wp2
  go_ret
  exact ⟨rfl, hfin.out⟩
set_option maxRecDepth 100000 in
set_option maxHeartbeats 1000000 in
theorem Pows_no5 (ao : Option Addr) (ca : Nat) (bo : Option Addr) (cb : Nat) (co : Option Addr) (cc : Nat) (dq : Option Addr) (cd : Nat) (eo : Option Addr) (ce : Nat) (la lb lm le lf : List Nat)  (w : World) (ha : Sl w (.slice ao la.length ca) la) (hb : Sl w (.slice bo lb.length cb) lb) (hc : Sl w (.slice co lm.length cc) lm) (hd : Sl w (.slice dq le.length cd) le) (he : Sl w (.slice eo lf.length ce) lf) (hf0 : la.length ≤ 8 ∧ lb.length ≤ 8 ∧ lm.length ≤ 8) (hf20 : le.length ≤ 2 ∧ lf.length ≤ 2) (hfs0 : fstc (lm) [la, lb] = 0) (v30 : vld (le) = true) (v40 : vld (lf) = false) :
    Calls Try.prog 10 #[.agg #[.slice ao la.length ca], .agg #[.slice bo lb.length cb], .agg #[.slice co lm.length cc], .agg #[.slice dq le.length cd], .agg #[.slice eo lf.length ce]] w fun e w' => e = .returned (.bool true) ∧ Below w.heap.size w w' := by
  have hf := Lib.hid hf0
  have hf2 := Lib.hid hf20
  have hfs := Lib.hid hfs0
  have v3 := Lib.hid v30
  have v4 := Lib.hid v40
  clear hf0 hf20 hfs0 v30 v40
  have E0 : Hid (EnvB w [] [(.slice eo lf.length ce, lf), (.slice dq le.length cd, le), (.slice co lm.length cc, lm), (.slice bo lb.length cb, lb), (.slice ao la.length ca, la)] w) := Lib.hid ((((((EnvB.start w).num ha).num hb).num hc).num hd).num he)
  clear ha hb hc hd he
  go_enter Try.func10, Try.ntmps10
  go_wp2_with fail
  have E1 : Hid (EnvB w [(w.heap.size + 1 + 1 + 1 + 1, .slice eo lf.length ce), (w.heap.size + 1 + 1 + 1, .slice dq le.length cd), (w.heap.size + 1 + 1, .slice co lm.length cc), (w.heap.size + 1, .slice bo lb.length cb), (w.heap.size, .slice ao la.length ca)] [(.slice eo lf.length ce, lf), (.slice dq le.length cd, le), (.slice co lm.length cc, lm), (.slice bo lb.length cb, lb), (.slice ao la.length ca, la)] _) := Lib.hid ((((((E0.out.push (.slice ao la.length ca) 24 ⟨_, _, _, rfl⟩ (w.heap.size) (by simp)).push (.slice bo lb.length cb) 24 ⟨_, _, _, rfl⟩ (w.heap.size + 1) (by simp)).push (.slice co lm.length cc) 24 ⟨_, _, _, rfl⟩ (w.heap.size + 1 + 1) (by simp)).push (.slice dq le.length cd) 24 ⟨_, _, _, rfl⟩ (w.heap.size + 1 + 1 + 1) (by simp)).push (.slice eo lf.length ce) 24 ⟨_, _, _, rfl⟩ (w.heap.size + 1 + 1 + 1 + 1) (by simp)))
  refine (awake_c _).mono ?_
  rintro e w1 ⟨rfl, hb⟩
  have E2 : Hid (EnvB w [(w.heap.size + 1 + 1 + 1 + 1, .slice eo lf.length ce), (w.heap.size + 1 + 1 + 1, .slice dq le.length cd), (w.heap.size + 1 + 1, .slice co lm.length cc), (w.heap.size + 1, .slice bo lb.length cb), (w.heap.size, .slice ao la.length ca)] [(.slice eo lf.length ce, lf), (.slice dq le.length cd, le), (.slice co lm.length cc, lm), (.slice bo lb.length cb, lb), (.slice ao la.length ca, la)] _) := Lib.hid ((E1.out.below hb))
  clear E1 E0 hb
  obtain ⟨p1, f1, -, -, -⟩ := E2.out.box 4 rfl
  obtain ⟨p2, f2, -, -, -⟩ := E2.out.box 3 rfl
  obtain ⟨p3, f3, -, -, -⟩ := E2.out.box 2 rfl
  go_wp2_with fail
  refine (few3_t _ _ _ (la) _ _ _ (lb) _ _ _ (lm) 8 _ (E2.out.sl 4 rfl) (E2.out.sl 3 rfl) (E2.out.sl 2 rfl) hf.out _ (by simp)).mono ?_
  rintro e w2 ⟨rfl, hb⟩
  have E3 : Hid (EnvB w [(w.heap.size + 1 + 1 + 1 + 1, .slice eo lf.length ce), (w.heap.size + 1 + 1 + 1, .slice dq le.length cd), (w.heap.size + 1 + 1, .slice co lm.length cc), (w.heap.size + 1, .slice bo lb.length cb), (w.heap.size, .slice ao la.length ca)] [(.slice eo lf.length ce, lf), (.slice dq le.length cd, le), (.slice co lm.length cc, lm), (.slice bo lb.length cb, lb), (.slice ao la.length ca, la)] _) := Lib.hid ((E2.out.below hb))
  clear p1 f1 p2 f2 p3 f3 E2 hb
  obtain ⟨p4, f4, -, -, -⟩ := E3.out.box 1 rfl
  obtain ⟨p5, f5, -, -, -⟩ := E3.out.box 0 rfl
  go_wp2_with fail
  refine (few2_t _ _ _ (le) _ _ _ (lf) 2 _ (E3.out.sl 1 rfl) (E3.out.sl 0 rfl) hf2.out _ (by simp)).mono ?_
  rintro e w3 ⟨rfl, hb⟩
  have E4 : Hid (EnvB w [(w.heap.size + 1 + 1 + 1 + 1, .slice eo lf.length ce), (w.heap.size + 1 + 1 + 1, .slice dq le.length cd), (w.heap.size + 1 + 1, .slice co lm.length cc), (w.heap.size + 1, .slice bo lb.length cb), (w.heap.size, .slice ao la.length ca)] [(.slice eo lf.length ce, lf), (.slice dq le.length cd, le), (.slice co lm.length cc, lm), (.slice bo lb.length cb, lb), (.slice ao la.length ca, la)] _) := Lib.hid ((E3.out.below hb))
  clear p4 f4 p5 f5 E3 hb
  obtain ⟨p6, f6, -, -, -⟩ := E4.out.box 2 rfl
  obtain ⟨p7, f7, -, -, -⟩ := E4.out.box 4 rfl
  obtain ⟨p8, f8, -, -, -⟩ := E4.out.box 3 rfl
  go_wp2_with fail
  refine (first2_c _ _ _ (la) _ _ _ (lb) _ _ _ (lm) 0 _ hfs.out (E4.out.sl 2 rfl) (E4.out.sl 4 rfl) (E4.out.sl 3 rfl) _ (by simp)).mono ?_
  rintro e w4 ⟨rfl, hb⟩
  have E5 : Hid (EnvB w [(w.heap.size + 1 + 1 + 1 + 1, .slice eo lf.length ce), (w.heap.size + 1 + 1 + 1, .slice dq le.length cd), (w.heap.size + 1 + 1, .slice co lm.length cc), (w.heap.size + 1, .slice bo lb.length cb), (w.heap.size, .slice ao la.length ca)] [(.slice eo lf.length ce, lf), (.slice dq le.length cd, le), (.slice co lm.length cc, lm), (.slice bo lb.length cb, lb), (.slice ao la.length ca, la)] _) := Lib.hid ((E4.out.below hb))
  clear p6 f6 p7 f7 p8 f8 E4 hb
  obtain ⟨p9, f9, -, -, -⟩ := E5.out.box 1 rfl
  go_wp2_with fail
  refine (rValid_of v3.out (E5.out.sl 1 rfl)).mono ?_
  rintro e w5 ⟨rfl, hb⟩
  have E6 : Hid (EnvB w [(w.heap.size + 1 + 1 + 1 + 1, .slice eo lf.length ce), (w.heap.size + 1 + 1 + 1, .slice dq le.length cd), (w.heap.size + 1 + 1, .slice co lm.length cc), (w.heap.size + 1, .slice bo lb.length cb), (w.heap.size, .slice ao la.length ca)] [(.slice eo lf.length ce, lf), (.slice dq le.length cd, le), (.slice co lm.length cc, lm), (.slice bo lb.length cb, lb), (.slice ao la.length ca, la)] _) := Lib.hid ((E5.out.below hb))
  clear p9 f9 E5 hb
  obtain ⟨p10, f10, -, -, -⟩ := E6.out.box 0 rfl
  go_wp2_with fail
  refine (rValid_of v4.out (E6.out.sl 0 rfl)).mono ?_
  rintro e w6 ⟨rfl, hb⟩
  have E7 : Hid (EnvB w [(w.heap.size + 1 + 1 + 1 + 1, .slice eo lf.length ce), (w.heap.size + 1 + 1 + 1, .slice dq le.length cd), (w.heap.size + 1 + 1, .slice co lm.length cc), (w.heap.size + 1, .slice bo lb.length cb), (w.heap.size, .slice ao la.length ca)] [(.slice eo lf.length ce, lf), (.slice dq le.length cd, le), (.slice co lm.length cc, lm), (.slice bo lb.length cb, lb), (.slice ao la.length ca, la)] _) := Lib.hid ((E6.out.below hb))
  clear p10 f10 E6 hb
  go_wp2_with fail
  refine (awake_c _).mono ?_
  rintro e w7 ⟨rfl, hb⟩
  have E8 : Hid (EnvB w [(w.heap.size + 1 + 1 + 1 + 1, .slice eo lf.length ce), (w.heap.size + 1 + 1 + 1, .slice dq le.length cd), (w.heap.size + 1 + 1, .slice co lm.length cc), (w.heap.size + 1, .slice bo lb.length cb), (w.heap.size, .slice ao la.length ca)] [(.slice eo lf.length ce, lf), (.slice dq le.length cd, le), (.slice co lm.length cc, lm), (.slice bo lb.length cb, lb), (.slice ao la.length ca, la)] _) := Lib.hid ((E7.out.below hb))
  clear E7 hb
  have hfin := Lib.hid E8.out.1
  go_wp2
  go_ret
  exact ⟨rfl, hfin.out⟩
set_option maxRecDepth 100000 in
set_option maxHeartbeats 1000000 in
theorem Pows_ok (ao : Option Addr) (ca : Nat) (bo : Option Addr) (cb : Nat) (co : Option Addr) (cc : Nat) (dq : Option Addr) (cd : Nat) (eo : Option Addr) (ce : Nat) (N M Q E F : Nat) (r1 r2 r3 r4 r5 r6 r7 s1 p1 : Nat) (w : World) (ha : Nt w (.slice ao (len N) ca) N) (hb : Nt w (.slice bo (len M) cb) M) (hc : Nt w (.slice co (len Q) cc) Q) (hd : Nt w (.slice dq (len E) cd) E) (he : Nt w (.slice eo (len F) ce) F) (hf0 : len N ≤ 8 ∧ len M ≤ 8 ∧ len Q ≤ 8) (hf20 : len E ≤ 2 ∧ len F ≤ 2) (hfs0 : fstc (digs Q) [digs N, digs M] = 0) (v30 : vld (digs E) = true) (v40 : vld (digs F) = true) (hk0 : len Q ≤ 32) (hn0 : N < Q) (hm90 : M < Q) (l10 : r1 < Q) (l20 : r2 < Q) (l30 : r3 < Q) (l40 : r4 < Q) (l50 : r5 < Q) (l60 : r6 < Q) (l70 : r7 < Q) (ee0 : len E ≤ 64) (ef0 : len F ≤ 64) (es0 : len s1 ≤ 64) (ep0 : len p1 ≤ 64) (ei0 : len 1 ≤ 64) (hs0 : E + F = s1) (hp0 : E * F = p1) (c10 : len E ≤ 1000) (c20 : len F ≤ 1000) (d10 : len E ≤ 10000) (d20 : len F ≤ 10000) (e10 : N ^ E % Q = r1) (e20 : N ^ F % Q = r2) (e30 : M ^ E % Q = r3) (e40 : N ^ s1 % Q = r4) (e4b0 : r1 * r2 % Q = r4) (e50 : r1 ^ F % Q = r5) (e5b0 : N ^ p1 % Q = r5) (e60 : N * M % Q = r6) (e70 : r6 ^ E % Q = r7) (e7b0 : r1 * r3 % Q = r7) (e80 : N ^ 1 % Q = N) :
    Calls Try.prog 10 #[.agg #[.slice ao (len N) ca], .agg #[.slice bo (len M) cb], .agg #[.slice co (len Q) cc], .agg #[.slice dq (len E) cd], .agg #[.slice eo (len F) ce]] w fun e w' => e = .returned (.bool true) ∧ Below w.heap.size w w' := by
  have hf := Lib.hid hf0
  have hf2 := Lib.hid hf20
  have hfs := Lib.hid hfs0
  have v3 := Lib.hid v30
  have v4 := Lib.hid v40
  have hk := Lib.hid hk0
  have hn := Lib.hid hn0
  have hm9 := Lib.hid hm90
  have l1 := Lib.hid l10
  have l2 := Lib.hid l20
  have l3 := Lib.hid l30
  have l4 := Lib.hid l40
  have l5 := Lib.hid l50
  have l6 := Lib.hid l60
  have l7 := Lib.hid l70
  have ee := Lib.hid ee0
  have ef := Lib.hid ef0
  have es := Lib.hid es0
  have ep := Lib.hid ep0
  have ei := Lib.hid ei0
  have hs := Lib.hid hs0
  have hp := Lib.hid hp0
  have c1 := Lib.hid c10
  have c2 := Lib.hid c20
  have d1 := Lib.hid d10
  have d2 := Lib.hid d20
  have e1 := Lib.hid e10
  have e2 := Lib.hid e20
  have e3 := Lib.hid e30
  have e4 := Lib.hid e40
  have e4b := Lib.hid e4b0
  have e5 := Lib.hid e50
  have e5b := Lib.hid e5b0
  have e6 := Lib.hid e60
  have e7 := Lib.hid e70
  have e7b := Lib.hid e7b0
  have e8 := Lib.hid e80
  clear hf0 hf20 hfs0 v30 v40 hk0 hn0 hm90 l10 l20 l30 l40 l50 l60 l70 ee0 ef0 es0 ep0 ei0 hs0 hp0 c10 c20 d10 d20 e10 e20 e30 e40 e4b0 e50 e5b0 e60 e70 e7b0 e80
  have E0 : Hid (EnvB w [] [(.slice eo (len F) ce, digs F), (.slice dq (len E) cd, digs E), (.slice co (len Q) cc, digs Q), (.slice bo (len M) cb, digs M), (.slice ao (len N) ca, digs N)] w) := Lib.hid ((((((EnvB.start w).numN ha).numN hb).numN hc).numN hd).numN he)
  clear ha hb hc hd he
  go_enter Try.func10, Try.ntmps10
  go_wp2_with fail
  have E1 : Hid (EnvB w [(w.heap.size + 1 + 1 + 1 + 1, .slice eo (len F) ce), (w.heap.size + 1 + 1 + 1, .slice dq (len E) cd), (w.heap.size + 1 + 1, .slice co (len Q) cc), (w.heap.size + 1, .slice bo (len M) cb), (w.heap.size, .slice ao (len N) ca)] [(.slice eo (len F) ce, digs F), (.slice dq (len E) cd, digs E), (.slice co (len Q) cc, digs Q), (.slice bo (len M) cb, digs M), (.slice ao (len N) ca, digs N)] _) := Lib.hid ((((((E0.out.push (.slice ao (len N) ca) 24 ⟨_, _, _, rfl⟩ (w.heap.size) (by simp)).push (.slice bo (len M) cb) 24 ⟨_, _, _, rfl⟩ (w.heap.size + 1) (by simp)).push (.slice co (len Q) cc) 24 ⟨_, _, _, rfl⟩ (w.heap.size + 1 + 1) (by simp)).push (.slice dq (len E) cd) 24 ⟨_, _, _, rfl⟩ (w.heap.size + 1 + 1 + 1) (by simp)).push (.slice eo (len F) ce) 24 ⟨_, _, _, rfl⟩ (w.heap.size + 1 + 1 + 1 + 1) (by simp)))
  refine (awake_c _).mono ?_
  rintro e w1 ⟨rfl, hb⟩
  have E2 : Hid (EnvB w [(w.heap.size + 1 + 1 + 1 + 1, .slice eo (len F) ce), (w.heap.size + 1 + 1 + 1, .slice dq (len E) cd), (w.heap.size + 1 + 1, .slice co (len Q) cc), (w.heap.size + 1, .slice bo (len M) cb), (w.heap.size, .slice ao (len N) ca)] [(.slice eo (len F) ce, digs F), (.slice dq (len E) cd, digs E), (.slice co (len Q) cc, digs Q), (.slice bo (len M) cb, digs M), (.slice ao (len N) ca, digs N)] _) := Lib.hid ((E1.out.below hb))
  clear E1 E0 hb
  obtain ⟨p1, f1, -, -, -⟩ := E2.out.box 4 rfl
  obtain ⟨p2, f2, -, -, -⟩ := E2.out.box 3 rfl
  obtain ⟨p3, f3, -, -, -⟩ := E2.out.box 2 rfl
  go_wp2_with fail
  refine (few3_t _ _ _ (digs N) _ _ _ (digs M) _ _ _ (digs Q) 8 _ (E2.out.nt 4 rfl) (E2.out.nt 3 rfl) (E2.out.nt 2 rfl) hf.out _ (by simp)).mono ?_
  rintro e w2 ⟨rfl, hb⟩
  have E3 : Hid (EnvB w [(w.heap.size + 1 + 1 + 1 + 1, .slice eo (len F) ce), (w.heap.size + 1 + 1 + 1, .slice dq (len E) cd), (w.heap.size + 1 + 1, .slice co (len Q) cc), (w.heap.size + 1, .slice bo (len M) cb), (w.heap.size, .slice ao (len N) ca)] [(.slice eo (len F) ce, digs F), (.slice dq (len E) cd, digs E), (.slice co (len Q) cc, digs Q), (.slice bo (len M) cb, digs M), (.slice ao (len N) ca, digs N)] _) := Lib.hid ((E2.out.below hb))
  clear p1 f1 p2 f2 p3 f3 E2 hb
  obtain ⟨p4, f4, -, -, -⟩ := E3.out.box 1 rfl
  obtain ⟨p5, f5, -, -, -⟩ := E3.out.box 0 rfl
  go_wp2_with fail
  refine (few2_t _ _ _ (digs E) _ _ _ (digs F) 2 _ (E3.out.nt 1 rfl) (E3.out.nt 0 rfl) hf2.out _ (by simp)).mono ?_
  rintro e w3 ⟨rfl, hb⟩
  have E4 : Hid (EnvB w [(w.heap.size + 1 + 1 + 1 + 1, .slice eo (len F) ce), (w.heap.size + 1 + 1 + 1, .slice dq (len E) cd), (w.heap.size + 1 + 1, .slice co (len Q) cc), (w.heap.size + 1, .slice bo (len M) cb), (w.heap.size, .slice ao (len N) ca)] [(.slice eo (len F) ce, digs F), (.slice dq (len E) cd, digs E), (.slice co (len Q) cc, digs Q), (.slice bo (len M) cb, digs M), (.slice ao (len N) ca, digs N)] _) := Lib.hid ((E3.out.below hb))
  clear p4 f4 p5 f5 E3 hb
  obtain ⟨p6, f6, -, -, -⟩ := E4.out.box 2 rfl
  obtain ⟨p7, f7, -, -, -⟩ := E4.out.box 4 rfl
  obtain ⟨p8, f8, -, -, -⟩ := E4.out.box 3 rfl
  go_wp2_with fail
  refine (first2_c _ _ _ (digs N) _ _ _ (digs M) _ _ _ (digs Q) 0 _ hfs.out (E4.out.nt 2 rfl) (E4.out.nt 4 rfl) (E4.out.nt 3 rfl) _ (by simp)).mono ?_
  rintro e w4 ⟨rfl, hb⟩
  have E5 : Hid (EnvB w [(w.heap.size + 1 + 1 + 1 + 1, .slice eo (len F) ce), (w.heap.size + 1 + 1 + 1, .slice dq (len E) cd), (w.heap.size + 1 + 1, .slice co (len Q) cc), (w.heap.size + 1, .slice bo (len M) cb), (w.heap.size, .slice ao (len N) ca)] [(.slice eo (len F) ce, digs F), (.slice dq (len E) cd, digs E), (.slice co (len Q) cc, digs Q), (.slice bo (len M) cb, digs M), (.slice ao (len N) ca, digs N)] _) := Lib.hid ((E4.out.below hb))
  clear p6 f6 p7 f7 p8 f8 E4 hb
  obtain ⟨p9, f9, -, -, -⟩ := E5.out.box 1 rfl
  go_wp2_with fail
  refine (rValid_of v3.out (E5.out.nt 1 rfl)).mono ?_
  rintro e w5 ⟨rfl, hb⟩
  have E6 : Hid (EnvB w [(w.heap.size + 1 + 1 + 1 + 1, .slice eo (len F) ce), (w.heap.size + 1 + 1 + 1, .slice dq (len E) cd), (w.heap.size + 1 + 1, .slice co (len Q) cc), (w.heap.size + 1, .slice bo (len M) cb), (w.heap.size, .slice ao (len N) ca)] [(.slice eo (len F) ce, digs F), (.slice dq (len E) cd, digs E), (.slice co (len Q) cc, digs Q), (.slice bo (len M) cb, digs M), (.slice ao (len N) ca, digs N)] _) := Lib.hid ((E5.out.below hb))
  clear p9 f9 E5 hb
  obtain ⟨p10, f10, -, -, -⟩ := E6.out.box 0 rfl
  go_wp2_with fail
  refine (rValid_of v4.out (E6.out.nt 0 rfl)).mono ?_
  rintro e w6 ⟨rfl, hb⟩
  have E7 : Hid (EnvB w [(w.heap.size + 1 + 1 + 1 + 1, .slice eo (len F) ce), (w.heap.size + 1 + 1 + 1, .slice dq (len E) cd), (w.heap.size + 1 + 1, .slice co (len Q) cc), (w.heap.size + 1, .slice bo (len M) cb), (w.heap.size, .slice ao (len N) ca)] [(.slice eo (len F) ce, digs F), (.slice dq (len E) cd, digs E), (.slice co (len Q) cc, digs Q), (.slice bo (len M) cb, digs M), (.slice ao (len N) ca, digs N)] _) := Lib.hid ((E6.out.below hb))
  clear p10 f10 E6 hb
  go_wp2_with fail
  have E8 : Hid (EnvB w [(w.heap.size + 1 + 1 + 1 + 1, .slice eo (len F) ce), (w.heap.size + 1 + 1 + 1, .slice dq (len E) cd), (w.heap.size + 1 + 1, .slice co (len Q) cc), (w.heap.size + 1, .slice bo (len M) cb), (w.heap.size, .slice ao (len N) ca)] [(.slice eo (len F) ce, digs F), (.slice dq (len E) cd, digs E), (.slice co (len Q) cc, digs Q), (.slice bo (len M) cb, digs M), (.slice ao (len N) ca, digs N)] (w6.alloc (.cells #[.bool true] 4))) := Lib.hid (E7.out.alloc _)
  have RW : Hid (Good w6.heap.size (w6.alloc (.cells #[.bool true] 4))) := Lib.hid (Good.mk1 w6)
  clear E7
  have E9 : Hid (EnvB w [(w.heap.size + 1 + 1 + 1 + 1, .slice eo (len F) ce), (w.heap.size + 1 + 1 + 1, .slice dq (len E) cd), (w.heap.size + 1 + 1, .slice co (len Q) cc), (w.heap.size + 1, .slice bo (len M) cb), (w.heap.size, .slice ao (len N) ca)] [(.slice eo (len F) ce, digs F), (.slice dq (len E) cd, digs E), (.slice co (len Q) cc, digs Q), (.slice bo (len M) cb, digs M), (.slice ao (len N) ca, digs N)] (w6.alloc (.cells #[.bool true] 4))) := Lib.hid (E8.out)
  clear E8
  generalize w6.alloc (.cells #[.bool true] 4) = w7 at *
  have bx0 := Lib.hid (E9.out.box 4 rfl)
  have bx1 := Lib.hid (E9.out.box 1 rfl)
  have bx2 := Lib.hid (E9.out.box 0 rfl)
  have bx3 := Lib.hid (E9.out.box 3 rfl)
  refine' wp_region_phase (by kernel_rfl) [0, 1, 2, 3, 4, 5, 6, 7, 8, 9, 10, 11, 12, 13, 14] (by kernel_rfl) #[true, true, true, true, true, true, true, true, true, true, true, true, true, true, true, false, false, false] (by kernel_rfl) 3 (by kernel_rfl) [PEq (.func (.func 39) #[] #[.pointer (some ⟨w.heap.size + 1 + 1, 0, none⟩), .pointer (some ⟨w6.heap.size, 0, none⟩)]), PEq (.agg #[.slice ao (len N) ca]), PEq (.agg #[.slice dq (len E) cd]), PNum (r1), PEq (.func (.func 39) #[] #[.pointer (some ⟨w.heap.size + 1 + 1, 0, none⟩), .pointer (some ⟨w6.heap.size, 0, none⟩)]), PEq (.agg #[.slice ao (len N) ca]), PEq (.agg #[.slice eo (len F) ce]), PNum (r2), PEq (.func (.func 39) #[] #[.pointer (some ⟨w.heap.size + 1 + 1, 0, none⟩), .pointer (some ⟨w6.heap.size, 0, none⟩)]), PEq (.agg #[.slice bo (len M) cb]), PEq (.agg #[.slice dq (len E) cd]), PNum (r3), PBox w7.heap.size, PBox w7.heap.size, PBox w7.heap.size, Fact.none, Fact.none, Fact.none] (List.forall_mem_cons.2 ⟨PEq.st _, List.forall_mem_cons.2 ⟨PEq.st _, List.forall_mem_cons.2 ⟨PEq.st _, List.forall_mem_cons.2 ⟨PNum.st _, List.forall_mem_cons.2 ⟨PEq.st _, List.forall_mem_cons.2 ⟨PEq.st _, List.forall_mem_cons.2 ⟨PEq.st _, List.forall_mem_cons.2 ⟨PNum.st _, List.forall_mem_cons.2 ⟨PEq.st _, List.forall_mem_cons.2 ⟨PEq.st _, List.forall_mem_cons.2 ⟨PEq.st _, List.forall_mem_cons.2 ⟨PNum.st _, List.forall_mem_cons.2 ⟨PBox.st _, List.forall_mem_cons.2 ⟨PBox.st _, List.forall_mem_cons.2 ⟨PBox.st _, List.forall_mem_cons.2 ⟨Fact.none_st, List.forall_mem_cons.2 ⟨Fact.none_st, List.forall_mem_cons.2 ⟨Fact.none_st, List.forall_mem_nil _⟩⟩⟩⟩⟩⟩⟩⟩⟩⟩⟩⟩⟩⟩⟩⟩⟩⟩) _ ?hFr1 ?stepr1 ?doner1
  case hFr1 => intro x; simp only [frameL, Act.put, List.setIfInBounds_toArray, List.set_cons_zero, List.set_cons_succ, Nat.zero_add, Nat.reduceAdd]; exact rfl
  case stepr1 =>
    refine List.forall_mem_cons.2 ⟨?_, ?_⟩
    · intro xv bv ev WW hB hdp
      refine op_of rfl ?_
      clear hdp
      intro KK hKK
      go_simp
      exact act_eq (hKK.out _ _ (Below.refl _ _) rfl) (by first | rfl | simp [upd])
    refine List.forall_mem_cons.2 ⟨?_, ?_⟩
    · intro xv bv ev WW hB hdp
      refine op_of rfl ?_
      clear hdp
      intro KK hKK
      obtain ⟨z, -, -, -, -⟩ := bx0.out.below hB
      go_simp
      exact act_eq (hKK.out (.agg #[.slice ao (len N) ca]) _ (Below.refl _ _) rfl) (by first | rfl | simp [upd])
    refine List.forall_mem_cons.2 ⟨?_, ?_⟩
    · intro xv bv ev WW hB hdp
      refine op_of rfl ?_
      clear hdp
      intro KK hKK
      obtain ⟨z, -, -, -, -⟩ := bx1.out.below hB
      go_simp
      exact act_eq (hKK.out (.agg #[.slice dq (len E) cd]) _ (Below.refl _ _) rfl) (by first | rfl | simp [upd])
    refine List.forall_mem_cons.2 ⟨?_, ?_⟩
    · intro xv bv ev WW hB hdp
      refine op_of rfl ?_
      have ed0 : xv 0 = .func (.func 39) #[] #[.pointer (some ⟨w.heap.size + 1 + 1, 0, none⟩), .pointer (some ⟨w6.heap.size, 0, none⟩)] := hdp 0 (by kernel_rfl)
      have ed1 : xv 1 = .agg #[.slice ao (len N) ca] := hdp 1 (by kernel_rfl)
      have ed2 : xv 2 = .agg #[.slice dq (len E) cd] := hdp 2 (by kernel_rfl)
      clear hdp
      intro KK hKK
      go_simp
      refine (pow_clk ((E9.out.below hB).box 2 rfl) (RW.out.below hB) ((E9.out.below hB).nt 2 rfl) hk.out l1.out hn.out ee.out e1.out ((E9.out.below hB).nt 4 rfl) ((E9.out.below hB).nt 1 rfl)).mono ?_
      rintro e WW' ⟨⟨xxa, xxk, rfl, hxx⟩, hb⟩
      (try dsimp only)
      (try simp only [Act.put, List.setIfInBounds_toArray, List.set_cons_zero, List.set_cons_succ])
      exact act_eq (hKK.out _ _ hb ⟨_, _, rfl, hxx⟩) (by first | rfl | simp [upd, ed0, ed1, ed2])
    refine List.forall_mem_cons.2 ⟨?_, ?_⟩
    · intro xv bv ev WW hB hdp
      refine op_of rfl ?_
      clear hdp
      intro KK hKK
      go_simp
      exact act_eq (hKK.out _ _ (Below.refl _ _) rfl) (by first | rfl | simp [upd])
    refine List.forall_mem_cons.2 ⟨?_, ?_⟩
    · intro xv bv ev WW hB hdp
      refine op_of rfl ?_
      clear hdp
      intro KK hKK
      obtain ⟨z, -, -, -, -⟩ := bx0.out.below hB
      go_simp
      exact act_eq (hKK.out (.agg #[.slice ao (len N) ca]) _ (Below.refl _ _) rfl) (by first | rfl | simp [upd])
    refine List.forall_mem_cons.2 ⟨?_, ?_⟩
    · intro xv bv ev WW hB hdp
      refine op_of rfl ?_
      clear hdp
      intro KK hKK
      obtain ⟨z, -, -, -, -⟩ := bx2.out.below hB
      go_simp
      exact act_eq (hKK.out (.agg #[.slice eo (len F) ce]) _ (Below.refl _ _) rfl) (by first | rfl | simp [upd])
    refine List.forall_mem_cons.2 ⟨?_, ?_⟩
    · intro xv bv ev WW hB hdp
      refine op_of rfl ?_
      have ed4 : xv 4 = .func (.func 39) #[] #[.pointer (some ⟨w.heap.size + 1 + 1, 0, none⟩), .pointer (some ⟨w6.heap.size, 0, none⟩)] := hdp 4 (by kernel_rfl)
      have ed5 : xv 5 = .agg #[.slice ao (len N) ca] := hdp 5 (by kernel_rfl)
      have ed6 : xv 6 = .agg #[.slice eo (len F) ce] := hdp 6 (by kernel_rfl)
      clear hdp
      intro KK hKK
      go_simp
      refine (pow_clk ((E9.out.below hB).box 2 rfl) (RW.out.below hB) ((E9.out.below hB).nt 2 rfl) hk.out l2.out hn.out ef.out e2.out ((E9.out.below hB).nt 4 rfl) ((E9.out.below hB).nt 0 rfl)).mono ?_
      rintro e WW' ⟨⟨yya, yyk, rfl, hyy⟩, hb⟩
      (try dsimp only)
      (try simp only [Act.put, List.setIfInBounds_toArray, List.set_cons_zero, List.set_cons_succ])
      exact act_eq (hKK.out _ _ hb ⟨_, _, rfl, hyy⟩) (by first | rfl | simp [upd, ed4, ed5, ed6])
    refine List.forall_mem_cons.2 ⟨?_, ?_⟩
    · intro xv bv ev WW hB hdp
      refine op_of rfl ?_
      clear hdp
      intro KK hKK
      go_simp
      exact act_eq (hKK.out _ _ (Below.refl _ _) rfl) (by first | rfl | simp [upd])
    refine List.forall_mem_cons.2 ⟨?_, ?_⟩
    · intro xv bv ev WW hB hdp
      refine op_of rfl ?_
      clear hdp
      intro KK hKK
      obtain ⟨z, -, -, -, -⟩ := bx3.out.below hB
      go_simp
      exact act_eq (hKK.out (.agg #[.slice bo (len M) cb]) _ (Below.refl _ _) rfl) (by first | rfl | simp [upd])
    refine List.forall_mem_cons.2 ⟨?_, ?_⟩
    · intro xv bv ev WW hB hdp
      refine op_of rfl ?_
      clear hdp
      intro KK hKK
      obtain ⟨z, -, -, -, -⟩ := bx1.out.below hB
      go_simp
      exact act_eq (hKK.out (.agg #[.slice dq (len E) cd]) _ (Below.refl _ _) rfl) (by first | rfl | simp [upd])
    refine List.forall_mem_cons.2 ⟨?_, ?_⟩
    · intro xv bv ev WW hB hdp
      refine op_of rfl ?_
      have ed8 : xv 8 = .func (.func 39) #[] #[.pointer (some ⟨w.heap.size + 1 + 1, 0, none⟩), .pointer (some ⟨w6.heap.size, 0, none⟩)] := hdp 8 (by kernel_rfl)
      have ed9 : xv 9 = .agg #[.slice bo (len M) cb] := hdp 9 (by kernel_rfl)
      have ed10 : xv 10 = .agg #[.slice dq (len E) cd] := hdp 10 (by kernel_rfl)
      clear hdp
      intro KK hKK
      go_simp
      refine (pow_clk ((E9.out.below hB).box 2 rfl) (RW.out.below hB) ((E9.out.below hB).nt 2 rfl) hk.out l3.out hm9.out ee.out e3.out ((E9.out.below hB).nt 3 rfl) ((E9.out.below hB).nt 1 rfl)).mono ?_
      rintro e WW' ⟨⟨zza, zzk, rfl, hzz⟩, hb⟩
      (try dsimp only)
      (try simp only [Act.put, List.setIfInBounds_toArray, List.set_cons_zero, List.set_cons_succ])
      exact act_eq (hKK.out _ _ hb ⟨_, _, rfl, hzz⟩) (by first | rfl | simp [upd, ed8, ed9, ed10])
    refine List.forall_mem_cons.2 ⟨?_, ?_⟩
    · intro xv bv ev WW hB hdp
      refine op_of rfl ?_
      clear hdp
      intro KK hKK
      go_simp
      exact act_eq (hKK.out (.pointer (some ⟨WW.heap.size, 0, none⟩)) _ (below_one _ _) (PBox.mk hB rfl _)) (by first | rfl | simp [upd])
    refine List.forall_mem_cons.2 ⟨?_, ?_⟩
    · intro xv bv ev WW hB hdp
      refine op_of rfl ?_
      clear hdp
      intro KK hKK
      go_simp
      exact act_eq (hKK.out (.pointer (some ⟨WW.heap.size, 0, none⟩)) _ (below_one _ _) (PBox.mk hB rfl _)) (by first | rfl | simp [upd])
    refine List.forall_mem_cons.2 ⟨?_, ?_⟩
    · intro xv bv ev WW hB hdp
      refine op_of rfl ?_
      clear hdp
      intro KK hKK
      go_simp
      exact act_eq (hKK.out (.pointer (some ⟨WW.heap.size, 0, none⟩)) _ (below_one _ _) (PBox.mk hB rfl _)) (by first | rfl | simp [upd])
    exact List.forall_mem_nil _
  intro xv bv ev w8 hB hR hO
  have ed0 : xv 0 = .func (.func 39) #[] #[.pointer (some ⟨w.heap.size + 1 + 1, 0, none⟩), .pointer (some ⟨w6.heap.size, 0, none⟩)] := hR 0 (by kernel_rfl)
  have ed1 : xv 1 = .agg #[.slice ao (len N) ca] := hR 1 (by kernel_rfl)
  have ed2 : xv 2 = .agg #[.slice dq (len E) cd] := hR 2 (by kernel_rfl)
  obtain ⟨xxa, xxk, ed3, hxx⟩ := (show (PNum (r1)) (xv 3) (bv 3) (ev 3) w8 from hR 3 (by kernel_rfl))
  have ed4 : xv 4 = .func (.func 39) #[] #[.pointer (some ⟨w.heap.size + 1 + 1, 0, none⟩), .pointer (some ⟨w6.heap.size, 0, none⟩)] := hR 4 (by kernel_rfl)
  have ed5 : xv 5 = .agg #[.slice ao (len N) ca] := hR 5 (by kernel_rfl)
  have ed6 : xv 6 = .agg #[.slice eo (len F) ce] := hR 6 (by kernel_rfl)
  obtain ⟨yya, yyk, ed7, hyy⟩ := (show (PNum (r2)) (xv 7) (bv 7) (ev 7) w8 from hR 7 (by kernel_rfl))
  have ed8 : xv 8 = .func (.func 39) #[] #[.pointer (some ⟨w.heap.size + 1 + 1, 0, none⟩), .pointer (some ⟨w6.heap.size, 0, none⟩)] := hR 8 (by kernel_rfl)
  have ed9 : xv 9 = .agg #[.slice bo (len M) cb] := hR 9 (by kernel_rfl)
  have ed10 : xv 10 = .agg #[.slice dq (len E) cd] := hR 10 (by kernel_rfl)
  obtain ⟨zza, zzk, ed11, hzz⟩ := (show (PNum (r3)) (xv 11) (bv 11) (ev 11) w8 from hR 11 (by kernel_rfl))
  obtain ⟨gr1_12, ed12, hg12, hb12, he12, hc12, hf12, hs12⟩ := (show (PBox w7.heap.size) (xv 12) (bv 12) (ev 12) w8 from hR 12 (by kernel_rfl))
  obtain ⟨gr1_13, ed13, hg13, hb13, he13, hc13, hf13, hs13⟩ := (show (PBox w7.heap.size) (xv 13) (bv 13) (ev 13) w8 from hR 13 (by kernel_rfl))
  obtain ⟨gr1_14, ed14, hg14, hb14, he14, hc14, hf14, hs14⟩ := (show (PBox w7.heap.size) (xv 14) (bv 14) (ev 14) w8 from hR 14 (by kernel_rfl))
  simp only [ed0, ed1, ed2, ed3, ed4, ed5, ed6, ed7, ed8, ed9, ed10, ed11, ed12, ed13, ed14]
  have RW2 := Lib.hid (RW.out.below hB)
  clear RW
  have RW := RW2
  clear RW2
  have ne12_13 : gr1_12 ≠ gr1_13 := by have := hO 12 13 (by kernel_rfl) (by kernel_rfl) (by decide); omega
  have ne12_14 : gr1_12 ≠ gr1_14 := by have := hO 12 14 (by kernel_rfl) (by kernel_rfl) (by decide); omega
  have ne13_14 : gr1_13 ≠ gr1_14 := by have := hO 13 14 (by kernel_rfl) (by kernel_rfl) (by decide); omega
  have E10 : Hid (EnvB w [(gr1_14, .slice none 0 0), (gr1_13, .slice none 0 0), (gr1_12, .slice none 0 0), (w.heap.size + 1 + 1 + 1 + 1, .slice eo (len F) ce), (w.heap.size + 1 + 1 + 1, .slice dq (len E) cd), (w.heap.size + 1 + 1, .slice co (len Q) cc), (w.heap.size + 1, .slice bo (len M) cb), (w.heap.size, .slice ao (len N) ca)] [(.slice zza (len r3) zzk, digs r3), (.slice yya (len r2) yyk, digs r2), (.slice xxa (len r1) xxk, digs r1), (.slice eo (len F) ce, digs F), (.slice dq (len E) cd, digs E), (.slice co (len Q) cc, digs Q), (.slice bo (len M) cb, digs M), (.slice ao (len N) ca, digs N)] _) := Lib.hid ((((((((E9.out.below hB).add gr1_12 (.slice none 0 0) ⟨hc12, hf12, hs12, Nat.le_trans E9.out.size hg12, ⟨_, _, _, rfl⟩⟩ (fun p hp => by have := E9.out.old p hp; omega)).add gr1_13 (.slice none 0 0) ⟨hc13, hf13, hs13, Nat.le_trans E9.out.size hg13, ⟨_, _, _, rfl⟩⟩ (List.forall_mem_cons.2 ⟨ne12_13, fun p hp => by have := E9.out.old p hp; omega⟩)).add gr1_14 (.slice none 0 0) ⟨hc14, hf14, hs14, Nat.le_trans E9.out.size hg14, ⟨_, _, _, rfl⟩⟩ (List.forall_mem_cons.2 ⟨ne13_14, List.forall_mem_cons.2 ⟨ne12_14, fun p hp => by have := E9.out.old p hp; omega⟩⟩)).numN (hxx.out : Nt _ _ (r1))).numN (hyy.out : Nt _ _ (r2))).numN (hzz.out : Nt _ _ (r3))))
  clear E9 hB hR hO bx0 bx1 bx2 bx3 ed0 ed1 ed2 ed3 ed4 ed5 ed6 ed7 ed8 ed9 ed10 ed11 ed12 ed13 ed14 hxx hyy hzz hg12 hb12 he12 hc12 hf12 hs12 hg13 hb13 he13 hc13 hf13 hs13 ne12_13 hg14 hb14 he14 hc14 hf14 hs14 ne12_14 ne13_14
  obtain ⟨p11, f11, -, -, -⟩ := E10.out.box 2 rfl
  refine wpAny_next (i := 15) (by kernel_rfl) rfl (fun KK hKK => ?_)
  go_simp
  have RW2 : Hid (Good w6.heap.size (w8.setCell ⟨gr1_12, 0, none⟩ (.slice xxa (len r1) xxk))) := Lib.hid (RW.out.set (E10.out.box 2 rfl) _)
  clear RW
  have RW := RW2
  clear RW2
  have E11 : Hid (EnvB w [(gr1_14, .slice none 0 0), (gr1_13, .slice none 0 0), (gr1_12, .slice xxa (len r1) xxk), (w.heap.size + 1 + 1 + 1 + 1, .slice eo (len F) ce), (w.heap.size + 1 + 1 + 1, .slice dq (len E) cd), (w.heap.size + 1 + 1, .slice co (len Q) cc), (w.heap.size + 1, .slice bo (len M) cb), (w.heap.size, .slice ao (len N) ca)] [(.slice zza (len r3) zzk, digs r3), (.slice yya (len r2) yyk, digs r2), (.slice xxa (len r1) xxk, digs r1), (.slice eo (len F) ce, digs F), (.slice dq (len E) cd, digs E), (.slice co (len Q) cc, digs Q), (.slice bo (len M) cb, digs M), (.slice ao (len N) ca, digs N)] _) := Lib.hid ((E10.out.set 2 (.slice xxa (len r1) xxk) rfl ⟨_, _, _, rfl⟩))
  refine hKK.out _ _ ?_
  clear hKK KK
  obtain ⟨p12, f12, -, -, -⟩ := E11.out.box 1 rfl
  refine wpAny_next (i := 16) (by kernel_rfl) rfl (fun KK hKK => ?_)
  go_simp
  have RW2 : Hid (Good w6.heap.size ((w8.setCell ⟨gr1_12, 0, none⟩ (.slice xxa (len r1) xxk)).setCell ⟨gr1_13, 0, none⟩ (.slice yya (len r2) yyk))) := Lib.hid (RW.out.set (E11.out.box 1 rfl) _)
  clear RW
  have RW := RW2
  clear RW2
  have E12 : Hid (EnvB w [(gr1_14, .slice none 0 0), (gr1_13, .slice yya (len r2) yyk), (gr1_12, .slice xxa (len r1) xxk), (w.heap.size + 1 + 1 + 1 + 1, .slice eo (len F) ce), (w.heap.size + 1 + 1 + 1, .slice dq (len E) cd), (w.heap.size + 1 + 1, .slice co (len Q) cc), (w.heap.size + 1, .slice bo (len M) cb), (w.heap.size, .slice ao (len N) ca)] [(.slice zza (len r3) zzk, digs r3), (.slice yya (len r2) yyk, digs r2), (.slice xxa (len r1) xxk, digs r1), (.slice eo (len F) ce, digs F), (.slice dq (len E) cd, digs E), (.slice co (len Q) cc, digs Q), (.slice bo (len M) cb, digs M), (.slice ao (len N) ca, digs N)] _) := Lib.hid ((E11.out.set 1 (.slice yya (len r2) yyk) rfl ⟨_, _, _, rfl⟩))
  refine hKK.out _ _ ?_
  clear hKK KK
  obtain ⟨p13, f13, -, -, -⟩ := E12.out.box 0 rfl
  refine wpAny_next (i := 17) (by kernel_rfl) rfl (fun KK hKK => ?_)
  go_simp
  have RW2 : Hid (Good w6.heap.size (((w8.setCell ⟨gr1_12, 0, none⟩ (.slice xxa (len r1) xxk)).setCell ⟨gr1_13, 0, none⟩ (.slice yya (len r2) yyk)).setCell ⟨gr1_14, 0, none⟩ (.slice zza (len r3) zzk))) := Lib.hid (RW.out.set (E12.out.box 0 rfl) _)
  clear RW
  have RW := RW2
  clear RW2
  have E13 : Hid (EnvB w [(gr1_14, .slice zza (len r3) zzk), (gr1_13, .slice yya (len r2) yyk), (gr1_12, .slice xxa (len r1) xxk), (w.heap.size + 1 + 1 + 1 + 1, .slice eo (len F) ce), (w.heap.size + 1 + 1 + 1, .slice dq (len E) cd), (w.heap.size + 1 + 1, .slice co (len Q) cc), (w.heap.size + 1, .slice bo (len M) cb), (w.heap.size, .slice ao (len N) ca)] [(.slice zza (len r3) zzk, digs r3), (.slice yya (len r2) yyk, digs r2), (.slice xxa (len r1) xxk, digs r1), (.slice eo (len F) ce, digs F), (.slice dq (len E) cd, digs E), (.slice co (len Q) cc, digs Q), (.slice bo (len M) cb, digs M), (.slice ao (len N) ca, digs N)] _) := Lib.hid ((E12.out.set 0 (.slice zza (len r3) zzk) rfl ⟨_, _, _, rfl⟩))
  refine hKK.out _ _ ?_
  clear hKK KK
  refine wpAny_done (by kernel_rfl) ?_ _
  go_wp2_with fail
  have E14 : Hid (EnvB w [(gr1_14, .slice zza (len r3) zzk), (gr1_13, .slice yya (len r2) yyk), (gr1_12, .slice xxa (len r1) xxk), (w.heap.size + 1 + 1 + 1 + 1, .slice eo (len F) ce), (w.heap.size + 1 + 1 + 1, .slice dq (len E) cd), (w.heap.size + 1 + 1, .slice co (len Q) cc), (w.heap.size + 1, .slice bo (len M) cb), (w.heap.size, .slice ao (len N) ca)] [(.slice zza (len r3) zzk, digs r3), (.slice yya (len r2) yyk, digs r2), (.slice xxa (len r1) xxk, digs r1), (.slice eo (len F) ce, digs F), (.slice dq (len E) cd, digs E), (.slice co (len Q) cc, digs Q), (.slice bo (len M) cb, digs M), (.slice ao (len N) ca, digs N)] (((w8.setCell ⟨gr1_12, 0, none⟩ (.slice xxa (len r1) xxk)).setCell ⟨gr1_13, 0, none⟩ (.slice yya (len r2) yyk)).setCell ⟨gr1_14, 0, none⟩ (.slice zza (len r3) zzk))) := Lib.hid (E13.out)
  clear p11 f11 p12 f12 p13 f13 E13
  generalize ((w8.setCell ⟨gr1_12, 0, none⟩ (.slice xxa (len r1) xxk)).setCell ⟨gr1_13, 0, none⟩ (.slice yya (len r2) yyk)).setCell ⟨gr1_14, 0, none⟩ (.slice zza (len r3) zzk) = w9 at *
  have bx0 := Lib.hid (E14.out.box 4 rfl)
  have bx1 := Lib.hid (E14.out.box 3 rfl)
  refine' wp_region_phase (by kernel_rfl) [0, 1, 2, 3, 4, 5, 6, 7] (by kernel_rfl) #[true, true, true, true, true, true, true, true, false, false] (by kernel_rfl) 2 (by kernel_rfl) [PEq (.agg #[.slice dq (len E) cd]), PEq (.agg #[.slice eo (len F) ce]), PNum (s1), PEq (.agg #[.slice dq (len E) cd]), PEq (.agg #[.slice eo (len F) ce]), PNum (p1), PBox w9.heap.size, PBox w9.heap.size, Fact.none, Fact.none] (List.forall_mem_cons.2 ⟨PEq.st _, List.forall_mem_cons.2 ⟨PEq.st _, List.forall_mem_cons.2 ⟨PNum.st _, List.forall_mem_cons.2 ⟨PEq.st _, List.forall_mem_cons.2 ⟨PEq.st _, List.forall_mem_cons.2 ⟨PNum.st _, List.forall_mem_cons.2 ⟨PBox.st _, List.forall_mem_cons.2 ⟨PBox.st _, List.forall_mem_cons.2 ⟨Fact.none_st, List.forall_mem_cons.2 ⟨Fact.none_st, List.forall_mem_nil _⟩⟩⟩⟩⟩⟩⟩⟩⟩⟩) _ ?hFr2 ?stepr2 ?doner2
  case hFr2 => intro x; simp only [frameL, Act.put, List.setIfInBounds_toArray, List.set_cons_zero, List.set_cons_succ, Nat.zero_add, Nat.reduceAdd]; exact rfl
  case stepr2 =>
    refine List.forall_mem_cons.2 ⟨?_, ?_⟩
    · intro xv bv ev WW hB hdp
      refine op_of rfl ?_
      clear hdp
      intro KK hKK
      obtain ⟨z, -, -, -, -⟩ := bx0.out.below hB
      go_simp
      exact act_eq (hKK.out (.agg #[.slice dq (len E) cd]) _ (Below.refl _ _) rfl) (by first | rfl | simp [upd])
    refine List.forall_mem_cons.2 ⟨?_, ?_⟩
    · intro xv bv ev WW hB hdp
      refine op_of rfl ?_
      clear hdp
      intro KK hKK
      obtain ⟨z, -, -, -, -⟩ := bx1.out.below hB
      go_simp
      exact act_eq (hKK.out (.agg #[.slice eo (len F) ce]) _ (Below.refl _ _) rfl) (by first | rfl | simp [upd])
    refine List.forall_mem_cons.2 ⟨?_, ?_⟩
    · intro xv bv ev WW hB hdp
      refine op_of rfl ?_
      have ed0 : xv 0 = .agg #[.slice dq (len E) cd] := hdp 0 (by kernel_rfl)
      have ed1 : xv 1 = .agg #[.slice eo (len F) ce] := hdp 1 (by kernel_rfl)
      clear hdp
      intro KK hKK
      go_simp
      refine (rPlus_c hs.out d1.out d2.out ((E14.out.below hB).nt 4 rfl) ((E14.out.below hB).nt 3 rfl)).mono ?_
      rintro e WW' ⟨⟨sua, suk, rfl, hsu⟩, hb⟩
      (try dsimp only)
      (try simp only [Act.put, List.setIfInBounds_toArray, List.set_cons_zero, List.set_cons_succ])
      exact act_eq (hKK.out _ _ hb ⟨_, _, rfl, hsu⟩) (by first | rfl | simp [upd, ed0, ed1])
    refine List.forall_mem_cons.2 ⟨?_, ?_⟩
    · intro xv bv ev WW hB hdp
      refine op_of rfl ?_
      clear hdp
      intro KK hKK
      obtain ⟨z, -, -, -, -⟩ := bx0.out.below hB
      go_simp
      exact act_eq (hKK.out (.agg #[.slice dq (len E) cd]) _ (Below.refl _ _) rfl) (by first | rfl | simp [upd])
    refine List.forall_mem_cons.2 ⟨?_, ?_⟩
    · intro xv bv ev WW hB hdp
      refine op_of rfl ?_
      clear hdp
      intro KK hKK
      obtain ⟨z, -, -, -, -⟩ := bx1.out.below hB
      go_simp
      exact act_eq (hKK.out (.agg #[.slice eo (len F) ce]) _ (Below.refl _ _) rfl) (by first | rfl | simp [upd])
    refine List.forall_mem_cons.2 ⟨?_, ?_⟩
    · intro xv bv ev WW hB hdp
      refine op_of rfl ?_
      have ed3 : xv 3 = .agg #[.slice dq (len E) cd] := hdp 3 (by kernel_rfl)
      have ed4 : xv 4 = .agg #[.slice eo (len F) ce] := hdp 4 (by kernel_rfl)
      clear hdp
      intro KK hKK
      go_simp
      refine (rTimes_c hp.out c1.out c2.out ((E14.out.below hB).nt 4 rfl) ((E14.out.below hB).nt 3 rfl)).mono ?_
      rintro e WW' ⟨⟨pra, prk, rfl, hpr⟩, hb⟩
      (try dsimp only)
      (try simp only [Act.put, List.setIfInBounds_toArray, List.set_cons_zero, List.set_cons_succ])
      exact act_eq (hKK.out _ _ hb ⟨_, _, rfl, hpr⟩) (by first | rfl | simp [upd, ed3, ed4])
    refine List.forall_mem_cons.2 ⟨?_, ?_⟩
    · intro xv bv ev WW hB hdp
      refine op_of rfl ?_
      clear hdp
      intro KK hKK
      go_simp
      exact act_eq (hKK.out (.pointer (some ⟨WW.heap.size, 0, none⟩)) _ (below_one _ _) (PBox.mk hB rfl _)) (by first | rfl | simp [upd])
    refine List.forall_mem_cons.2 ⟨?_, ?_⟩
    · intro xv bv ev WW hB hdp
      refine op_of rfl ?_
      clear hdp
      intro KK hKK
      go_simp
      exact act_eq (hKK.out (.pointer (some ⟨WW.heap.size, 0, none⟩)) _ (below_one _ _) (PBox.mk hB rfl _)) (by first | rfl | simp [upd])
    exact List.forall_mem_nil _
  intro xv bv ev w10 hB hR hO
  have ed0 : xv 0 = .agg #[.slice dq (len E) cd] := hR 0 (by kernel_rfl)
  have ed1 : xv 1 = .agg #[.slice eo (len F) ce] := hR 1 (by kernel_rfl)
  obtain ⟨sua, suk, ed2, hsu⟩ := (show (PNum (s1)) (xv 2) (bv 2) (ev 2) w10 from hR 2 (by kernel_rfl))
  have ed3 : xv 3 = .agg #[.slice dq (len E) cd] := hR 3 (by kernel_rfl)
  have ed4 : xv 4 = .agg #[.slice eo (len F) ce] := hR 4 (by kernel_rfl)
  obtain ⟨pra, prk, ed5, hpr⟩ := (show (PNum (p1)) (xv 5) (bv 5) (ev 5) w10 from hR 5 (by kernel_rfl))
  obtain ⟨gr2_6, ed6, hg6, hb6, he6, hc6, hf6, hs6⟩ := (show (PBox w9.heap.size) (xv 6) (bv 6) (ev 6) w10 from hR 6 (by kernel_rfl))
  obtain ⟨gr2_7, ed7, hg7, hb7, he7, hc7, hf7, hs7⟩ := (show (PBox w9.heap.size) (xv 7) (bv 7) (ev 7) w10 from hR 7 (by kernel_rfl))
  simp only [ed0, ed1, ed2, ed3, ed4, ed5, ed6, ed7]
  have RW2 := Lib.hid (RW.out.below hB)
  clear RW
  have RW := RW2
  clear RW2
  have ne6_7 : gr2_6 ≠ gr2_7 := by have := hO 6 7 (by kernel_rfl) (by kernel_rfl) (by decide); omega
  have E15 : Hid (EnvB w [(gr2_7, .slice none 0 0), (gr2_6, .slice none 0 0), (gr1_14, .slice zza (len r3) zzk), (gr1_13, .slice yya (len r2) yyk), (gr1_12, .slice xxa (len r1) xxk), (w.heap.size + 1 + 1 + 1 + 1, .slice eo (len F) ce), (w.heap.size + 1 + 1 + 1, .slice dq (len E) cd), (w.heap.size + 1 + 1, .slice co (len Q) cc), (w.heap.size + 1, .slice bo (len M) cb), (w.heap.size, .slice ao (len N) ca)] [(.slice pra (len p1) prk, digs p1), (.slice sua (len s1) suk, digs s1), (.slice zza (len r3) zzk, digs r3), (.slice yya (len r2) yyk, digs r2), (.slice xxa (len r1) xxk, digs r1), (.slice eo (len F) ce, digs F), (.slice dq (len E) cd, digs E), (.slice co (len Q) cc, digs Q), (.slice bo (len M) cb, digs M), (.slice ao (len N) ca, digs N)] _) := Lib.hid ((((((E14.out.below hB).add gr2_6 (.slice none 0 0) ⟨hc6, hf6, hs6, Nat.le_trans E14.out.size hg6, ⟨_, _, _, rfl⟩⟩ (fun p hp => by have := E14.out.old p hp; omega)).add gr2_7 (.slice none 0 0) ⟨hc7, hf7, hs7, Nat.le_trans E14.out.size hg7, ⟨_, _, _, rfl⟩⟩ (List.forall_mem_cons.2 ⟨ne6_7, fun p hp => by have := E14.out.old p hp; omega⟩)).numN (hsu.out : Nt _ _ (s1))).numN (hpr.out : Nt _ _ (p1))))
  clear E14 E10 E11 E12 hB hR hO bx0 bx1 ed0 ed1 ed2 ed3 ed4 ed5 ed6 ed7 hsu hpr hg6 hb6 he6 hc6 hf6 hs6 hg7 hb7 he7 hc7 hf7 hs7 ne6_7
  obtain ⟨p14, f14, -, -, -⟩ := E15.out.box 1 rfl
  refine wpAny_next (i := 8) (by kernel_rfl) rfl (fun KK hKK => ?_)
  go_simp
  have RW2 : Hid (Good w6.heap.size (w10.setCell ⟨gr2_6, 0, none⟩ (.slice sua (len s1) suk))) := Lib.hid (RW.out.set (E15.out.box 1 rfl) _)
  clear RW
  have RW := RW2
  clear RW2
  have E16 : Hid (EnvB w [(gr2_7, .slice none 0 0), (gr2_6, .slice sua (len s1) suk), (gr1_14, .slice zza (len r3) zzk), (gr1_13, .slice yya (len r2) yyk), (gr1_12, .slice xxa (len r1) xxk), (w.heap.size + 1 + 1 + 1 + 1, .slice eo (len F) ce), (w.heap.size + 1 + 1 + 1, .slice dq (len E) cd), (w.heap.size + 1 + 1, .slice co (len Q) cc), (w.heap.size + 1, .slice bo (len M) cb), (w.heap.size, .slice ao (len N) ca)] [(.slice pra (len p1) prk, digs p1), (.slice sua (len s1) suk, digs s1), (.slice zza (len r3) zzk, digs r3), (.slice yya (len r2) yyk, digs r2), (.slice xxa (len r1) xxk, digs r1), (.slice eo (len F) ce, digs F), (.slice dq (len E) cd, digs E), (.slice co (len Q) cc, digs Q), (.slice bo (len M) cb, digs M), (.slice ao (len N) ca, digs N)] _) := Lib.hid ((E15.out.set 1 (.slice sua (len s1) suk) rfl ⟨_, _, _, rfl⟩))
  refine hKK.out _ _ ?_
  clear hKK KK
  obtain ⟨p15, f15, -, -, -⟩ := E16.out.box 0 rfl
  refine wpAny_next (i := 9) (by kernel_rfl) rfl (fun KK hKK => ?_)
  go_simp
  have RW2 : Hid (Good w6.heap.size ((w10.setCell ⟨gr2_6, 0, none⟩ (.slice sua (len s1) suk)).setCell ⟨gr2_7, 0, none⟩ (.slice pra (len p1) prk))) := Lib.hid (RW.out.set (E16.out.box 0 rfl) _)
  clear RW
  have RW := RW2
  clear RW2
  have E17 : Hid (EnvB w [(gr2_7, .slice pra (len p1) prk), (gr2_6, .slice sua (len s1) suk), (gr1_14, .slice zza (len r3) zzk), (gr1_13, .slice yya (len r2) yyk), (gr1_12, .slice xxa (len r1) xxk), (w.heap.size + 1 + 1 + 1 + 1, .slice eo (len F) ce), (w.heap.size + 1 + 1 + 1, .slice dq (len E) cd), (w.heap.size + 1 + 1, .slice co (len Q) cc), (w.heap.size + 1, .slice bo (len M) cb), (w.heap.size, .slice ao (len N) ca)] [(.slice pra (len p1) prk, digs p1), (.slice sua (len s1) suk, digs s1), (.slice zza (len r3) zzk, digs r3), (.slice yya (len r2) yyk, digs r2), (.slice xxa (len r1) xxk, digs r1), (.slice eo (len F) ce, digs F), (.slice dq (len E) cd, digs E), (.slice co (len Q) cc, digs Q), (.slice bo (len M) cb, digs M), (.slice ao (len N) ca, digs N)] _) := Lib.hid ((E16.out.set 0 (.slice pra (len p1) prk) rfl ⟨_, _, _, rfl⟩))
  refine hKK.out _ _ ?_
  clear hKK KK
  refine wpAny_done (by kernel_rfl) ?_ _
  obtain ⟨-, p16, f16⟩ := RW.out
  go_wp2_with fail
  have E18 : Hid (EnvB w [(gr2_7, .slice pra (len p1) prk), (gr2_6, .slice sua (len s1) suk), (gr1_14, .slice zza (len r3) zzk), (gr1_13, .slice yya (len r2) yyk), (gr1_12, .slice xxa (len r1) xxk), (w.heap.size + 1 + 1 + 1 + 1, .slice eo (len F) ce), (w.heap.size + 1 + 1 + 1, .slice dq (len E) cd), (w.heap.size + 1 + 1, .slice co (len Q) cc), (w.heap.size + 1, .slice bo (len M) cb), (w.heap.size, .slice ao (len N) ca)] [(.slice pra (len p1) prk, digs p1), (.slice sua (len s1) suk, digs s1), (.slice zza (len r3) zzk, digs r3), (.slice yya (len r2) yyk, digs r2), (.slice xxa (len r1) xxk, digs r1), (.slice eo (len F) ce, digs F), (.slice dq (len E) cd, digs E), (.slice co (len Q) cc, digs Q), (.slice bo (len M) cb, digs M), (.slice ao (len N) ca, digs N)] ((w10.setCell ⟨gr2_6, 0, none⟩ (.slice sua (len s1) suk)).setCell ⟨gr2_7, 0, none⟩ (.slice pra (len p1) prk))) := Lib.hid (E17.out)
  clear p14 f14 p15 f15 p16 f16 E17
  generalize (w10.setCell ⟨gr2_6, 0, none⟩ (.slice sua (len s1) suk)).setCell ⟨gr2_7, 0, none⟩ (.slice pra (len p1) prk) = w11 at *
  have bx0 := Lib.hid (E18.out.box 9 rfl)
  have bx1 := Lib.hid (E18.out.box 1 rfl)
  have bx2 := Lib.hid (E18.out.box 4 rfl)
  have bx3 := Lib.hid (E18.out.box 3 rfl)
  have bx4 := Lib.hid (E18.out.box 5 rfl)
  have bx5 := Lib.hid (E18.out.box 0 rfl)
  have bx6 := Lib.hid (E18.out.box 8 rfl)
  have bx7 := Lib.hid (E18.out.box 6 rfl)
  have bx8 := Lib.hid (E18.out.box 2 rfl)
  refine' wp_region_phase (by kernel_rfl) [0, 1, 2, 3, 4, 5, 6, 7, 8, 9, 10, 11, 12, 13, 14, 15, 16, 17, 18, 19, 20, 21, 22, 23, 24, 25, 26, 27, 28, 29, 30, 31, 32, 33, 34, 35, 36, 37, 38, 39, 40, 41, 42, 43, 44] (by kernel_rfl) #[true, true, true, true, true, true, true, true, true, true, true, true, true, true, true, true, true, true, true, true, true, true, true, true, true, true, true, true, true, true, true, true, true, true, true, true, true, true, true, true, true, true, true, true, true, false] (by kernel_rfl) 1 (by kernel_rfl) [PEq (.func (.func 39) #[] #[.pointer (some ⟨w.heap.size + 1 + 1, 0, none⟩), .pointer (some ⟨w6.heap.size, 0, none⟩)]), PEq (.agg #[.slice ao (len N) ca]), PEq (.agg #[.slice sua (len s1) suk]), PNum (r4), PEq (.func (.func 40) #[] #[.pointer (some ⟨w.heap.size + 1 + 1, 0, none⟩), .pointer (some ⟨w6.heap.size, 0, none⟩)]), PEq (.agg #[.slice xxa (len r1) xxk]), PEq (.agg #[.slice yya (len r2) yyk]), PNum (r4), PEq (.bool true), PEq (.bool true), PEq (.func (.func 39) #[] #[.pointer (some ⟨w.heap.size + 1 + 1, 0, none⟩), .pointer (some ⟨w6.heap.size, 0, none⟩)]), PEq (.agg #[.slice xxa (len r1) xxk]), PEq (.agg #[.slice eo (len F) ce]), PNum (r5), PEq (.func (.func 39) #[] #[.pointer (some ⟨w.heap.size + 1 + 1, 0, none⟩), .pointer (some ⟨w6.heap.size, 0, none⟩)]), PEq (.agg #[.slice ao (len N) ca]), PEq (.agg #[.slice pra (len p1) prk]), PNum (r5), PEq (.bool true), PEq (.bool true), PEq (.bool true), PEq (.func (.func 39) #[] #[.pointer (some ⟨w.heap.size + 1 + 1, 0, none⟩), .pointer (some ⟨w6.heap.size, 0, none⟩)]), PEq (.func (.func 40) #[] #[.pointer (some ⟨w.heap.size + 1 + 1, 0, none⟩), .pointer (some ⟨w6.heap.size, 0, none⟩)]), PEq (.agg #[.slice ao (len N) ca]), PEq (.agg #[.slice bo (len M) cb]), PNum (r6), PEq (.agg #[.slice dq (len E) cd]), PNum (r7), PEq (.func (.func 40) #[] #[.pointer (some ⟨w.heap.size + 1 + 1, 0, none⟩), .pointer (some ⟨w6.heap.size, 0, none⟩)]), PEq (.agg #[.slice xxa (len r1) xxk]), PEq (.agg #[.slice zza (len r3) zzk]), PNum (r7), PEq (.bool true), PEq (.bool true), PEq (.bool true), PEq (.func (.func 39) #[] #[.pointer (some ⟨w.heap.size + 1 + 1, 0, none⟩), .pointer (some ⟨w6.heap.size, 0, none⟩)]), PEq (.agg #[.slice ao (len N) ca]), PNum (1), PNum (N), PEq (.agg #[.slice ao (len N) ca]), PEq (.bool true), PEq (.bool true), PEq (.bool true), PEq (.bool true), PEq (.bool true), Fact.none] (List.forall_mem_cons.2 ⟨PEq.st _, List.forall_mem_cons.2 ⟨PEq.st _, List.forall_mem_cons.2 ⟨PEq.st _, List.forall_mem_cons.2 ⟨PNum.st _, List.forall_mem_cons.2 ⟨PEq.st _, List.forall_mem_cons.2 ⟨PEq.st _, List.forall_mem_cons.2 ⟨PEq.st _, List.forall_mem_cons.2 ⟨PNum.st _, List.forall_mem_cons.2 ⟨PEq.st _, List.forall_mem_cons.2 ⟨PEq.st _, List.forall_mem_cons.2 ⟨PEq.st _, List.forall_mem_cons.2 ⟨PEq.st _, List.forall_mem_cons.2 ⟨PEq.st _, List.forall_mem_cons.2 ⟨PNum.st _, List.forall_mem_cons.2 ⟨PEq.st _, List.forall_mem_cons.2 ⟨PEq.st _, List.forall_mem_cons.2 ⟨PEq.st _, List.forall_mem_cons.2 ⟨PNum.st _, List.forall_mem_cons.2 ⟨PEq.st _, List.forall_mem_cons.2 ⟨PEq.st _, List.forall_mem_cons.2 ⟨PEq.st _, List.forall_mem_cons.2 ⟨PEq.st _, List.forall_mem_cons.2 ⟨PEq.st _, List.forall_mem_cons.2 ⟨PEq.st _, List.forall_mem_cons.2 ⟨PEq.st _, List.forall_mem_cons.2 ⟨PNum.st _, List.forall_mem_cons.2 ⟨PEq.st _, List.forall_mem_cons.2 ⟨PNum.st _, List.forall_mem_cons.2 ⟨PEq.st _, List.forall_mem_cons.2 ⟨PEq.st _, List.forall_mem_cons.2 ⟨PEq.st _, List.forall_mem_cons.2 ⟨PNum.st _, List.forall_mem_cons.2 ⟨PEq.st _, List.forall_mem_cons.2 ⟨PEq.st _, List.forall_mem_cons.2 ⟨PEq.st _, List.forall_mem_cons.2 ⟨PEq.st _, List.forall_mem_cons.2 ⟨PEq.st _, List.forall_mem_cons.2 ⟨PNum.st _, List.forall_mem_cons.2 ⟨PNum.st _, List.forall_mem_cons.2 ⟨PEq.st _, List.forall_mem_cons.2 ⟨PEq.st _, List.forall_mem_cons.2 ⟨PEq.st _, List.forall_mem_cons.2 ⟨PEq.st _, List.forall_mem_cons.2 ⟨PEq.st _, List.forall_mem_cons.2 ⟨PEq.st _, List.forall_mem_cons.2 ⟨Fact.none_st, List.forall_mem_nil _⟩⟩⟩⟩⟩⟩⟩⟩⟩⟩⟩⟩⟩⟩⟩⟩⟩⟩⟩⟩⟩⟩⟩⟩⟩⟩⟩⟩⟩⟩⟩⟩⟩⟩⟩⟩⟩⟩⟩⟩⟩⟩⟩⟩⟩⟩) _ ?hFr3 ?stepr3 ?doner3
  case hFr3 => intro x; simp only [frameL, Act.put, List.setIfInBounds_toArray, List.set_cons_zero, List.set_cons_succ, Nat.zero_add, Nat.reduceAdd]; exact rfl
  case stepr3 =>
    refine List.forall_mem_cons.2 ⟨?_, ?_⟩
    · intro xv bv ev WW hB hdp
      refine op_of rfl ?_
      clear hdp
      intro KK hKK
      go_simp
      exact act_eq (hKK.out _ _ (Below.refl _ _) rfl) (by first | rfl | simp [upd])
    refine List.forall_mem_cons.2 ⟨?_, ?_⟩
    · intro xv bv ev WW hB hdp
      refine op_of rfl ?_
      clear hdp
      intro KK hKK
      obtain ⟨z, -, -, -, -⟩ := bx0.out.below hB
      go_simp
      exact act_eq (hKK.out (.agg #[.slice ao (len N) ca]) _ (Below.refl _ _) rfl) (by first | rfl | simp [upd])
    refine List.forall_mem_cons.2 ⟨?_, ?_⟩
    · intro xv bv ev WW hB hdp
      refine op_of rfl ?_
      clear hdp
      intro KK hKK
      obtain ⟨z, -, -, -, -⟩ := bx1.out.below hB
      go_simp
      exact act_eq (hKK.out (.agg #[.slice sua (len s1) suk]) _ (Below.refl _ _) rfl) (by first | rfl | simp [upd])
    refine List.forall_mem_cons.2 ⟨?_, ?_⟩
    · intro xv bv ev WW hB hdp
      refine op_of rfl ?_
      have ed0 : xv 0 = .func (.func 39) #[] #[.pointer (some ⟨w.heap.size + 1 + 1, 0, none⟩), .pointer (some ⟨w6.heap.size, 0, none⟩)] := hdp 0 (by kernel_rfl)
      have ed1 : xv 1 = .agg #[.slice ao (len N) ca] := hdp 1 (by kernel_rfl)
      have ed2 : xv 2 = .agg #[.slice sua (len s1) suk] := hdp 2 (by kernel_rfl)
      clear hdp
      intro KK hKK
      go_simp
      refine (pow_clk ((E18.out.below hB).box 7 rfl) (RW.out.below hB) ((E18.out.below hB).nt 7 rfl) hk.out l4.out hn.out es.out e4.out ((E18.out.below hB).nt 9 rfl) ((E18.out.below hB).nt 1 rfl)).mono ?_
      rintro e WW' ⟨⟨xaa, xak, rfl, hxa⟩, hb⟩
      (try dsimp only)
      (try simp only [Act.put, List.setIfInBounds_toArray, List.set_cons_zero, List.set_cons_succ])
      exact act_eq (hKK.out _ _ hb ⟨_, _, rfl, hxa⟩) (by first | rfl | simp [upd, ed0, ed1, ed2])
    refine List.forall_mem_cons.2 ⟨?_, ?_⟩
    · intro xv bv ev WW hB hdp
      refine op_of rfl ?_
      clear hdp
      intro KK hKK
      go_simp
      exact act_eq (hKK.out _ _ (Below.refl _ _) rfl) (by first | rfl | simp [upd])
    refine List.forall_mem_cons.2 ⟨?_, ?_⟩
    · intro xv bv ev WW hB hdp
      refine op_of rfl ?_
      clear hdp
      intro KK hKK
      obtain ⟨z, -, -, -, -⟩ := bx2.out.below hB
      go_simp
      exact act_eq (hKK.out (.agg #[.slice xxa (len r1) xxk]) _ (Below.refl _ _) rfl) (by first | rfl | simp [upd])
    refine List.forall_mem_cons.2 ⟨?_, ?_⟩
    · intro xv bv ev WW hB hdp
      refine op_of rfl ?_
      clear hdp
      intro KK hKK
      obtain ⟨z, -, -, -, -⟩ := bx3.out.below hB
      go_simp
      exact act_eq (hKK.out (.agg #[.slice yya (len r2) yyk]) _ (Below.refl _ _) rfl) (by first | rfl | simp [upd])
    refine List.forall_mem_cons.2 ⟨?_, ?_⟩
    · intro xv bv ev WW hB hdp
      refine op_of rfl ?_
      have ed4 : xv 4 = .func (.func 40) #[] #[.pointer (some ⟨w.heap.size + 1 + 1, 0, none⟩), .pointer (some ⟨w6.heap.size, 0, none⟩)] := hdp 4 (by kernel_rfl)
      have ed5 : xv 5 = .agg #[.slice xxa (len r1) xxk] := hdp 5 (by kernel_rfl)
      have ed6 : xv 6 = .agg #[.slice yya (len r2) yyk] := hdp 6 (by kernel_rfl)
      clear hdp
      intro KK hKK
      go_simp
      refine (mul_clk ((E18.out.below hB).box 7 rfl) (RW.out.below hB) ((E18.out.below hB).nt 7 rfl) hk.out l4.out l1.out l2.out e4b.out ((E18.out.below hB).nt 4 rfl) ((E18.out.below hB).nt 3 rfl)).mono ?_
      rintro e WW' ⟨⟨xba, xbk, rfl, hxb⟩, hb⟩
      (try dsimp only)
      (try simp only [Act.put, List.setIfInBounds_toArray, List.set_cons_zero, List.set_cons_succ])
      exact act_eq (hKK.out _ _ hb ⟨_, _, rfl, hxb⟩) (by first | rfl | simp [upd, ed4, ed5, ed6])
    refine List.forall_mem_cons.2 ⟨?_, ?_⟩
    · intro xv bv ev WW hB hdp
      refine op_of rfl ?_
      obtain ⟨xaa, xak, ed3, hxa⟩ := (show (PNum (r4)) (xv 3) (bv 3) (ev 3) WW from hdp 3 (by kernel_rfl))
      obtain ⟨xba, xbk, ed7, hxb⟩ := (show (PNum (r4)) (xv 7) (bv 7) (ev 7) WW from hdp 7 (by kernel_rfl))
      clear hdp
      intro KK hKK
      go_simp
      refine (same_c (t := true) (by simp) hxa.out hxb.out).mono ?_
      rintro e WW' ⟨rfl, hb⟩
      (try dsimp only)
      (try simp only [Act.put, List.setIfInBounds_toArray, List.set_cons_zero, List.set_cons_succ])
      exact act_eq (hKK.out _ _ hb rfl) (by first | rfl | simp [upd, ed3, ed7])
    refine List.forall_mem_cons.2 ⟨?_, ?_⟩
    · intro xv bv ev WW hB hdp
      refine op_of rfl ?_
      have ed8 : xv 8 = .bool true := hdp 8 (by kernel_rfl)
      clear hdp
      intro KK hKK
      go_simp
      exact act_eq (hKK.out _ _ (Below.refl _ _) rfl) (by first | rfl | simp [upd, ed8])
    refine List.forall_mem_cons.2 ⟨?_, ?_⟩
    · intro xv bv ev WW hB hdp
      refine op_of rfl ?_
      have ed9 : xv 9 = .bool true := hdp 9 (by kernel_rfl)
      clear hdp
      intro KK hKK
      refine op_guard (d := 86) rfl rfl (by first | exact congrArg some ed9 | simp [ed9]) ?_
      go_simp
      exact act_eq (hKK.out _ _ (Below.refl _ _) rfl) (by first | rfl | simp [upd, ed9])
    refine List.forall_mem_cons.2 ⟨?_, ?_⟩
    · intro xv bv ev WW hB hdp
      refine op_of rfl ?_
      have ed9 : xv 9 = .bool true := hdp 9 (by kernel_rfl)
      clear hdp
      intro KK hKK
      refine op_guard (d := 86) rfl rfl (by first | exact congrArg some ed9 | simp [ed9]) ?_
      obtain ⟨z, -, -, -, -⟩ := bx2.out.below hB
      go_simp
      exact act_eq (hKK.out (.agg #[.slice xxa (len r1) xxk]) _ (Below.refl _ _) rfl) (by first | rfl | simp [upd, ed9])
    refine List.forall_mem_cons.2 ⟨?_, ?_⟩
    · intro xv bv ev WW hB hdp
      refine op_of rfl ?_
      have ed9 : xv 9 = .bool true := hdp 9 (by kernel_rfl)
      clear hdp
      intro KK hKK
      refine op_guard (d := 86) rfl rfl (by first | exact congrArg some ed9 | simp [ed9]) ?_
      obtain ⟨z, -, -, -, -⟩ := bx4.out.below hB
      go_simp
      exact act_eq (hKK.out (.agg #[.slice eo (len F) ce]) _ (Below.refl _ _) rfl) (by first | rfl | simp [upd, ed9])
    refine List.forall_mem_cons.2 ⟨?_, ?_⟩
    · intro xv bv ev WW hB hdp
      refine op_of rfl ?_
      have ed10 : xv 10 = .func (.func 39) #[] #[.pointer (some ⟨w.heap.size + 1 + 1, 0, none⟩), .pointer (some ⟨w6.heap.size, 0, none⟩)] := hdp 10 (by kernel_rfl)
      have ed11 : xv 11 = .agg #[.slice xxa (len r1) xxk] := hdp 11 (by kernel_rfl)
      have ed12 : xv 12 = .agg #[.slice eo (len F) ce] := hdp 12 (by kernel_rfl)
      have ed9 : xv 9 = .bool true := hdp 9 (by kernel_rfl)
      clear hdp
      intro KK hKK
      refine op_guard (d := 86) rfl rfl (by first | exact congrArg some ed9 | simp [ed9]) ?_
      go_simp
      refine (pow_clk ((E18.out.below hB).box 7 rfl) (RW.out.below hB) ((E18.out.below hB).nt 7 rfl) hk.out l5.out l1.out ef.out e5.out ((E18.out.below hB).nt 4 rfl) ((E18.out.below hB).nt 5 rfl)).mono ?_
      rintro e WW' ⟨⟨xca, xck, rfl, hxc⟩, hb⟩
      (try dsimp only)
      (try simp only [Act.put, List.setIfInBounds_toArray, List.set_cons_zero, List.set_cons_succ])
      exact act_eq (hKK.out _ _ hb ⟨_, _, rfl, hxc⟩) (by first | rfl | simp [upd, ed10, ed11, ed12, ed9])
    refine List.forall_mem_cons.2 ⟨?_, ?_⟩
    · intro xv bv ev WW hB hdp
      refine op_of rfl ?_
      have ed9 : xv 9 = .bool true := hdp 9 (by kernel_rfl)
      clear hdp
      intro KK hKK
      refine op_guard (d := 86) rfl rfl (by first | exact congrArg some ed9 | simp [ed9]) ?_
      go_simp
      exact act_eq (hKK.out _ _ (Below.refl _ _) rfl) (by first | rfl | simp [upd, ed9])
    refine List.forall_mem_cons.2 ⟨?_, ?_⟩
    · intro xv bv ev WW hB hdp
      refine op_of rfl ?_
      have ed9 : xv 9 = .bool true := hdp 9 (by kernel_rfl)
      clear hdp
      intro KK hKK
      refine op_guard (d := 86) rfl rfl (by first | exact congrArg some ed9 | simp [ed9]) ?_
      obtain ⟨z, -, -, -, -⟩ := bx0.out.below hB
      go_simp
      exact act_eq (hKK.out (.agg #[.slice ao (len N) ca]) _ (Below.refl _ _) rfl) (by first | rfl | simp [upd, ed9])
    refine List.forall_mem_cons.2 ⟨?_, ?_⟩
    · intro xv bv ev WW hB hdp
      refine op_of rfl ?_
      have ed9 : xv 9 = .bool true := hdp 9 (by kernel_rfl)
      clear hdp
      intro KK hKK
      refine op_guard (d := 86) rfl rfl (by first | exact congrArg some ed9 | simp [ed9]) ?_
      obtain ⟨z, -, -, -, -⟩ := bx5.out.below hB
      go_simp
      exact act_eq (hKK.out (.agg #[.slice pra (len p1) prk]) _ (Below.refl _ _) rfl) (by first | rfl | simp [upd, ed9])
    refine List.forall_mem_cons.2 ⟨?_, ?_⟩
    · intro xv bv ev WW hB hdp
      refine op_of rfl ?_
      have ed14 : xv 14 = .func (.func 39) #[] #[.pointer (some ⟨w.heap.size + 1 + 1, 0, none⟩), .pointer (some ⟨w6.heap.size, 0, none⟩)] := hdp 14 (by kernel_rfl)
      have ed15 : xv 15 = .agg #[.slice ao (len N) ca] := hdp 15 (by kernel_rfl)
      have ed16 : xv 16 = .agg #[.slice pra (len p1) prk] := hdp 16 (by kernel_rfl)
      have ed9 : xv 9 = .bool true := hdp 9 (by kernel_rfl)
      clear hdp
      intro KK hKK
      refine op_guard (d := 86) rfl rfl (by first | exact congrArg some ed9 | simp [ed9]) ?_
      go_simp
      refine (pow_clk ((E18.out.below hB).box 7 rfl) (RW.out.below hB) ((E18.out.below hB).nt 7 rfl) hk.out l5.out hn.out ep.out e5b.out ((E18.out.below hB).nt 9 rfl) ((E18.out.below hB).nt 0 rfl)).mono ?_
      rintro e WW' ⟨⟨xda, xdk, rfl, hxd⟩, hb⟩
      (try dsimp only)
      (try simp only [Act.put, List.setIfInBounds_toArray, List.set_cons_zero, List.set_cons_succ])
      exact act_eq (hKK.out _ _ hb ⟨_, _, rfl, hxd⟩) (by first | rfl | simp [upd, ed14, ed15, ed16, ed9])
    refine List.forall_mem_cons.2 ⟨?_, ?_⟩
    · intro xv bv ev WW hB hdp
      refine op_of rfl ?_
      obtain ⟨xca, xck, ed13, hxc⟩ := (show (PNum (r5)) (xv 13) (bv 13) (ev 13) WW from hdp 13 (by kernel_rfl))
      obtain ⟨xda, xdk, ed17, hxd⟩ := (show (PNum (r5)) (xv 17) (bv 17) (ev 17) WW from hdp 17 (by kernel_rfl))
      have ed9 : xv 9 = .bool true := hdp 9 (by kernel_rfl)
      clear hdp
      intro KK hKK
      refine op_guard (d := 86) rfl rfl (by first | exact congrArg some ed9 | simp [ed9]) ?_
      go_simp
      refine (same_c (t := true) (by simp) hxc.out hxd.out).mono ?_
      rintro e WW' ⟨rfl, hb⟩
      (try dsimp only)
      (try simp only [Act.put, List.setIfInBounds_toArray, List.set_cons_zero, List.set_cons_succ])
      exact act_eq (hKK.out _ _ hb rfl) (by first | rfl | simp [upd, ed13, ed17, ed9])
    refine List.forall_mem_cons.2 ⟨?_, ?_⟩
    · intro xv bv ev WW hB hdp
      refine op_of rfl ?_
      have ed9 : xv 9 = .bool true := hdp 9 (by kernel_rfl)
      have ed18 : xv 18 = .bool true := hdp 18 (by kernel_rfl)
      clear hdp
      intro KK hKK
      go_simp
      exact act_eq (hKK.out _ _ (Below.refl _ _) rfl) (by first | rfl | simp [upd, ed9, ed18])
    refine List.forall_mem_cons.2 ⟨?_, ?_⟩
    · intro xv bv ev WW hB hdp
      refine op_of rfl ?_
      have ed19 : xv 19 = .bool true := hdp 19 (by kernel_rfl)
      clear hdp
      intro KK hKK
      go_simp
      exact act_eq (hKK.out _ _ (Below.refl _ _) rfl) (by first | rfl | simp [upd, ed19])
    refine List.forall_mem_cons.2 ⟨?_, ?_⟩
    · intro xv bv ev WW hB hdp
      refine op_of rfl ?_
      have ed20 : xv 20 = .bool true := hdp 20 (by kernel_rfl)
      clear hdp
      intro KK hKK
      refine op_guard (d := 97) rfl rfl (by first | exact congrArg some ed20 | simp [ed20]) ?_
      go_simp
      exact act_eq (hKK.out _ _ (Below.refl _ _) rfl) (by first | rfl | simp [upd, ed20])
    refine List.forall_mem_cons.2 ⟨?_, ?_⟩
    · intro xv bv ev WW hB hdp
      refine op_of rfl ?_
      have ed20 : xv 20 = .bool true := hdp 20 (by kernel_rfl)
      clear hdp
      intro KK hKK
      refine op_guard (d := 97) rfl rfl (by first | exact congrArg some ed20 | simp [ed20]) ?_
      go_simp
      exact act_eq (hKK.out _ _ (Below.refl _ _) rfl) (by first | rfl | simp [upd, ed20])
    refine List.forall_mem_cons.2 ⟨?_, ?_⟩
    · intro xv bv ev WW hB hdp
      refine op_of rfl ?_
      have ed20 : xv 20 = .bool true := hdp 20 (by kernel_rfl)
      clear hdp
      intro KK hKK
      refine op_guard (d := 97) rfl rfl (by first | exact congrArg some ed20 | simp [ed20]) ?_
      obtain ⟨z, -, -, -, -⟩ := bx0.out.below hB
      go_simp
      exact act_eq (hKK.out (.agg #[.slice ao (len N) ca]) _ (Below.refl _ _) rfl) (by first | rfl | simp [upd, ed20])
    refine List.forall_mem_cons.2 ⟨?_, ?_⟩
    · intro xv bv ev WW hB hdp
      refine op_of rfl ?_
      have ed20 : xv 20 = .bool true := hdp 20 (by kernel_rfl)
      clear hdp
      intro KK hKK
      refine op_guard (d := 97) rfl rfl (by first | exact congrArg some ed20 | simp [ed20]) ?_
      obtain ⟨z, -, -, -, -⟩ := bx6.out.below hB
      go_simp
      exact act_eq (hKK.out (.agg #[.slice bo (len M) cb]) _ (Below.refl _ _) rfl) (by first | rfl | simp [upd, ed20])
    refine List.forall_mem_cons.2 ⟨?_, ?_⟩
    · intro xv bv ev WW hB hdp
      refine op_of rfl ?_
      have ed22 : xv 22 = .func (.func 40) #[] #[.pointer (some ⟨w.heap.size + 1 + 1, 0, none⟩), .pointer (some ⟨w6.heap.size, 0, none⟩)] := hdp 22 (by kernel_rfl)
      have ed23 : xv 23 = .agg #[.slice ao (len N) ca] := hdp 23 (by kernel_rfl)
      have ed24 : xv 24 = .agg #[.slice bo (len M) cb] := hdp 24 (by kernel_rfl)
      have ed20 : xv 20 = .bool true := hdp 20 (by kernel_rfl)
      clear hdp
      intro KK hKK
      refine op_guard (d := 97) rfl rfl (by first | exact congrArg some ed20 | simp [ed20]) ?_
      go_simp
      refine (mul_clk ((E18.out.below hB).box 7 rfl) (RW.out.below hB) ((E18.out.below hB).nt 7 rfl) hk.out l6.out hn.out hm9.out e6.out ((E18.out.below hB).nt 9 rfl) ((E18.out.below hB).nt 8 rfl)).mono ?_
      rintro e WW' ⟨⟨xea, xek, rfl, hxe⟩, hb⟩
      (try dsimp only)
      (try simp only [Act.put, List.setIfInBounds_toArray, List.set_cons_zero, List.set_cons_succ])
      exact act_eq (hKK.out _ _ hb ⟨_, _, rfl, hxe⟩) (by first | rfl | simp [upd, ed22, ed23, ed24, ed20])
    refine List.forall_mem_cons.2 ⟨?_, ?_⟩
    · intro xv bv ev WW hB hdp
      refine op_of rfl ?_
      have ed20 : xv 20 = .bool true := hdp 20 (by kernel_rfl)
      clear hdp
      intro KK hKK
      refine op_guard (d := 97) rfl rfl (by first | exact congrArg some ed20 | simp [ed20]) ?_
      obtain ⟨z, -, -, -, -⟩ := bx7.out.below hB
      go_simp
      exact act_eq (hKK.out (.agg #[.slice dq (len E) cd]) _ (Below.refl _ _) rfl) (by first | rfl | simp [upd, ed20])
    refine List.forall_mem_cons.2 ⟨?_, ?_⟩
    · intro xv bv ev WW hB hdp
      refine op_of rfl ?_
      have ed21 : xv 21 = .func (.func 39) #[] #[.pointer (some ⟨w.heap.size + 1 + 1, 0, none⟩), .pointer (some ⟨w6.heap.size, 0, none⟩)] := hdp 21 (by kernel_rfl)
      obtain ⟨xea, xek, ed25, hxe⟩ := (show (PNum (r6)) (xv 25) (bv 25) (ev 25) WW from hdp 25 (by kernel_rfl))
      have ed26 : xv 26 = .agg #[.slice dq (len E) cd] := hdp 26 (by kernel_rfl)
      have ed20 : xv 20 = .bool true := hdp 20 (by kernel_rfl)
      clear hdp
      intro KK hKK
      refine op_guard (d := 97) rfl rfl (by first | exact congrArg some ed20 | simp [ed20]) ?_
      go_simp
      refine (pow_clk ((E18.out.below hB).box 7 rfl) (RW.out.below hB) ((E18.out.below hB).nt 7 rfl) hk.out l7.out l6.out ee.out e7.out hxe.out ((E18.out.below hB).nt 6 rfl)).mono ?_
      rintro e WW' ⟨⟨xfa, xfk, rfl, hxf⟩, hb⟩
      (try dsimp only)
      (try simp only [Act.put, List.setIfInBounds_toArray, List.set_cons_zero, List.set_cons_succ])
      exact act_eq (hKK.out _ _ hb ⟨_, _, rfl, hxf⟩) (by first | rfl | simp [upd, ed21, ed25, ed26, ed20])
    refine List.forall_mem_cons.2 ⟨?_, ?_⟩
    · intro xv bv ev WW hB hdp
      refine op_of rfl ?_
      have ed20 : xv 20 = .bool true := hdp 20 (by kernel_rfl)
      clear hdp
      intro KK hKK
      refine op_guard (d := 97) rfl rfl (by first | exact congrArg some ed20 | simp [ed20]) ?_
      go_simp
      exact act_eq (hKK.out _ _ (Below.refl _ _) rfl) (by first | rfl | simp [upd, ed20])
    refine List.forall_mem_cons.2 ⟨?_, ?_⟩
    · intro xv bv ev WW hB hdp
      refine op_of rfl ?_
      have ed20 : xv 20 = .bool true := hdp 20 (by kernel_rfl)
      clear hdp
      intro KK hKK
      refine op_guard (d := 97) rfl rfl (by first | exact congrArg some ed20 | simp [ed20]) ?_
      obtain ⟨z, -, -, -, -⟩ := bx2.out.below hB
      go_simp
      exact act_eq (hKK.out (.agg #[.slice xxa (len r1) xxk]) _ (Below.refl _ _) rfl) (by first | rfl | simp [upd, ed20])
    refine List.forall_mem_cons.2 ⟨?_, ?_⟩
    · intro xv bv ev WW hB hdp
      refine op_of rfl ?_
      have ed20 : xv 20 = .bool true := hdp 20 (by kernel_rfl)
      clear hdp
      intro KK hKK
      refine op_guard (d := 97) rfl rfl (by first | exact congrArg some ed20 | simp [ed20]) ?_
      obtain ⟨z, -, -, -, -⟩ := bx8.out.below hB
      go_simp
      exact act_eq (hKK.out (.agg #[.slice zza (len r3) zzk]) _ (Below.refl _ _) rfl) (by first | rfl | simp [upd, ed20])
    refine List.forall_mem_cons.2 ⟨?_, ?_⟩
    · intro xv bv ev WW hB hdp
      refine op_of rfl ?_
      have ed28 : xv 28 = .func (.func 40) #[] #[.pointer (some ⟨w.heap.size + 1 + 1, 0, none⟩), .pointer (some ⟨w6.heap.size, 0, none⟩)] := hdp 28 (by kernel_rfl)
      have ed29 : xv 29 = .agg #[.slice xxa (len r1) xxk] := hdp 29 (by kernel_rfl)
      have ed30 : xv 30 = .agg #[.slice zza (len r3) zzk] := hdp 30 (by kernel_rfl)
      have ed20 : xv 20 = .bool true := hdp 20 (by kernel_rfl)
      clear hdp
      intro KK hKK
      refine op_guard (d := 97) rfl rfl (by first | exact congrArg some ed20 | simp [ed20]) ?_
      go_simp
      refine (mul_clk ((E18.out.below hB).box 7 rfl) (RW.out.below hB) ((E18.out.below hB).nt 7 rfl) hk.out l7.out l1.out l3.out e7b.out ((E18.out.below hB).nt 4 rfl) ((E18.out.below hB).nt 2 rfl)).mono ?_
      rintro e WW' ⟨⟨xga, xgk, rfl, hxg⟩, hb⟩
      (try dsimp only)
      (try simp only [Act.put, List.setIfInBounds_toArray, List.set_cons_zero, List.set_cons_succ])
      exact act_eq (hKK.out _ _ hb ⟨_, _, rfl, hxg⟩) (by first | rfl | simp [upd, ed28, ed29, ed30, ed20])
    refine List.forall_mem_cons.2 ⟨?_, ?_⟩
    · intro xv bv ev WW hB hdp
      refine op_of rfl ?_
      obtain ⟨xfa, xfk, ed27, hxf⟩ := (show (PNum (r7)) (xv 27) (bv 27) (ev 27) WW from hdp 27 (by kernel_rfl))
      obtain ⟨xga, xgk, ed31, hxg⟩ := (show (PNum (r7)) (xv 31) (bv 31) (ev 31) WW from hdp 31 (by kernel_rfl))
      have ed20 : xv 20 = .bool true := hdp 20 (by kernel_rfl)
      clear hdp
      intro KK hKK
      refine op_guard (d := 97) rfl rfl (by first | exact congrArg some ed20 | simp [ed20]) ?_
      go_simp
      refine (same_c (t := true) (by simp) hxf.out hxg.out).mono ?_
      rintro e WW' ⟨rfl, hb⟩
      (try dsimp only)
      (try simp only [Act.put, List.setIfInBounds_toArray, List.set_cons_zero, List.set_cons_succ])
      exact act_eq (hKK.out _ _ hb rfl) (by first | rfl | simp [upd, ed27, ed31, ed20])
    refine List.forall_mem_cons.2 ⟨?_, ?_⟩
    · intro xv bv ev WW hB hdp
      refine op_of rfl ?_
      have ed20 : xv 20 = .bool true := hdp 20 (by kernel_rfl)
      have ed32 : xv 32 = .bool true := hdp 32 (by kernel_rfl)
      clear hdp
      intro KK hKK
      go_simp
      exact act_eq (hKK.out _ _ (Below.refl _ _) rfl) (by first | rfl | simp [upd, ed20, ed32])
    refine List.forall_mem_cons.2 ⟨?_, ?_⟩
    · intro xv bv ev WW hB hdp
      refine op_of rfl ?_
      have ed33 : xv 33 = .bool true := hdp 33 (by kernel_rfl)
      clear hdp
      intro KK hKK
      go_simp
      exact act_eq (hKK.out _ _ (Below.refl _ _) rfl) (by first | rfl | simp [upd, ed33])
    refine List.forall_mem_cons.2 ⟨?_, ?_⟩
    · intro xv bv ev WW hB hdp
      refine op_of rfl ?_
      have ed34 : xv 34 = .bool true := hdp 34 (by kernel_rfl)
      clear hdp
      intro KK hKK
      refine op_guard (d := 111) rfl rfl (by first | exact congrArg some ed34 | simp [ed34]) ?_
      go_simp
      exact act_eq (hKK.out _ _ (Below.refl _ _) rfl) (by first | rfl | simp [upd, ed34])
    refine List.forall_mem_cons.2 ⟨?_, ?_⟩
    · intro xv bv ev WW hB hdp
      refine op_of rfl ?_
      have ed34 : xv 34 = .bool true := hdp 34 (by kernel_rfl)
      clear hdp
      intro KK hKK
      refine op_guard (d := 111) rfl rfl (by first | exact congrArg some ed34 | simp [ed34]) ?_
      obtain ⟨z, -, -, -, -⟩ := bx0.out.below hB
      go_simp
      exact act_eq (hKK.out (.agg #[.slice ao (len N) ca]) _ (Below.refl _ _) rfl) (by first | rfl | simp [upd, ed34])
    refine List.forall_mem_cons.2 ⟨?_, ?_⟩
    · intro xv bv ev WW hB hdp
      refine op_of rfl ?_
      have ed34 : xv 34 = .bool true := hdp 34 (by kernel_rfl)
      clear hdp
      intro KK hKK
      refine op_guard (d := 111) rfl rfl (by first | exact congrArg some ed34 | simp [ed34]) ?_
      go_simp
      refine (rOf_c 1 _ (by decide)).mono ?_
      rintro e WW' ⟨⟨xha, xhk, rfl, hxh⟩, hb⟩
      (try dsimp only)
      (try simp only [Act.put, List.setIfInBounds_toArray, List.set_cons_zero, List.set_cons_succ])
      exact act_eq (hKK.out _ _ hb ⟨_, _, rfl, hxh⟩) (by first | rfl | simp [upd, ed34])
    refine List.forall_mem_cons.2 ⟨?_, ?_⟩
    · intro xv bv ev WW hB hdp
      refine op_of rfl ?_
      have ed35 : xv 35 = .func (.func 39) #[] #[.pointer (some ⟨w.heap.size + 1 + 1, 0, none⟩), .pointer (some ⟨w6.heap.size, 0, none⟩)] := hdp 35 (by kernel_rfl)
      have ed36 : xv 36 = .agg #[.slice ao (len N) ca] := hdp 36 (by kernel_rfl)
      obtain ⟨xha, xhk, ed37, hxh⟩ := (show (PNum (1)) (xv 37) (bv 37) (ev 37) WW from hdp 37 (by kernel_rfl))
      have ed34 : xv 34 = .bool true := hdp 34 (by kernel_rfl)
      clear hdp
      intro KK hKK
      refine op_guard (d := 111) rfl rfl (by first | exact congrArg some ed34 | simp [ed34]) ?_
      go_simp
      refine (pow_clk ((E18.out.below hB).box 7 rfl) (RW.out.below hB) ((E18.out.below hB).nt 7 rfl) hk.out hn.out hn.out ei.out e8.out ((E18.out.below hB).nt 9 rfl) hxh.out).mono ?_
      rintro e WW' ⟨⟨xia, xik, rfl, hxi⟩, hb⟩
      (try dsimp only)
      (try simp only [Act.put, List.setIfInBounds_toArray, List.set_cons_zero, List.set_cons_succ])
      exact act_eq (hKK.out _ _ hb ⟨_, _, rfl, hxi⟩) (by first | rfl | simp [upd, ed35, ed36, ed37, ed34])
    refine List.forall_mem_cons.2 ⟨?_, ?_⟩
    · intro xv bv ev WW hB hdp
      refine op_of rfl ?_
      have ed34 : xv 34 = .bool true := hdp 34 (by kernel_rfl)
      clear hdp
      intro KK hKK
      refine op_guard (d := 111) rfl rfl (by first | exact congrArg some ed34 | simp [ed34]) ?_
      obtain ⟨z, -, -, -, -⟩ := bx0.out.below hB
      go_simp
      exact act_eq (hKK.out (.agg #[.slice ao (len N) ca]) _ (Below.refl _ _) rfl) (by first | rfl | simp [upd, ed34])
    refine List.forall_mem_cons.2 ⟨?_, ?_⟩
    · intro xv bv ev WW hB hdp
      refine op_of rfl ?_
      obtain ⟨xia, xik, ed38, hxi⟩ := (show (PNum (N)) (xv 38) (bv 38) (ev 38) WW from hdp 38 (by kernel_rfl))
      have ed39 : xv 39 = .agg #[.slice ao (len N) ca] := hdp 39 (by kernel_rfl)
      have ed34 : xv 34 = .bool true := hdp 34 (by kernel_rfl)
      clear hdp
      intro KK hKK
      refine op_guard (d := 111) rfl rfl (by first | exact congrArg some ed34 | simp [ed34]) ?_
      go_simp
      refine (same_c (t := true) (by simp) hxi.out ((E18.out.below hB).nt 9 rfl)).mono ?_
      rintro e WW' ⟨rfl, hb⟩
      (try dsimp only)
      (try simp only [Act.put, List.setIfInBounds_toArray, List.set_cons_zero, List.set_cons_succ])
      exact act_eq (hKK.out _ _ hb rfl) (by first | rfl | simp [upd, ed38, ed39, ed34])
    refine List.forall_mem_cons.2 ⟨?_, ?_⟩
    · intro xv bv ev WW hB hdp
      refine op_of rfl ?_
      have ed34 : xv 34 = .bool true := hdp 34 (by kernel_rfl)
      have ed40 : xv 40 = .bool true := hdp 40 (by kernel_rfl)
      clear hdp
      intro KK hKK
      go_simp
      exact act_eq (hKK.out _ _ (Below.refl _ _) rfl) (by first | rfl | simp [upd, ed34, ed40])
    refine List.forall_mem_cons.2 ⟨?_, ?_⟩
    · intro xv bv ev WW hB hdp
      refine op_of rfl ?_
      have ed41 : xv 41 = .bool true := hdp 41 (by kernel_rfl)
      clear hdp
      intro KK hKK
      go_simp
      exact act_eq (hKK.out _ _ (Below.refl _ _) rfl) (by first | rfl | simp [upd, ed41])
    refine List.forall_mem_cons.2 ⟨?_, ?_⟩
    · intro xv bv ev WW hB hdp
      refine op_of rfl ?_
      have ed42 : xv 42 = .bool true := hdp 42 (by kernel_rfl)
      clear hdp
      intro KK hKK
      refine op_guard (d := 119) rfl rfl (by first | exact congrArg some ed42 | simp [ed42]) ?_
      obtain ⟨-, z, -⟩ := RW.out.below hB
      go_simp
      exact act_eq (hKK.out (.bool true) _ (Below.refl _ _) rfl) (by first | rfl | simp [upd, ed42])
    refine List.forall_mem_cons.2 ⟨?_, ?_⟩
    · intro xv bv ev WW hB hdp
      refine op_of rfl ?_
      have ed42 : xv 42 = .bool true := hdp 42 (by kernel_rfl)
      have ed43 : xv 43 = .bool true := hdp 43 (by kernel_rfl)
      clear hdp
      intro KK hKK
      go_simp
      exact act_eq (hKK.out _ _ (Below.refl _ _) rfl) (by first | rfl | simp [upd, ed42, ed43])
    exact List.forall_mem_nil _
  intro xv bv ev w12 hB hR hO
  have ed0 : xv 0 = .func (.func 39) #[] #[.pointer (some ⟨w.heap.size + 1 + 1, 0, none⟩), .pointer (some ⟨w6.heap.size, 0, none⟩)] := hR 0 (by kernel_rfl)
  have ed1 : xv 1 = .agg #[.slice ao (len N) ca] := hR 1 (by kernel_rfl)
  have ed2 : xv 2 = .agg #[.slice sua (len s1) suk] := hR 2 (by kernel_rfl)
  obtain ⟨xaa, xak, ed3, hxa⟩ := (show (PNum (r4)) (xv 3) (bv 3) (ev 3) w12 from hR 3 (by kernel_rfl))
  have ed4 : xv 4 = .func (.func 40) #[] #[.pointer (some ⟨w.heap.size + 1 + 1, 0, none⟩), .pointer (some ⟨w6.heap.size, 0, none⟩)] := hR 4 (by kernel_rfl)
  have ed5 : xv 5 = .agg #[.slice xxa (len r1) xxk] := hR 5 (by kernel_rfl)
  have ed6 : xv 6 = .agg #[.slice yya (len r2) yyk] := hR 6 (by kernel_rfl)
  obtain ⟨xba, xbk, ed7, hxb⟩ := (show (PNum (r4)) (xv 7) (bv 7) (ev 7) w12 from hR 7 (by kernel_rfl))
  have ed8 : xv 8 = .bool true := hR 8 (by kernel_rfl)
  have ed9 : xv 9 = .bool true := hR 9 (by kernel_rfl)
  have ed10 : xv 10 = .func (.func 39) #[] #[.pointer (some ⟨w.heap.size + 1 + 1, 0, none⟩), .pointer (some ⟨w6.heap.size, 0, none⟩)] := hR 10 (by kernel_rfl)
  have ed11 : xv 11 = .agg #[.slice xxa (len r1) xxk] := hR 11 (by kernel_rfl)
  have ed12 : xv 12 = .agg #[.slice eo (len F) ce] := hR 12 (by kernel_rfl)
  obtain ⟨xca, xck, ed13, hxc⟩ := (show (PNum (r5)) (xv 13) (bv 13) (ev 13) w12 from hR 13 (by kernel_rfl))
  have ed14 : xv 14 = .func (.func 39) #[] #[.pointer (some ⟨w.heap.size + 1 + 1, 0, none⟩), .pointer (some ⟨w6.heap.size, 0, none⟩)] := hR 14 (by kernel_rfl)
  have ed15 : xv 15 = .agg #[.slice ao (len N) ca] := hR 15 (by kernel_rfl)
  have ed16 : xv 16 = .agg #[.slice pra (len p1) prk] := hR 16 (by kernel_rfl)
  obtain ⟨xda, xdk, ed17, hxd⟩ := (show (PNum (r5)) (xv 17) (bv 17) (ev 17) w12 from hR 17 (by kernel_rfl))
  have ed18 : xv 18 = .bool true := hR 18 (by kernel_rfl)
  have ed19 : xv 19 = .bool true := hR 19 (by kernel_rfl)
  have ed20 : xv 20 = .bool true := hR 20 (by kernel_rfl)
  have ed21 : xv 21 = .func (.func 39) #[] #[.pointer (some ⟨w.heap.size + 1 + 1, 0, none⟩), .pointer (some ⟨w6.heap.size, 0, none⟩)] := hR 21 (by kernel_rfl)
  have ed22 : xv 22 = .func (.func 40) #[] #[.pointer (some ⟨w.heap.size + 1 + 1, 0, none⟩), .pointer (some ⟨w6.heap.size, 0, none⟩)] := hR 22 (by kernel_rfl)
  have ed23 : xv 23 = .agg #[.slice ao (len N) ca] := hR 23 (by kernel_rfl)
  have ed24 : xv 24 = .agg #[.slice bo (len M) cb] := hR 24 (by kernel_rfl)
  obtain ⟨xea, xek, ed25, hxe⟩ := (show (PNum (r6)) (xv 25) (bv 25) (ev 25) w12 from hR 25 (by kernel_rfl))
  have ed26 : xv 26 = .agg #[.slice dq (len E) cd] := hR 26 (by kernel_rfl)
  obtain ⟨xfa, xfk, ed27, hxf⟩ := (show (PNum (r7)) (xv 27) (bv 27) (ev 27) w12 from hR 27 (by kernel_rfl))
  have ed28 : xv 28 = .func (.func 40) #[] #[.pointer (some ⟨w.heap.size + 1 + 1, 0, none⟩), .pointer (some ⟨w6.heap.size, 0, none⟩)] := hR 28 (by kernel_rfl)
  have ed29 : xv 29 = .agg #[.slice xxa (len r1) xxk] := hR 29 (by kernel_rfl)
  have ed30 : xv 30 = .agg #[.slice zza (len r3) zzk] := hR 30 (by kernel_rfl)
  obtain ⟨xga, xgk, ed31, hxg⟩ := (show (PNum (r7)) (xv 31) (bv 31) (ev 31) w12 from hR 31 (by kernel_rfl))
  have ed32 : xv 32 = .bool true := hR 32 (by kernel_rfl)
  have ed33 : xv 33 = .bool true := hR 33 (by kernel_rfl)
  have ed34 : xv 34 = .bool true := hR 34 (by kernel_rfl)
  have ed35 : xv 35 = .func (.func 39) #[] #[.pointer (some ⟨w.heap.size + 1 + 1, 0, none⟩), .pointer (some ⟨w6.heap.size, 0, none⟩)] := hR 35 (by kernel_rfl)
  have ed36 : xv 36 = .agg #[.slice ao (len N) ca] := hR 36 (by kernel_rfl)
  obtain ⟨xha, xhk, ed37, hxh⟩ := (show (PNum (1)) (xv 37) (bv 37) (ev 37) w12 from hR 37 (by kernel_rfl))
  obtain ⟨xia, xik, ed38, hxi⟩ := (show (PNum (N)) (xv 38) (bv 38) (ev 38) w12 from hR 38 (by kernel_rfl))
  have ed39 : xv 39 = .agg #[.slice ao (len N) ca] := hR 39 (by kernel_rfl)
  have ed40 : xv 40 = .bool true := hR 40 (by kernel_rfl)
  have ed41 : xv 41 = .bool true := hR 41 (by kernel_rfl)
  have ed42 : xv 42 = .bool true := hR 42 (by kernel_rfl)
  have ed43 : xv 43 = .bool true := hR 43 (by kernel_rfl)
  have ed44 : xv 44 = .bool true := hR 44 (by kernel_rfl)
  simp only [ed0, ed1, ed2, ed3, ed4, ed5, ed6, ed7, ed8, ed9, ed10, ed11, ed12, ed13, ed14, ed15, ed16, ed17, ed18, ed19, ed20, ed21, ed22, ed23, ed24, ed25, ed26, ed27, ed28, ed29, ed30, ed31, ed32, ed33, ed34, ed35, ed36, ed37, ed38, ed39, ed40, ed41, ed42, ed43, ed44]
  have RW2 := Lib.hid (RW.out.below hB)
  clear RW
  have RW := RW2
  clear RW2
  have E19 : Hid (EnvB w [(gr2_7, .slice pra (len p1) prk), (gr2_6, .slice sua (len s1) suk), (gr1_14, .slice zza (len r3) zzk), (gr1_13, .slice yya (len r2) yyk), (gr1_12, .slice xxa (len r1) xxk), (w.heap.size + 1 + 1 + 1 + 1, .slice eo (len F) ce), (w.heap.size + 1 + 1 + 1, .slice dq (len E) cd), (w.heap.size + 1 + 1, .slice co (len Q) cc), (w.heap.size + 1, .slice bo (len M) cb), (w.heap.size, .slice ao (len N) ca)] [(.slice xia (len N) xik, digs N), (.slice xha (len 1) xhk, digs 1), (.slice xga (len r7) xgk, digs r7), (.slice xfa (len r7) xfk, digs r7), (.slice xea (len r6) xek, digs r6), (.slice xda (len r5) xdk, digs r5), (.slice xca (len r5) xck, digs r5), (.slice xba (len r4) xbk, digs r4), (.slice xaa (len r4) xak, digs r4), (.slice pra (len p1) prk, digs p1), (.slice sua (len s1) suk, digs s1), (.slice zza (len r3) zzk, digs r3), (.slice yya (len r2) yyk, digs r2), (.slice xxa (len r1) xxk, digs r1), (.slice eo (len F) ce, digs F), (.slice dq (len E) cd, digs E), (.slice co (len Q) cc, digs Q), (.slice bo (len M) cb, digs M), (.slice ao (len N) ca, digs N)] _) := Lib.hid (((((((((((E18.out.below hB).numN (hxa.out : Nt _ _ (r4))).numN (hxb.out : Nt _ _ (r4))).numN (hxc.out : Nt _ _ (r5))).numN (hxd.out : Nt _ _ (r5))).numN (hxe.out : Nt _ _ (r6))).numN (hxf.out : Nt _ _ (r7))).numN (hxg.out : Nt _ _ (r7))).numN (hxh.out : Nt _ _ (1))).numN (hxi.out : Nt _ _ (N))))
  clear E18 E15 E16 hB hR hO bx0 bx1 bx2 bx3 bx4 bx5 bx6 bx7 bx8 ed0 ed1 ed2 ed3 ed4 ed5 ed6 ed7 ed8 ed9 ed10 ed11 ed12 ed13 ed14 ed15 ed16 ed17 ed18 ed19 ed20 ed21 ed22 ed23 ed24 ed25 ed26 ed27 ed28 ed29 ed30 ed31 ed32 ed33 ed34 ed35 ed36 ed37 ed38 ed39 ed40 ed41 ed42 ed43 ed44 hxa hxb hxc hxd hxe hxf hxg hxh hxi
  refine wpAny_next (i := 45) (by kernel_rfl) rfl (fun KK hKK => ?_)
  go_simp
  refine hKK.out _ _ ?_
  clear hKK KK
  refine wpAny_done (by kernel_rfl) ?_ _
  have hfin := Lib.hid E19.out.1
  go_wp2
  go_ret
  exact ⟨rfl, hfin.out⟩
theorem NatmodPowers_walk (a b m e f : Value) (la lb lm le lf : List Nat) (w : World) (ha : Sl w a la) (hb : Sl w b lb) (hm : Sl w m lm) (he : Sl w e le) (hf9 : Sl w f lf) :
    Calls Try.prog 10 #[.agg #[a], .agg #[b], .agg #[m], .agg #[e], .agg #[f]] w fun e w' => e = .returned (.bool true) ∧ Below w.heap.size w w' := by
  obtain ⟨ao, ca, rfl, _⟩ := ha.open
  obtain ⟨bo, cb, rfl, _⟩ := hb.open
  obtain ⟨mo, cm, rfl, _⟩ := hm.open
  obtain ⟨eo, ce, rfl, _⟩ := he.open
  obtain ⟨fo, cf, rfl, _⟩ := hf9.open
  by_cases hf : la.length ≤ 8 ∧ lb.length ≤ 8 ∧ lm.length ≤ 8
  rotate_left
  · exact Pows_no0 ao ca bo cb mo cm eo ce fo cf la lb lm le lf w ha hb hm he hf9 hf
  by_cases hf2 : le.length ≤ 2 ∧ lf.length ≤ 2
  rotate_left
  · exact Pows_no1 ao ca bo cb mo cm eo ce fo cf la lb lm le lf w ha hb hm he hf9 hf hf2
  rcases fst_cases lm [la, lb] with h | h | h
  · cases v3 : vld le
    · exact Pows_no4 ao ca bo cb mo cm eo ce fo cf la lb lm le lf w ha hb hm he hf9 hf hf2 h v3
    cases v4 : vld lf
    · exact Pows_no5 ao ca bo cb mo cm eo ce fo cf la lb lm le lf w ha hb hm he hf9 hf hf2 h v3 v4
    obtain ⟨h1, h2, h3⟩ := fst_zero h
    obtain ⟨Q, rfl, m0, hk, hQ⟩ := mdl_nt hm h1
    obtain ⟨N, rfl, _, hN⟩ := nt_of ha (h2 la (by simp))
    obtain ⟨M, rfl, _, hM⟩ := nt_of hb (h2 lb (by simp))
    obtain ⟨E, rfl, _, hE⟩ := nt_of he v3
    obtain ⟨F, rfl, _, hF⟩ := nt_of hf9 v4
    have a1 := h3 (digs N) (by simp)
    have a2 := h3 (digs M) (by simp)
    rw [val_digs, val_digs] at a1 a2
    have q0 : 0 < Q := by omega
    have L : ∀ x, x % Q < Q := fun x => Nat.mod_lt _ q0
    have b1 : len E ≤ 2 := hf2.1
    have b2 : len F ≤ 2 := hf2.2
    exact Pows_ok ao ca bo cb mo cm eo ce fo cf N M Q E F _ _ _ _ _ _ _ _ _ w hN hM hQ hE hF hf hf2 h v3 v4 hk a1 a2 (L _) (L _) (L _) (L _) (L _) (L _) (L _) (by omega) (by omega)
      (len_add_le b1 b2 (by decide)) (len_mul_le b1 b2 (by decide)) (by rw [len_one]; decide) rfl rfl (by omega) (by omega) (by omega) (by omega) rfl rfl rfl rfl
      (by rw [Nat.pow_add, ← Nat.mul_mod]) rfl (by rw [Nat.pow_mul, Nat.pow_mod]) rfl rfl (by rw [← Nat.mul_mod, ← Nat.mul_pow, Nat.pow_mod]) (by rw [Nat.pow_one, Nat.mod_eq_of_lt a1])
  · exact Pows_no2 ao ca bo cb mo cm eo ce fo cf la lb lm le lf w ha hb hm he hf9 hf hf2 h
  · exact Pows_no3 ao ca bo cb mo cm eo ce fo cf la lb lm le lf w ha hb hm he hf9 hf hf2 h
end Go.Proofs.Ythphmgdmhlimjaa
