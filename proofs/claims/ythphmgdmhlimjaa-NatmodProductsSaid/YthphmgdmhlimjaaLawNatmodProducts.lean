/- NatmodProducts: the walk. -/
import Derived.Test.YthphmgdmhlimjaaModFrame
import Derived.Test.YthphmgdmhlimjaaModL4
namespace Go.Proofs.Ythphmgdmhlimjaa
open Go.RowKit NatMath
set_option linter.unusedVariables false

set_option maxRecDepth 100000 in
set_option maxHeartbeats 1000000 in
theorem Prod_big (ao : Option Addr) (ca : Nat) (bo : Option Addr) (cb : Nat) (co : Option Addr) (cc : Nat) (dq : Option Addr) (cd : Nat) (la lb le lm : List Nat)  (w : World) (ha : Sl w (.slice ao la.length ca) la) (hb : Sl w (.slice bo lb.length cb) lb) (hc : Sl w (.slice co le.length cc) le) (hd : Sl w (.slice dq lm.length cd) lm) (hf0 : ¬ (la.length ≤ 8 ∧ lb.length ≤ 8 ∧ lm.length ≤ 8)) :
    Calls Try.prog 9 #[.agg #[.slice ao la.length ca], .agg #[.slice bo lb.length cb], .agg #[.slice co le.length cc], .agg #[.slice dq lm.length cd]] w fun e w' => e = .returned (.bool true) ∧ Below w.heap.size w w' := by
  have hf := Lib.hid hf0
  clear hf0
  have E0 : Hid (EnvB w [] [(.slice dq lm.length cd, lm), (.slice co le.length cc, le), (.slice bo lb.length cb, lb), (.slice ao la.length ca, la)] w) := Lib.hid (((((EnvB.start w).num ha).num hb).num hc).num hd)
  clear ha hb hc hd
  go_enter Try.func9, Try.ntmps9
  go_wp2_with fail
  have E1 : Hid (EnvB w [(w.heap.size + 1 + 1 + 1, .slice dq lm.length cd), (w.heap.size + 1 + 1, .slice co le.length cc), (w.heap.size + 1, .slice bo lb.length cb), (w.heap.size, .slice ao la.length ca)] [(.slice dq lm.length cd, lm), (.slice co le.length cc, le), (.slice bo lb.length cb, lb), (.slice ao la.length ca, la)] _) := Lib.hid (((((E0.out.push (.slice ao la.length ca) 24 ⟨_, _, _, rfl⟩ (w.heap.size) (by simp)).push (.slice bo lb.length cb) 24 ⟨_, _, _, rfl⟩ (w.heap.size + 1) (by simp)).push (.slice co le.length cc) 24 ⟨_, _, _, rfl⟩ (w.heap.size + 1 + 1) (by simp)).push (.slice dq lm.length cd) 24 ⟨_, _, _, rfl⟩ (w.heap.size + 1 + 1 + 1) (by simp)))
  refine (awake_c _).mono ?_
  rintro e w1 ⟨rfl, hb⟩
  have E2 : Hid (EnvB w [(w.heap.size + 1 + 1 + 1, .slice dq lm.length cd), (w.heap.size + 1 + 1, .slice co le.length cc), (w.heap.size + 1, .slice bo lb.length cb), (w.heap.size, .slice ao la.length ca)] [(.slice dq lm.length cd, lm), (.slice co le.length cc, le), (.slice bo lb.length cb, lb), (.slice ao la.length ca, la)] _) := Lib.hid ((E1.out.below hb))
  clear E1 E0 hb
  obtain ⟨p1, f1, -, -, -⟩ := E2.out.box 3 rfl
  obtain ⟨p2, f2, -, -, -⟩ := E2.out.box 2 rfl
  obtain ⟨p3, f3, -, -, -⟩ := E2.out.box 0 rfl
  go_wp2_with fail
  refine (few3_f _ _ _ (la) _ _ _ (lb) _ _ _ (lm) 8 _ (E2.out.sl 3 rfl) (E2.out.sl 2 rfl) (E2.out.sl 0 rfl) hf.out _ (by simp)).mono ?_
  rintro e w2 ⟨rfl, hb⟩
  have E3 : Hid (EnvB w [(w.heap.size + 1 + 1 + 1, .slice dq lm.length cd), (w.heap.size + 1 + 1, .slice co le.length cc), (w.heap.size + 1, .slice bo lb.length cb), (w.heap.size, .slice ao la.length ca)] [(.slice dq lm.length cd, lm), (.slice co le.length cc, le), (.slice bo lb.length cb, lb), (.slice ao la.length ca, la)] _) := Lib.hid ((E2.out.below hb))
  clear p1 f1 p2 f2 p3 f3 E2 hb
  go_wp2_with fail
  refine (awake_c _).mono ?_
  rintro e w3 ⟨rfl, hb⟩
  have E4 : Hid (EnvB w [(w.heap.size + 1 + 1 + 1, .slice dq lm.length cd), (w.heap.size + 1 + 1, .slice co le.length cc), (w.heap.size + 1, .slice bo lb.length cb), (w.heap.size, .slice ao la.length ca)] [(.slice dq lm.length cd, lm), (.slice co le.length cc, le), (.slice bo lb.length cb, lb), (.slice ao la.length ca, la)] _) := Lib.hid ((E3.out.below hb))
  clear E3 hb
  have hfin := Lib.hid E4.out.1
  go_wp2
  go_ret
  exact ⟨rfl, hfin.out⟩
set_option maxRecDepth 100000 in
set_option maxHeartbeats 1000000 in
theorem Prod_big1 (ao : Option Addr) (ca : Nat) (bo : Option Addr) (cb : Nat) (co : Option Addr) (cc : Nat) (dq : Option Addr) (cd : Nat) (la lb le lm : List Nat)  (w : World) (ha : Sl w (.slice ao la.length ca) la) (hb : Sl w (.slice bo lb.length cb) lb) (hc : Sl w (.slice co le.length cc) le) (hd : Sl w (.slice dq lm.length cd) lm) (hf0 : la.length ≤ 8 ∧ lb.length ≤ 8 ∧ lm.length ≤ 8) (hf10 : ¬ (le.length ≤ 2)) :
    Calls Try.prog 9 #[.agg #[.slice ao la.length ca], .agg #[.slice bo lb.length cb], .agg #[.slice co le.length cc], .agg #[.slice dq lm.length cd]] w fun e w' => e = .returned (.bool true) ∧ Below w.heap.size w w' := by
  have hf := Lib.hid hf0
  have hf1 := Lib.hid hf10
  clear hf0 hf10
  have E0 : Hid (EnvB w [] [(.slice dq lm.length cd, lm), (.slice co le.length cc, le), (.slice bo lb.length cb, lb), (.slice ao la.length ca, la)] w) := Lib.hid (((((EnvB.start w).num ha).num hb).num hc).num hd)
  clear ha hb hc hd
  go_enter Try.func9, Try.ntmps9
  go_wp2_with fail
  have E1 : Hid (EnvB w [(w.heap.size + 1 + 1 + 1, .slice dq lm.length cd), (w.heap.size + 1 + 1, .slice co le.length cc), (w.heap.size + 1, .slice bo lb.length cb), (w.heap.size, .slice ao la.length ca)] [(.slice dq lm.length cd, lm), (.slice co le.length cc, le), (.slice bo lb.length cb, lb), (.slice ao la.length ca, la)] _) := Lib.hid (((((E0.out.push (.slice ao la.length ca) 24 ⟨_, _, _, rfl⟩ (w.heap.size) (by simp)).push (.slice bo lb.length cb) 24 ⟨_, _, _, rfl⟩ (w.heap.size + 1) (by simp)).push (.slice co le.length cc) 24 ⟨_, _, _, rfl⟩ (w.heap.size + 1 + 1) (by simp)).push (.slice dq lm.length cd) 24 ⟨_, _, _, rfl⟩ (w.heap.size + 1 + 1 + 1) (by simp)))
  refine (awake_c _).mono ?_
  rintro e w1 ⟨rfl, hb⟩
  have E2 : Hid (EnvB w [(w.heap.size + 1 + 1 + 1, .slice dq lm.length cd), (w.heap.size + 1 + 1, .slice co le.length cc), (w.heap.size + 1, .slice bo lb.length cb), (w.heap.size, .slice ao la.length ca)] [(.slice dq lm.length cd, lm), (.slice co le.length cc, le), (.slice bo lb.length cb, lb), (.slice ao la.length ca, la)] _) := Lib.hid ((E1.out.below hb))
  clear E1 E0 hb
  obtain ⟨p1, f1, -, -, -⟩ := E2.out.box 3 rfl
  obtain ⟨p2, f2, -, -, -⟩ := E2.out.box 2 rfl
  obtain ⟨p3, f3, -, -, -⟩ := E2.out.box 0 rfl
  go_wp2_with fail
  refine (few3_t _ _ _ (la) _ _ _ (lb) _ _ _ (lm) 8 _ (E2.out.sl 3 rfl) (E2.out.sl 2 rfl) (E2.out.sl 0 rfl) hf.out _ (by simp)).mono ?_
  rintro e w2 ⟨rfl, hb⟩
  have E3 : Hid (EnvB w [(w.heap.size + 1 + 1 + 1, .slice dq lm.length cd), (w.heap.size + 1 + 1, .slice co le.length cc), (w.heap.size + 1, .slice bo lb.length cb), (w.heap.size, .slice ao la.length ca)] [(.slice dq lm.length cd, lm), (.slice co le.length cc, le), (.slice bo lb.length cb, lb), (.slice ao la.length ca, la)] _) := Lib.hid ((E2.out.below hb))
  clear p1 f1 p2 f2 p3 f3 E2 hb
  obtain ⟨p4, f4, -, -, -⟩ := E3.out.box 1 rfl
  go_wp2_with fail
  refine (few1_f _ _ _ (le) 2 _ (E3.out.sl 1 rfl) hf1.out _ (by simp)).mono ?_
  rintro e w3 ⟨rfl, hb⟩
  have E4 : Hid (EnvB w [(w.heap.size + 1 + 1 + 1, .slice dq lm.length cd), (w.heap.size + 1 + 1, .slice co le.length cc), (w.heap.size + 1, .slice bo lb.length cb), (w.heap.size, .slice ao la.length ca)] [(.slice dq lm.length cd, lm), (.slice co le.length cc, le), (.slice bo lb.length cb, lb), (.slice ao la.length ca, la)] _) := Lib.hid ((E3.out.below hb))
  clear p4 f4 E3 hb
  go_wp2_with fail
  refine (awake_c _).mono ?_
  rintro e w4 ⟨rfl, hb⟩
  have E5 : Hid (EnvB w [(w.heap.size + 1 + 1 + 1, .slice dq lm.length cd), (w.heap.size + 1 + 1, .slice co le.length cc), (w.heap.size + 1, .slice bo lb.length cb), (w.heap.size, .slice ao la.length ca)] [(.slice dq lm.length cd, lm), (.slice co le.length cc, le), (.slice bo lb.length cb, lb), (.slice ao la.length ca, la)] _) := Lib.hid ((E4.out.below hb))
  clear E4 hb
  have hfin := Lib.hid E5.out.1
  go_wp2
  go_ret
  exact ⟨rfl, hfin.out⟩
set_option maxRecDepth 100000 in
set_option maxHeartbeats 1000000 in
theorem Prod_00 (ao : Option Addr) (ca : Nat) (bo : Option Addr) (cb : Nat) (co : Option Addr) (cc : Nat) (dq : Option Addr) (cd : Nat) (N M E Q : Nat) (r1 r2 : Nat) (w : World) (ha : Nt w (.slice ao (len N) ca) N) (hb : Nt w (.slice bo (len M) cb) M) (hc : Nt w (.slice co (len E) cc) E) (hd : Nt w (.slice dq (len Q) cd) Q) (hf0 : len N ≤ 8 ∧ len M ≤ 8 ∧ len Q ≤ 8) (hf10 : len E ≤ 2) (hg0 : fstc (digs Q) [digs N, digs M] = 0) (hj0 : fstc (digs Q) [digs N] = 0) (hv0 : vld (digs E) = true) (hn0 : N < Q) (hk0 : len Q ≤ 32) (hk50 : len Q ≤ 5000) (hk10 : len Q ≤ 1000) (hm0 : M < Q) (h10 : N * M % Q = r1) (hm10 : len M ≤ 1000) (h20 : N ^ E % Q = r2) (he0 : len E ≤ 64) (he10 : len E ≤ 1000) :
    Calls Try.prog 9 #[.agg #[.slice ao (len N) ca], .agg #[.slice bo (len M) cb], .agg #[.slice co (len E) cc], .agg #[.slice dq (len Q) cd]] w fun e w' => e = .returned (.bool true) ∧ Below w.heap.size w w' := by
  have hf := Lib.hid hf0
  have hf1 := Lib.hid hf10
  have hg := Lib.hid hg0
  have hj := Lib.hid hj0
  have hv := Lib.hid hv0
  have hn := Lib.hid hn0
  have hk := Lib.hid hk0
  have hk5 := Lib.hid hk50
  have hk1 := Lib.hid hk10
  have hm := Lib.hid hm0
  have h1 := Lib.hid h10
  have hm1 := Lib.hid hm10
  have h2 := Lib.hid h20
  have he := Lib.hid he0
  have he1 := Lib.hid he10
  clear hf0 hf10 hg0 hj0 hv0 hn0 hk0 hk50 hk10 hm0 h10 hm10 h20 he0 he10
  have E0 : Hid (EnvB w [] [(.slice dq (len Q) cd, digs Q), (.slice co (len E) cc, digs E), (.slice bo (len M) cb, digs M), (.slice ao (len N) ca, digs N)] w) := Lib.hid (((((EnvB.start w).numN ha).numN hb).numN hc).numN hd)
  clear ha hb hc hd
  go_enter Try.func9, Try.ntmps9
  go_wp2_with fail
  have E1 : Hid (EnvB w [(w.heap.size + 1 + 1 + 1, .slice dq (len Q) cd), (w.heap.size + 1 + 1, .slice co (len E) cc), (w.heap.size + 1, .slice bo (len M) cb), (w.heap.size, .slice ao (len N) ca)] [(.slice dq (len Q) cd, digs Q), (.slice co (len E) cc, digs E), (.slice bo (len M) cb, digs M), (.slice ao (len N) ca, digs N)] _) := Lib.hid (((((E0.out.push (.slice ao (len N) ca) 24 ⟨_, _, _, rfl⟩ (w.heap.size) (by simp)).push (.slice bo (len M) cb) 24 ⟨_, _, _, rfl⟩ (w.heap.size + 1) (by simp)).push (.slice co (len E) cc) 24 ⟨_, _, _, rfl⟩ (w.heap.size + 1 + 1) (by simp)).push (.slice dq (len Q) cd) 24 ⟨_, _, _, rfl⟩ (w.heap.size + 1 + 1 + 1) (by simp)))
  refine (awake_c _).mono ?_
  rintro e w1 ⟨rfl, hb⟩
  have E2 : Hid (EnvB w [(w.heap.size + 1 + 1 + 1, .slice dq (len Q) cd), (w.heap.size + 1 + 1, .slice co (len E) cc), (w.heap.size + 1, .slice bo (len M) cb), (w.heap.size, .slice ao (len N) ca)] [(.slice dq (len Q) cd, digs Q), (.slice co (len E) cc, digs E), (.slice bo (len M) cb, digs M), (.slice ao (len N) ca, digs N)] _) := Lib.hid ((E1.out.below hb))
  clear E1 E0 hb
  obtain ⟨p1, f1, -, -, -⟩ := E2.out.box 3 rfl
  obtain ⟨p2, f2, -, -, -⟩ := E2.out.box 2 rfl
  obtain ⟨p3, f3, -, -, -⟩ := E2.out.box 0 rfl
  go_wp2_with fail
  refine (few3_t _ _ _ (digs N) _ _ _ (digs M) _ _ _ (digs Q) 8 _ (E2.out.nt 3 rfl) (E2.out.nt 2 rfl) (E2.out.nt 0 rfl) hf.out _ (by simp)).mono ?_
  rintro e w2 ⟨rfl, hb⟩
  have E3 : Hid (EnvB w [(w.heap.size + 1 + 1 + 1, .slice dq (len Q) cd), (w.heap.size + 1 + 1, .slice co (len E) cc), (w.heap.size + 1, .slice bo (len M) cb), (w.heap.size, .slice ao (len N) ca)] [(.slice dq (len Q) cd, digs Q), (.slice co (len E) cc, digs E), (.slice bo (len M) cb, digs M), (.slice ao (len N) ca, digs N)] _) := Lib.hid ((E2.out.below hb))
  clear p1 f1 p2 f2 p3 f3 E2 hb
  obtain ⟨p4, f4, -, -, -⟩ := E3.out.box 1 rfl
  go_wp2_with fail
  refine (few1_t _ _ _ (digs E) 2 _ (E3.out.nt 1 rfl) hf1.out _ (by simp)).mono ?_
  rintro e w3 ⟨rfl, hb⟩
  have E4 : Hid (EnvB w [(w.heap.size + 1 + 1 + 1, .slice dq (len Q) cd), (w.heap.size + 1 + 1, .slice co (len E) cc), (w.heap.size + 1, .slice bo (len M) cb), (w.heap.size, .slice ao (len N) ca)] [(.slice dq (len Q) cd, digs Q), (.slice co (len E) cc, digs E), (.slice bo (len M) cb, digs M), (.slice ao (len N) ca, digs N)] _) := Lib.hid ((E3.out.below hb))
  clear p4 f4 E3 hb
  obtain ⟨p5, f5, -, -, -⟩ := E4.out.box 3 rfl
  obtain ⟨p6, f6, -, -, -⟩ := E4.out.box 2 rfl
  obtain ⟨p7, f7, -, -, -⟩ := E4.out.box 0 rfl
  go_wp2_with fail
  refine (Mul_m h1.out hn.out hm.out hk.out (E4.out.nt 3 rfl) (E4.out.nt 2 rfl) (E4.out.nt 0 rfl)).mono ?_
  rintro e w4 ⟨⟨xa, xk, rfl, hx⟩, hb⟩
  have E5 : Hid (EnvB w [(w.heap.size + 1 + 1 + 1, .slice dq (len Q) cd), (w.heap.size + 1 + 1, .slice co (len E) cc), (w.heap.size + 1, .slice bo (len M) cb), (w.heap.size, .slice ao (len N) ca)] [(.slice xa (len r1) xk, digs r1), (.slice dq (len Q) cd, digs Q), (.slice co (len E) cc, digs E), (.slice bo (len M) cb, digs M), (.slice ao (len N) ca, digs N)] _) := Lib.hid (((E4.out.below hb).numN (hx.out : Nt _ _ r1)))
  clear p5 f5 p6 f6 p7 f7 E4 hb hx
  have E6 : Hid (EnvB w [(w4.heap.size, .slice xa (len r1) xk), (w.heap.size + 1 + 1 + 1, .slice dq (len Q) cd), (w.heap.size + 1 + 1, .slice co (len E) cc), (w.heap.size + 1, .slice bo (len M) cb), (w.heap.size, .slice ao (len N) ca)] [(.slice xa (len r1) xk, digs r1), (.slice dq (len Q) cd, digs Q), (.slice co (len E) cc, digs E), (.slice bo (len M) cb, digs M), (.slice ao (len N) ca, digs N)] _) := Lib.hid ((E5.out.push (.slice xa (len r1) xk) 24 ⟨_, _, _, rfl⟩ (w4.heap.size) (by simp)))
  obtain ⟨p8, f8, -, -, -⟩ := E6.out.box 4 rfl
  obtain ⟨p9, f9, -, -, -⟩ := E6.out.box 2 rfl
  obtain ⟨p10, f10, -, -, -⟩ := E6.out.box 1 rfl
  go_wp2_with fail
  refine (pow_m h2.out he.out hn.out hk.out (E6.out.nt 4 rfl) (E6.out.nt 2 rfl) (E6.out.nt 1 rfl)).mono ?_
  rintro e w5 ⟨⟨ya, yk, rfl, hy⟩, hb⟩
  have E7 : Hid (EnvB w [(w4.heap.size, .slice xa (len r1) xk), (w.heap.size + 1 + 1 + 1, .slice dq (len Q) cd), (w.heap.size + 1 + 1, .slice co (len E) cc), (w.heap.size + 1, .slice bo (len M) cb), (w.heap.size, .slice ao (len N) ca)] [(.slice ya (len r2) yk, digs r2), (.slice xa (len r1) xk, digs r1), (.slice dq (len Q) cd, digs Q), (.slice co (len E) cc, digs E), (.slice bo (len M) cb, digs M), (.slice ao (len N) ca, digs N)] _) := Lib.hid (((E6.out.below hb).numN (hy.out : Nt _ _ r2)))
  clear p8 f8 p9 f9 p10 f10 E6 E5 hb hy
  have E8 : Hid (EnvB w [(w5.heap.size, .slice ya (len r2) yk), (w4.heap.size, .slice xa (len r1) xk), (w.heap.size + 1 + 1 + 1, .slice dq (len Q) cd), (w.heap.size + 1 + 1, .slice co (len E) cc), (w.heap.size + 1, .slice bo (len M) cb), (w.heap.size, .slice ao (len N) ca)] [(.slice ya (len r2) yk, digs r2), (.slice xa (len r1) xk, digs r1), (.slice dq (len Q) cd, digs Q), (.slice co (len E) cc, digs E), (.slice bo (len M) cb, digs M), (.slice ao (len N) ca, digs N)] _) := Lib.hid ((E7.out.push (.slice ya (len r2) yk) 24 ⟨_, _, _, rfl⟩ (w5.heap.size) (by simp)))
  obtain ⟨p11, f11, -, -, -⟩ := E8.out.box 2 rfl
  obtain ⟨p12, f12, -, -, -⟩ := E8.out.box 5 rfl
  obtain ⟨p13, f13, -, -, -⟩ := E8.out.box 4 rfl
  go_wp2_with fail
  refine (first2_c _ _ _ (digs N) _ _ _ (digs M) _ _ _ (digs Q) 0 _ hg.out (E8.out.nt 2 rfl) (E8.out.nt 5 rfl) (E8.out.nt 4 rfl) _ (by simp)).mono ?_
  rintro e w6 ⟨rfl, hb⟩
  have E9 : Hid (EnvB w [(w5.heap.size, .slice ya (len r2) yk), (w4.heap.size, .slice xa (len r1) xk), (w.heap.size + 1 + 1 + 1, .slice dq (len Q) cd), (w.heap.size + 1 + 1, .slice co (len E) cc), (w.heap.size + 1, .slice bo (len M) cb), (w.heap.size, .slice ao (len N) ca)] [(.slice ya (len r2) yk, digs r2), (.slice xa (len r1) xk, digs r1), (.slice dq (len Q) cd, digs Q), (.slice co (len E) cc, digs E), (.slice bo (len M) cb, digs M), (.slice ao (len N) ca, digs N)] _) := Lib.hid ((E8.out.below hb))
  clear p11 f11 p12 f12 p13 f13 E8 E7 hb
  go_wp2_with fail
  have bx0 := Lib.hid (E9.out.box 1 rfl)
  have bx1 := Lib.hid (E9.out.box 5 rfl)
  have bx2 := Lib.hid (E9.out.box 4 rfl)
  have bx3 := Lib.hid (E9.out.box 2 rfl)
  refine' wp_region_phase (by kernel_rfl) [0, 1, 2, 3, 4, 5, 6, 7, 8, 9, 10] (by kernel_rfl) #[true, true, true, true, true, true, true, true, true, true, true] (by kernel_rfl) 0 (by kernel_rfl) [PEq (.agg #[.slice xa (len r1) xk]), PEq (.agg #[.slice ao (len N) ca]), PEq (.agg #[.slice bo (len M) cb]), PEq (.agg #[.slice dq (len Q) cd]), PNum (r1), PEq (.bool true), PEq (.bool false), PEq (.bool false), PEq (.int .i64 0), PEq (.bool false), PEq (.bool false)] (List.forall_mem_cons.2 ⟨PEq.st _, List.forall_mem_cons.2 ⟨PEq.st _, List.forall_mem_cons.2 ⟨PEq.st _, List.forall_mem_cons.2 ⟨PEq.st _, List.forall_mem_cons.2 ⟨PNum.st _, List.forall_mem_cons.2 ⟨PEq.st _, List.forall_mem_cons.2 ⟨PEq.st _, List.forall_mem_cons.2 ⟨PEq.st _, List.forall_mem_cons.2 ⟨PEq.st _, List.forall_mem_cons.2 ⟨PEq.st _, List.forall_mem_cons.2 ⟨PEq.st _, List.forall_mem_nil _⟩⟩⟩⟩⟩⟩⟩⟩⟩⟩⟩) _ ?hFr1 ?stepr1 ?doner1
  case hFr1 => intro x; simp only [frameL, Act.put, List.setIfInBounds_toArray, List.set_cons_zero, List.set_cons_succ, Nat.zero_add, Nat.reduceAdd]; exact rfl
  case stepr1 =>
    refine List.forall_mem_cons.2 ⟨?_, ?_⟩
    · intro xv bv ev WW hB hdp
      refine op_of rfl ?_
      clear hdp
      intro KK hKK
      obtain ⟨z, -, -, -, -⟩ := bx0.out.below hB
      go_simp
      exact act_eq (hKK.out (.agg #[.slice xa (len r1) xk]) _ (Below.refl _ _) rfl) (by first | rfl | simp [upd])
    refine List.forall_mem_cons.2 ⟨?_, ?_⟩
    · intro xv bv ev WW hB hdp
      refine op_of rfl ?_
      clear hdp
      intro KK hKK
      obtain ⟨z, -, -, -, -⟩ := bx1.out.below hB
      go_simp
      exact act_eq (hKK.out (.agg #[.slice ao (len N) ca]) _ (Below.refl _ _) rfl) (by first | rfl | simp [upd])
    refine List.forall_mem_cons.2 ⟨?_, ?_⟩
    · intro xv bv ev WW hB hdp
      refine op_of rfl ?_
      clear hdp
      intro KK hKK
      obtain ⟨z, -, -, -, -⟩ := bx2.out.below hB
      go_simp
      exact act_eq (hKK.out (.agg #[.slice bo (len M) cb]) _ (Below.refl _ _) rfl) (by first | rfl | simp [upd])
    refine List.forall_mem_cons.2 ⟨?_, ?_⟩
    · intro xv bv ev WW hB hdp
      refine op_of rfl ?_
      clear hdp
      intro KK hKK
      obtain ⟨z, -, -, -, -⟩ := bx3.out.below hB
      go_simp
      exact act_eq (hKK.out (.agg #[.slice dq (len Q) cd]) _ (Below.refl _ _) rfl) (by first | rfl | simp [upd])
    refine List.forall_mem_cons.2 ⟨?_, ?_⟩
    · intro xv bv ev WW hB hdp
      refine op_of rfl ?_
      have ed1 : xv 1 = .agg #[.slice ao (len N) ca] := hdp 1 (by kernel_rfl)
      have ed2 : xv 2 = .agg #[.slice bo (len M) cb] := hdp 2 (by kernel_rfl)
      have ed3 : xv 3 = .agg #[.slice dq (len Q) cd] := hdp 3 (by kernel_rfl)
      clear hdp
      intro KK hKK
      go_simp
      refine (rMul_c h1.out hn.out hm1.out hk5.out ((E9.out.below hB).nt 5 rfl) ((E9.out.below hB).nt 4 rfl) ((E9.out.below hB).nt 2 rfl)).mono ?_
      rintro e WW' ⟨⟨ua, uk, rfl, hu⟩, hb⟩
      (try dsimp only)
      (try simp only [Act.put, List.setIfInBounds_toArray, List.set_cons_zero, List.set_cons_succ])
      exact act_eq (hKK.out _ _ hb ⟨_, _, rfl, hu⟩) (by first | rfl | simp [upd, ed1, ed2, ed3])
    refine List.forall_mem_cons.2 ⟨?_, ?_⟩
    · intro xv bv ev WW hB hdp
      refine op_of rfl ?_
      have ed0 : xv 0 = .agg #[.slice xa (len r1) xk] := hdp 0 (by kernel_rfl)
      obtain ⟨ua, uk, ed4, hu⟩ := (show (PNum (r1)) (xv 4) (bv 4) (ev 4) WW from hdp 4 (by kernel_rfl))
      clear hdp
      intro KK hKK
      go_simp
      refine (same_c (t := true) (by simp) ((E9.out.below hB).nt 1 rfl) hu.out).mono ?_
      rintro e WW' ⟨rfl, hb⟩
      (try dsimp only)
      (try simp only [Act.put, List.setIfInBounds_toArray, List.set_cons_zero, List.set_cons_succ])
      exact act_eq (hKK.out _ _ hb rfl) (by first | rfl | simp [upd, ed0, ed4])
    refine List.forall_mem_cons.2 ⟨?_, ?_⟩
    · intro xv bv ev WW hB hdp
      refine op_of rfl ?_
      have ed5 : xv 5 = .bool true := hdp 5 (by kernel_rfl)
      clear hdp
      intro KK hKK
      go_simp
      exact act_eq (hKK.out _ _ (Below.refl _ _) rfl) (by first | rfl | simp [upd, ed5])
    refine List.forall_mem_cons.2 ⟨?_, ?_⟩
    · intro xv bv ev WW hB hdp
      refine op_of rfl ?_
      have ed6 : xv 6 = .bool false := hdp 6 (by kernel_rfl)
      clear hdp
      intro KK hKK
      go_simp
      exact act_eq (hKK.out _ _ (Below.refl _ _) rfl) (by first | rfl | simp [upd, ed6])
    refine List.forall_mem_cons.2 ⟨?_, ?_⟩
    · intro xv bv ev WW hB hdp
      refine op_of rfl ?_
      have ed7 : xv 7 = .bool false := hdp 7 (by kernel_rfl)
      clear hdp
      intro KK hKK
      refine op_guard (d := 69) rfl rfl (by first | exact congrArg some ed7 | simp [ed7]) ?_
      go_simp
      exact act_eq (hKK.out _ _ (Below.refl _ _) rfl) (by first | rfl | simp [upd, ed7])
    refine List.forall_mem_cons.2 ⟨?_, ?_⟩
    · intro xv bv ev WW hB hdp
      refine op_of rfl ?_
      have ed8 : xv 8 = .int .i64 0 := hdp 8 (by kernel_rfl)
      have ed7 : xv 7 = .bool false := hdp 7 (by kernel_rfl)
      clear hdp
      intro KK hKK
      refine op_guard (d := 69) rfl rfl (by first | exact congrArg some ed7 | simp [ed7]) ?_
      go_simp
      exact act_eq (hKK.out _ _ (Below.refl _ _) rfl) (by first | rfl | simp [upd, ed8, ed7])
    refine List.forall_mem_cons.2 ⟨?_, ?_⟩
    · intro xv bv ev WW hB hdp
      refine op_of rfl ?_
      have ed7 : xv 7 = .bool false := hdp 7 (by kernel_rfl)
      have ed9 : xv 9 = .bool false := hdp 9 (by kernel_rfl)
      clear hdp
      intro KK hKK
      go_simp
      exact act_eq (hKK.out _ _ (Below.refl _ _) rfl) (by first | rfl | simp [upd, ed7, ed9])
    exact List.forall_mem_nil _
  intro xv bv ev w7 hB hR hO
  have ed0 : xv 0 = .agg #[.slice xa (len r1) xk] := hR 0 (by kernel_rfl)
  have ed1 : xv 1 = .agg #[.slice ao (len N) ca] := hR 1 (by kernel_rfl)
  have ed2 : xv 2 = .agg #[.slice bo (len M) cb] := hR 2 (by kernel_rfl)
  have ed3 : xv 3 = .agg #[.slice dq (len Q) cd] := hR 3 (by kernel_rfl)
  obtain ⟨ua, uk, ed4, hu⟩ := (show (PNum (r1)) (xv 4) (bv 4) (ev 4) w7 from hR 4 (by kernel_rfl))
  have ed5 : xv 5 = .bool true := hR 5 (by kernel_rfl)
  have ed6 : xv 6 = .bool false := hR 6 (by kernel_rfl)
  have ed7 : xv 7 = .bool false := hR 7 (by kernel_rfl)
  have ed8 : xv 8 = .int .i64 0 := hR 8 (by kernel_rfl)
  have ed9 : xv 9 = .bool false := hR 9 (by kernel_rfl)
  have ed10 : xv 10 = .bool false := hR 10 (by kernel_rfl)
  simp only [ed0, ed1, ed2, ed3, ed4, ed5, ed6, ed7, ed8, ed9, ed10]
  have E10 : Hid (EnvB w [(w5.heap.size, .slice ya (len r2) yk), (w4.heap.size, .slice xa (len r1) xk), (w.heap.size + 1 + 1 + 1, .slice dq (len Q) cd), (w.heap.size + 1 + 1, .slice co (len E) cc), (w.heap.size + 1, .slice bo (len M) cb), (w.heap.size, .slice ao (len N) ca)] [(.slice ua (len r1) uk, digs r1), (.slice ya (len r2) yk, digs r2), (.slice xa (len r1) xk, digs r1), (.slice dq (len Q) cd, digs Q), (.slice co (len E) cc, digs E), (.slice bo (len M) cb, digs M), (.slice ao (len N) ca, digs N)] _) := Lib.hid (((E9.out.below hB).numN (hu.out : Nt _ _ (r1))))
  clear E9 hB hR hO bx0 bx1 bx2 bx3 ed0 ed1 ed2 ed3 ed4 ed5 ed6 ed7 ed8 ed9 ed10 hu
  refine wpAny_done (by kernel_rfl) ?_ _
  obtain ⟨p14, f14, -, -, -⟩ := E10.out.box 2 rfl
  obtain ⟨p15, f15, -, -, -⟩ := E10.out.box 5 rfl
  go_wp2_with fail
  refine (first1_c _ _ _ (digs N) _ _ _ (digs Q) 0 _ hj.out (E10.out.nt 3 rfl) (E10.out.nt 6 rfl) _ (by simp)).mono ?_
  rintro e w8 ⟨rfl, hb⟩
  have E11 : Hid (EnvB w [(w5.heap.size, .slice ya (len r2) yk), (w4.heap.size, .slice xa (len r1) xk), (w.heap.size + 1 + 1 + 1, .slice dq (len Q) cd), (w.heap.size + 1 + 1, .slice co (len E) cc), (w.heap.size + 1, .slice bo (len M) cb), (w.heap.size, .slice ao (len N) ca)] [(.slice ua (len r1) uk, digs r1), (.slice ya (len r2) yk, digs r2), (.slice xa (len r1) xk, digs r1), (.slice dq (len Q) cd, digs Q), (.slice co (len E) cc, digs E), (.slice bo (len M) cb, digs M), (.slice ao (len N) ca, digs N)] _) := Lib.hid ((E10.out.below hb))
  clear p14 f14 p15 f15 E10 hb
  obtain ⟨p16, f16, -, -, -⟩ := E11.out.box 3 rfl
  go_wp2_with fail
  refine (rValid_of hv.out (E11.out.nt 4 rfl)).mono ?_
  rintro e w9 ⟨rfl, hb⟩
  have E12 : Hid (EnvB w [(w5.heap.size, .slice ya (len r2) yk), (w4.heap.size, .slice xa (len r1) xk), (w.heap.size + 1 + 1 + 1, .slice dq (len Q) cd), (w.heap.size + 1 + 1, .slice co (len E) cc), (w.heap.size + 1, .slice bo (len M) cb), (w.heap.size, .slice ao (len N) ca)] [(.slice ua (len r1) uk, digs r1), (.slice ya (len r2) yk, digs r2), (.slice xa (len r1) xk, digs r1), (.slice dq (len Q) cd, digs Q), (.slice co (len E) cc, digs E), (.slice bo (len M) cb, digs M), (.slice ao (len N) ca, digs N)] _) := Lib.hid ((E11.out.below hb))
  clear p16 f16 E11 hb
  go_wp2_with fail
  have bx0 := Lib.hid (E12.out.box 0 rfl)
  have bx1 := Lib.hid (E12.out.box 5 rfl)
  have bx2 := Lib.hid (E12.out.box 3 rfl)
  have bx3 := Lib.hid (E12.out.box 2 rfl)
  refine' wp_region_phase (by kernel_rfl) [0, 1, 2, 3, 4, 5, 6, 7, 8, 9] (by kernel_rfl) #[true, true, true, true, true, true, true, true, true, true, false] (by kernel_rfl) 1 (by kernel_rfl) [PEq (.agg #[.slice ya (len r2) yk]), PEq (.agg #[.slice ao (len N) ca]), PEq (.agg #[.slice co (len E) cc]), PEq (.agg #[.slice dq (len Q) cd]), PNum (r2), PEq (.bool true), PEq (.bool true), PEq (.int .i64 0), PEq (.bool true), PEq (.bool true), Fact.none] (List.forall_mem_cons.2 ⟨PEq.st _, List.forall_mem_cons.2 ⟨PEq.st _, List.forall_mem_cons.2 ⟨PEq.st _, List.forall_mem_cons.2 ⟨PEq.st _, List.forall_mem_cons.2 ⟨PNum.st _, List.forall_mem_cons.2 ⟨PEq.st _, List.forall_mem_cons.2 ⟨PEq.st _, List.forall_mem_cons.2 ⟨PEq.st _, List.forall_mem_cons.2 ⟨PEq.st _, List.forall_mem_cons.2 ⟨PEq.st _, List.forall_mem_cons.2 ⟨Fact.none_st, List.forall_mem_nil _⟩⟩⟩⟩⟩⟩⟩⟩⟩⟩⟩) _ ?hFr2 ?stepr2 ?doner2
  case hFr2 => intro x; simp only [frameL, Act.put, List.setIfInBounds_toArray, List.set_cons_zero, List.set_cons_succ, Nat.zero_add, Nat.reduceAdd]; exact rfl
  case stepr2 =>
    refine List.forall_mem_cons.2 ⟨?_, ?_⟩
    · intro xv bv ev WW hB hdp
      refine op_of rfl ?_
      clear hdp
      intro KK hKK
      obtain ⟨z, -, -, -, -⟩ := bx0.out.below hB
      go_simp
      exact act_eq (hKK.out (.agg #[.slice ya (len r2) yk]) _ (Below.refl _ _) rfl) (by first | rfl | simp [upd])
    refine List.forall_mem_cons.2 ⟨?_, ?_⟩
    · intro xv bv ev WW hB hdp
      refine op_of rfl ?_
      clear hdp
      intro KK hKK
      obtain ⟨z, -, -, -, -⟩ := bx1.out.below hB
      go_simp
      exact act_eq (hKK.out (.agg #[.slice ao (len N) ca]) _ (Below.refl _ _) rfl) (by first | rfl | simp [upd])
    refine List.forall_mem_cons.2 ⟨?_, ?_⟩
    · intro xv bv ev WW hB hdp
      refine op_of rfl ?_
      clear hdp
      intro KK hKK
      obtain ⟨z, -, -, -, -⟩ := bx2.out.below hB
      go_simp
      exact act_eq (hKK.out (.agg #[.slice co (len E) cc]) _ (Below.refl _ _) rfl) (by first | rfl | simp [upd])
    refine List.forall_mem_cons.2 ⟨?_, ?_⟩
    · intro xv bv ev WW hB hdp
      refine op_of rfl ?_
      clear hdp
      intro KK hKK
      obtain ⟨z, -, -, -, -⟩ := bx3.out.below hB
      go_simp
      exact act_eq (hKK.out (.agg #[.slice dq (len Q) cd]) _ (Below.refl _ _) rfl) (by first | rfl | simp [upd])
    refine List.forall_mem_cons.2 ⟨?_, ?_⟩
    · intro xv bv ev WW hB hdp
      refine op_of rfl ?_
      have ed1 : xv 1 = .agg #[.slice ao (len N) ca] := hdp 1 (by kernel_rfl)
      have ed2 : xv 2 = .agg #[.slice co (len E) cc] := hdp 2 (by kernel_rfl)
      have ed3 : xv 3 = .agg #[.slice dq (len Q) cd] := hdp 3 (by kernel_rfl)
      clear hdp
      intro KK hKK
      go_simp
      refine (rPow_c h2.out he1.out hn.out hk1.out ((E12.out.below hB).nt 6 rfl) ((E12.out.below hB).nt 4 rfl) ((E12.out.below hB).nt 3 rfl)).mono ?_
      rintro e WW' ⟨⟨va, vk, rfl, hv⟩, hb⟩
      (try dsimp only)
      (try simp only [Act.put, List.setIfInBounds_toArray, List.set_cons_zero, List.set_cons_succ])
      exact act_eq (hKK.out _ _ hb ⟨_, _, rfl, hv⟩) (by first | rfl | simp [upd, ed1, ed2, ed3])
    refine List.forall_mem_cons.2 ⟨?_, ?_⟩
    · intro xv bv ev WW hB hdp
      refine op_of rfl ?_
      have ed0 : xv 0 = .agg #[.slice ya (len r2) yk] := hdp 0 (by kernel_rfl)
      obtain ⟨va, vk, ed4, hv⟩ := (show (PNum (r2)) (xv 4) (bv 4) (ev 4) WW from hdp 4 (by kernel_rfl))
      clear hdp
      intro KK hKK
      go_simp
      refine (same_c (t := true) (by simp) ((E12.out.below hB).nt 1 rfl) hv.out).mono ?_
      rintro e WW' ⟨rfl, hb⟩
      (try dsimp only)
      (try simp only [Act.put, List.setIfInBounds_toArray, List.set_cons_zero, List.set_cons_succ])
      exact act_eq (hKK.out _ _ hb rfl) (by first | rfl | simp [upd, ed0, ed4])
    refine List.forall_mem_cons.2 ⟨?_, ?_⟩
    · intro xv bv ev WW hB hdp
      refine op_of rfl ?_
      have ed5 : xv 5 = .bool true := hdp 5 (by kernel_rfl)
      clear hdp
      intro KK hKK
      go_simp
      exact act_eq (hKK.out _ _ (Below.refl _ _) rfl) (by first | rfl | simp [upd, ed5])
    refine List.forall_mem_cons.2 ⟨?_, ?_⟩
    · intro xv bv ev WW hB hdp
      refine op_of rfl ?_
      have ed6 : xv 6 = .bool true := hdp 6 (by kernel_rfl)
      clear hdp
      intro KK hKK
      refine op_guard (d := 97) rfl rfl (by first | exact congrArg some ed6 | simp [ed6]) ?_
      go_simp
      exact act_eq (hKK.out _ _ (Below.refl _ _) rfl) (by first | rfl | simp [upd, ed6])
    refine List.forall_mem_cons.2 ⟨?_, ?_⟩
    · intro xv bv ev WW hB hdp
      refine op_of rfl ?_
      have ed7 : xv 7 = .int .i64 0 := hdp 7 (by kernel_rfl)
      have ed6 : xv 6 = .bool true := hdp 6 (by kernel_rfl)
      clear hdp
      intro KK hKK
      refine op_guard (d := 97) rfl rfl (by first | exact congrArg some ed6 | simp [ed6]) ?_
      go_simp
      exact act_eq (hKK.out _ _ (Below.refl _ _) rfl) (by first | rfl | simp [upd, ed7, ed6])
    refine List.forall_mem_cons.2 ⟨?_, ?_⟩
    · intro xv bv ev WW hB hdp
      refine op_of rfl ?_
      have ed6 : xv 6 = .bool true := hdp 6 (by kernel_rfl)
      have ed8 : xv 8 = .bool true := hdp 8 (by kernel_rfl)
      clear hdp
      intro KK hKK
      go_simp
      exact act_eq (hKK.out _ _ (Below.refl _ _) rfl) (by first | rfl | simp [upd, ed6, ed8])
    exact List.forall_mem_nil _
  intro xv bv ev w10 hB hR hO
  have ed0 : xv 0 = .agg #[.slice ya (len r2) yk] := hR 0 (by kernel_rfl)
  have ed1 : xv 1 = .agg #[.slice ao (len N) ca] := hR 1 (by kernel_rfl)
  have ed2 : xv 2 = .agg #[.slice co (len E) cc] := hR 2 (by kernel_rfl)
  have ed3 : xv 3 = .agg #[.slice dq (len Q) cd] := hR 3 (by kernel_rfl)
  obtain ⟨va, vk, ed4, hv⟩ := (show (PNum (r2)) (xv 4) (bv 4) (ev 4) w10 from hR 4 (by kernel_rfl))
  have ed5 : xv 5 = .bool true := hR 5 (by kernel_rfl)
  have ed6 : xv 6 = .bool true := hR 6 (by kernel_rfl)
  have ed7 : xv 7 = .int .i64 0 := hR 7 (by kernel_rfl)
  have ed8 : xv 8 = .bool true := hR 8 (by kernel_rfl)
  have ed9 : xv 9 = .bool true := hR 9 (by kernel_rfl)
  simp only [ed0, ed1, ed2, ed3, ed4, ed5, ed6, ed7, ed8, ed9]
  have E13 : Hid (EnvB w [(w5.heap.size, .slice ya (len r2) yk), (w4.heap.size, .slice xa (len r1) xk), (w.heap.size + 1 + 1 + 1, .slice dq (len Q) cd), (w.heap.size + 1 + 1, .slice co (len E) cc), (w.heap.size + 1, .slice bo (len M) cb), (w.heap.size, .slice ao (len N) ca)] [(.slice va (len r2) vk, digs r2), (.slice ua (len r1) uk, digs r1), (.slice ya (len r2) yk, digs r2), (.slice xa (len r1) xk, digs r1), (.slice dq (len Q) cd, digs Q), (.slice co (len E) cc, digs E), (.slice bo (len M) cb, digs M), (.slice ao (len N) ca, digs N)] _) := Lib.hid (((E12.out.below hB).numN (hv.out : Nt _ _ (r2))))
  clear E12 hB hR hO bx0 bx1 bx2 bx3 ed0 ed1 ed2 ed3 ed4 ed5 ed6 ed7 ed8 ed9 hv
  refine wpAny_next (i := 10) (by kernel_rfl) rfl (fun KK hKK => ?_)
  go_simp
  refine hKK.out _ _ ?_
  clear hKK KK
  refine wpAny_done (by kernel_rfl) ?_ _
  have hfin := Lib.hid E13.out.1
  go_wp2
  go_ret
  exact ⟨rfl, hfin.out⟩
set_option maxRecDepth 100000 in
set_option maxHeartbeats 1000000 in
theorem Prod_0inv (ao : Option Addr) (ca : Nat) (bo : Option Addr) (cb : Nat) (co : Option Addr) (cc : Nat) (dq : Option Addr) (cd : Nat) (N M Q : Nat) (le : List Nat) (j : Int) (r1 : Nat) (w : World) (ha : Nt w (.slice ao (len N) ca) N) (hb : Nt w (.slice bo (len M) cb) M) (hc : Sl w (.slice co le.length cc) le) (hd : Nt w (.slice dq (len Q) cd) Q) (hf0 : len N ≤ 8 ∧ len M ≤ 8 ∧ len Q ≤ 8) (hf10 : le.length ≤ 2) (hg0 : fstc (digs Q) [digs N, digs M] = 0) (hj0 : fstc (digs Q) [digs N] = j) (hv0 : vld le = false) (hn0 : N < Q) (hk0 : len Q ≤ 32) (hk50 : len Q ≤ 5000) (hk10 : len Q ≤ 1000) (hm0 : M < Q) (h10 : N * M % Q = r1) (hm10 : len M ≤ 1000) :
    Calls Try.prog 9 #[.agg #[.slice ao (len N) ca], .agg #[.slice bo (len M) cb], .agg #[.slice co le.length cc], .agg #[.slice dq (len Q) cd]] w fun e w' => e = .returned (.bool true) ∧ Below w.heap.size w w' := by
  have hf := Lib.hid hf0
  have hf1 := Lib.hid hf10
  have hg := Lib.hid hg0
  have hj := Lib.hid hj0
  have hv := Lib.hid hv0
  have hn := Lib.hid hn0
  have hk := Lib.hid hk0
  have hk5 := Lib.hid hk50
  have hk1 := Lib.hid hk10
  have hm := Lib.hid hm0
  have h1 := Lib.hid h10
  have hm1 := Lib.hid hm10
  clear hf0 hf10 hg0 hj0 hv0 hn0 hk0 hk50 hk10 hm0 h10 hm10
  have E0 : Hid (EnvB w [] [(.slice dq (len Q) cd, digs Q), (.slice co le.length cc, le), (.slice bo (len M) cb, digs M), (.slice ao (len N) ca, digs N)] w) := Lib.hid (((((EnvB.start w).numN ha).numN hb).num hc).numN hd)
  clear ha hb hc hd
  go_enter Try.func9, Try.ntmps9
  go_wp2_with fail
  have E1 : Hid (EnvB w [(w.heap.size + 1 + 1 + 1, .slice dq (len Q) cd), (w.heap.size + 1 + 1, .slice co le.length cc), (w.heap.size + 1, .slice bo (len M) cb), (w.heap.size, .slice ao (len N) ca)] [(.slice dq (len Q) cd, digs Q), (.slice co le.length cc, le), (.slice bo (len M) cb, digs M), (.slice ao (len N) ca, digs N)] _) := Lib.hid (((((E0.out.push (.slice ao (len N) ca) 24 ⟨_, _, _, rfl⟩ (w.heap.size) (by simp)).push (.slice bo (len M) cb) 24 ⟨_, _, _, rfl⟩ (w.heap.size + 1) (by simp)).push (.slice co le.length cc) 24 ⟨_, _, _, rfl⟩ (w.heap.size + 1 + 1) (by simp)).push (.slice dq (len Q) cd) 24 ⟨_, _, _, rfl⟩ (w.heap.size + 1 + 1 + 1) (by simp)))
  refine (awake_c _).mono ?_
  rintro e w1 ⟨rfl, hb⟩
  have E2 : Hid (EnvB w [(w.heap.size + 1 + 1 + 1, .slice dq (len Q) cd), (w.heap.size + 1 + 1, .slice co le.length cc), (w.heap.size + 1, .slice bo (len M) cb), (w.heap.size, .slice ao (len N) ca)] [(.slice dq (len Q) cd, digs Q), (.slice co le.length cc, le), (.slice bo (len M) cb, digs M), (.slice ao (len N) ca, digs N)] _) := Lib.hid ((E1.out.below hb))
  clear E1 E0 hb
  obtain ⟨p1, f1, -, -, -⟩ := E2.out.box 3 rfl
  obtain ⟨p2, f2, -, -, -⟩ := E2.out.box 2 rfl
  obtain ⟨p3, f3, -, -, -⟩ := E2.out.box 0 rfl
  go_wp2_with fail
  refine (few3_t _ _ _ (digs N) _ _ _ (digs M) _ _ _ (digs Q) 8 _ (E2.out.nt 3 rfl) (E2.out.nt 2 rfl) (E2.out.nt 0 rfl) hf.out _ (by simp)).mono ?_
  rintro e w2 ⟨rfl, hb⟩
  have E3 : Hid (EnvB w [(w.heap.size + 1 + 1 + 1, .slice dq (len Q) cd), (w.heap.size + 1 + 1, .slice co le.length cc), (w.heap.size + 1, .slice bo (len M) cb), (w.heap.size, .slice ao (len N) ca)] [(.slice dq (len Q) cd, digs Q), (.slice co le.length cc, le), (.slice bo (len M) cb, digs M), (.slice ao (len N) ca, digs N)] _) := Lib.hid ((E2.out.below hb))
  clear p1 f1 p2 f2 p3 f3 E2 hb
  obtain ⟨p4, f4, -, -, -⟩ := E3.out.box 1 rfl
  go_wp2_with fail
  refine (few1_t _ _ _ (le) 2 _ (E3.out.sl 1 rfl) hf1.out _ (by simp)).mono ?_
  rintro e w3 ⟨rfl, hb⟩
  have E4 : Hid (EnvB w [(w.heap.size + 1 + 1 + 1, .slice dq (len Q) cd), (w.heap.size + 1 + 1, .slice co le.length cc), (w.heap.size + 1, .slice bo (len M) cb), (w.heap.size, .slice ao (len N) ca)] [(.slice dq (len Q) cd, digs Q), (.slice co le.length cc, le), (.slice bo (len M) cb, digs M), (.slice ao (len N) ca, digs N)] _) := Lib.hid ((E3.out.below hb))
  clear p4 f4 E3 hb
  obtain ⟨p5, f5, -, -, -⟩ := E4.out.box 3 rfl
  obtain ⟨p6, f6, -, -, -⟩ := E4.out.box 2 rfl
  obtain ⟨p7, f7, -, -, -⟩ := E4.out.box 0 rfl
  go_wp2_with fail
  refine (Mul_m h1.out hn.out hm.out hk.out (E4.out.nt 3 rfl) (E4.out.nt 2 rfl) (E4.out.nt 0 rfl)).mono ?_
  rintro e w4 ⟨⟨xa, xk, rfl, hx⟩, hb⟩
  have E5 : Hid (EnvB w [(w.heap.size + 1 + 1 + 1, .slice dq (len Q) cd), (w.heap.size + 1 + 1, .slice co le.length cc), (w.heap.size + 1, .slice bo (len M) cb), (w.heap.size, .slice ao (len N) ca)] [(.slice xa (len r1) xk, digs r1), (.slice dq (len Q) cd, digs Q), (.slice co le.length cc, le), (.slice bo (len M) cb, digs M), (.slice ao (len N) ca, digs N)] _) := Lib.hid (((E4.out.below hb).numN (hx.out : Nt _ _ r1)))
  clear p5 f5 p6 f6 p7 f7 E4 hb hx
  have E6 : Hid (EnvB w [(w4.heap.size, .slice xa (len r1) xk), (w.heap.size + 1 + 1 + 1, .slice dq (len Q) cd), (w.heap.size + 1 + 1, .slice co le.length cc), (w.heap.size + 1, .slice bo (len M) cb), (w.heap.size, .slice ao (len N) ca)] [(.slice xa (len r1) xk, digs r1), (.slice dq (len Q) cd, digs Q), (.slice co le.length cc, le), (.slice bo (len M) cb, digs M), (.slice ao (len N) ca, digs N)] _) := Lib.hid ((E5.out.push (.slice xa (len r1) xk) 24 ⟨_, _, _, rfl⟩ (w4.heap.size) (by simp)))
  obtain ⟨p8, f8, -, -, -⟩ := E6.out.box 4 rfl
  obtain ⟨p9, f9, -, -, -⟩ := E6.out.box 2 rfl
  obtain ⟨p10, f10, -, -, -⟩ := E6.out.box 1 rfl
  go_wp2_with fail
  refine (pow_z1 hv.out (E6.out.nt 4 rfl) (E6.out.sl 2 rfl) (E6.out.nt 1 rfl)).mono ?_
  rintro e w5 ⟨⟨ya, yk, rfl⟩, hb⟩
  have E7 : Hid (EnvB w [(w4.heap.size, .slice xa (len r1) xk), (w.heap.size + 1 + 1 + 1, .slice dq (len Q) cd), (w.heap.size + 1 + 1, .slice co le.length cc), (w.heap.size + 1, .slice bo (len M) cb), (w.heap.size, .slice ao (len N) ca)] [(.slice xa (len r1) xk, digs r1), (.slice dq (len Q) cd, digs Q), (.slice co le.length cc, le), (.slice bo (len M) cb, digs M), (.slice ao (len N) ca, digs N)] _) := Lib.hid ((E6.out.below hb))
  clear p8 f8 p9 f9 p10 f10 E6 E5 hb
  have E8 : Hid (EnvB w [(w5.heap.size, .slice ya 0 yk), (w4.heap.size, .slice xa (len r1) xk), (w.heap.size + 1 + 1 + 1, .slice dq (len Q) cd), (w.heap.size + 1 + 1, .slice co le.length cc), (w.heap.size + 1, .slice bo (len M) cb), (w.heap.size, .slice ao (len N) ca)] [(.slice xa (len r1) xk, digs r1), (.slice dq (len Q) cd, digs Q), (.slice co le.length cc, le), (.slice bo (len M) cb, digs M), (.slice ao (len N) ca, digs N)] _) := Lib.hid ((E7.out.push (.slice ya 0 yk) 24 ⟨_, _, _, rfl⟩ (w5.heap.size) (by simp)))
  obtain ⟨p11, f11, -, -, -⟩ := E8.out.box 2 rfl
  obtain ⟨p12, f12, -, -, -⟩ := E8.out.box 5 rfl
  obtain ⟨p13, f13, -, -, -⟩ := E8.out.box 4 rfl
  go_wp2_with fail
  refine (first2_c _ _ _ (digs N) _ _ _ (digs M) _ _ _ (digs Q) 0 _ hg.out (E8.out.nt 1 rfl) (E8.out.nt 4 rfl) (E8.out.nt 3 rfl) _ (by simp)).mono ?_
  rintro e w6 ⟨rfl, hb⟩
  have E9 : Hid (EnvB w [(w5.heap.size, .slice ya 0 yk), (w4.heap.size, .slice xa (len r1) xk), (w.heap.size + 1 + 1 + 1, .slice dq (len Q) cd), (w.heap.size + 1 + 1, .slice co le.length cc), (w.heap.size + 1, .slice bo (len M) cb), (w.heap.size, .slice ao (len N) ca)] [(.slice xa (len r1) xk, digs r1), (.slice dq (len Q) cd, digs Q), (.slice co le.length cc, le), (.slice bo (len M) cb, digs M), (.slice ao (len N) ca, digs N)] _) := Lib.hid ((E8.out.below hb))
  clear p11 f11 p12 f12 p13 f13 E8 E7 hb
  go_wp2_with fail
  have bx0 := Lib.hid (E9.out.box 1 rfl)
  have bx1 := Lib.hid (E9.out.box 5 rfl)
  have bx2 := Lib.hid (E9.out.box 4 rfl)
  have bx3 := Lib.hid (E9.out.box 2 rfl)
  refine' wp_region_phase (by kernel_rfl) [0, 1, 2, 3, 4, 5, 6, 7, 8, 9, 10] (by kernel_rfl) #[true, true, true, true, true, true, true, true, true, true, true] (by kernel_rfl) 0 (by kernel_rfl) [PEq (.agg #[.slice xa (len r1) xk]), PEq (.agg #[.slice ao (len N) ca]), PEq (.agg #[.slice bo (len M) cb]), PEq (.agg #[.slice dq (len Q) cd]), PNum (r1), PEq (.bool true), PEq (.bool false), PEq (.bool false), PEq (.int .i64 0), PEq (.bool false), PEq (.bool false)] (List.forall_mem_cons.2 ⟨PEq.st _, List.forall_mem_cons.2 ⟨PEq.st _, List.forall_mem_cons.2 ⟨PEq.st _, List.forall_mem_cons.2 ⟨PEq.st _, List.forall_mem_cons.2 ⟨PNum.st _, List.forall_mem_cons.2 ⟨PEq.st _, List.forall_mem_cons.2 ⟨PEq.st _, List.forall_mem_cons.2 ⟨PEq.st _, List.forall_mem_cons.2 ⟨PEq.st _, List.forall_mem_cons.2 ⟨PEq.st _, List.forall_mem_cons.2 ⟨PEq.st _, List.forall_mem_nil _⟩⟩⟩⟩⟩⟩⟩⟩⟩⟩⟩) _ ?hFr3 ?stepr3 ?doner3
  case hFr3 => intro x; simp only [frameL, Act.put, List.setIfInBounds_toArray, List.set_cons_zero, List.set_cons_succ, Nat.zero_add, Nat.reduceAdd]; exact rfl
  case stepr3 =>
    refine List.forall_mem_cons.2 ⟨?_, ?_⟩
    · intro xv bv ev WW hB hdp
      refine op_of rfl ?_
      clear hdp
      intro KK hKK
      obtain ⟨z, -, -, -, -⟩ := bx0.out.below hB
      go_simp
      exact act_eq (hKK.out (.agg #[.slice xa (len r1) xk]) _ (Below.refl _ _) rfl) (by first | rfl | simp [upd])
    refine List.forall_mem_cons.2 ⟨?_, ?_⟩
    · intro xv bv ev WW hB hdp
      refine op_of rfl ?_
      clear hdp
      intro KK hKK
      obtain ⟨z, -, -, -, -⟩ := bx1.out.below hB
      go_simp
      exact act_eq (hKK.out (.agg #[.slice ao (len N) ca]) _ (Below.refl _ _) rfl) (by first | rfl | simp [upd])
    refine List.forall_mem_cons.2 ⟨?_, ?_⟩
    · intro xv bv ev WW hB hdp
      refine op_of rfl ?_
      clear hdp
      intro KK hKK
      obtain ⟨z, -, -, -, -⟩ := bx2.out.below hB
      go_simp
      exact act_eq (hKK.out (.agg #[.slice bo (len M) cb]) _ (Below.refl _ _) rfl) (by first | rfl | simp [upd])
    refine List.forall_mem_cons.2 ⟨?_, ?_⟩
    · intro xv bv ev WW hB hdp
      refine op_of rfl ?_
      clear hdp
      intro KK hKK
      obtain ⟨z, -, -, -, -⟩ := bx3.out.below hB
      go_simp
      exact act_eq (hKK.out (.agg #[.slice dq (len Q) cd]) _ (Below.refl _ _) rfl) (by first | rfl | simp [upd])
    refine List.forall_mem_cons.2 ⟨?_, ?_⟩
    · intro xv bv ev WW hB hdp
      refine op_of rfl ?_
      have ed1 : xv 1 = .agg #[.slice ao (len N) ca] := hdp 1 (by kernel_rfl)
      have ed2 : xv 2 = .agg #[.slice bo (len M) cb] := hdp 2 (by kernel_rfl)
      have ed3 : xv 3 = .agg #[.slice dq (len Q) cd] := hdp 3 (by kernel_rfl)
      clear hdp
      intro KK hKK
      go_simp
      refine (rMul_c h1.out hn.out hm1.out hk5.out ((E9.out.below hB).nt 4 rfl) ((E9.out.below hB).nt 3 rfl) ((E9.out.below hB).nt 1 rfl)).mono ?_
      rintro e WW' ⟨⟨ua, uk, rfl, hu⟩, hb⟩
      (try dsimp only)
      (try simp only [Act.put, List.setIfInBounds_toArray, List.set_cons_zero, List.set_cons_succ])
      exact act_eq (hKK.out _ _ hb ⟨_, _, rfl, hu⟩) (by first | rfl | simp [upd, ed1, ed2, ed3])
    refine List.forall_mem_cons.2 ⟨?_, ?_⟩
    · intro xv bv ev WW hB hdp
      refine op_of rfl ?_
      have ed0 : xv 0 = .agg #[.slice xa (len r1) xk] := hdp 0 (by kernel_rfl)
      obtain ⟨ua, uk, ed4, hu⟩ := (show (PNum (r1)) (xv 4) (bv 4) (ev 4) WW from hdp 4 (by kernel_rfl))
      clear hdp
      intro KK hKK
      go_simp
      refine (same_c (t := true) (by simp) ((E9.out.below hB).nt 0 rfl) hu.out).mono ?_
      rintro e WW' ⟨rfl, hb⟩
      (try dsimp only)
      (try simp only [Act.put, List.setIfInBounds_toArray, List.set_cons_zero, List.set_cons_succ])
      exact act_eq (hKK.out _ _ hb rfl) (by first | rfl | simp [upd, ed0, ed4])
    refine List.forall_mem_cons.2 ⟨?_, ?_⟩
    · intro xv bv ev WW hB hdp
      refine op_of rfl ?_
      have ed5 : xv 5 = .bool true := hdp 5 (by kernel_rfl)
      clear hdp
      intro KK hKK
      go_simp
      exact act_eq (hKK.out _ _ (Below.refl _ _) rfl) (by first | rfl | simp [upd, ed5])
    refine List.forall_mem_cons.2 ⟨?_, ?_⟩
    · intro xv bv ev WW hB hdp
      refine op_of rfl ?_
      have ed6 : xv 6 = .bool false := hdp 6 (by kernel_rfl)
      clear hdp
      intro KK hKK
      go_simp
      exact act_eq (hKK.out _ _ (Below.refl _ _) rfl) (by first | rfl | simp [upd, ed6])
    refine List.forall_mem_cons.2 ⟨?_, ?_⟩
    · intro xv bv ev WW hB hdp
      refine op_of rfl ?_
      have ed7 : xv 7 = .bool false := hdp 7 (by kernel_rfl)
      clear hdp
      intro KK hKK
      refine op_guard (d := 69) rfl rfl (by first | exact congrArg some ed7 | simp [ed7]) ?_
      go_simp
      exact act_eq (hKK.out _ _ (Below.refl _ _) rfl) (by first | rfl | simp [upd, ed7])
    refine List.forall_mem_cons.2 ⟨?_, ?_⟩
    · intro xv bv ev WW hB hdp
      refine op_of rfl ?_
      have ed8 : xv 8 = .int .i64 0 := hdp 8 (by kernel_rfl)
      have ed7 : xv 7 = .bool false := hdp 7 (by kernel_rfl)
      clear hdp
      intro KK hKK
      refine op_guard (d := 69) rfl rfl (by first | exact congrArg some ed7 | simp [ed7]) ?_
      go_simp
      exact act_eq (hKK.out _ _ (Below.refl _ _) rfl) (by first | rfl | simp [upd, ed8, ed7])
    refine List.forall_mem_cons.2 ⟨?_, ?_⟩
    · intro xv bv ev WW hB hdp
      refine op_of rfl ?_
      have ed7 : xv 7 = .bool false := hdp 7 (by kernel_rfl)
      have ed9 : xv 9 = .bool false := hdp 9 (by kernel_rfl)
      clear hdp
      intro KK hKK
      go_simp
      exact act_eq (hKK.out _ _ (Below.refl _ _) rfl) (by first | rfl | simp [upd, ed7, ed9])
    exact List.forall_mem_nil _
  intro xv bv ev w7 hB hR hO
  have ed0 : xv 0 = .agg #[.slice xa (len r1) xk] := hR 0 (by kernel_rfl)
  have ed1 : xv 1 = .agg #[.slice ao (len N) ca] := hR 1 (by kernel_rfl)
  have ed2 : xv 2 = .agg #[.slice bo (len M) cb] := hR 2 (by kernel_rfl)
  have ed3 : xv 3 = .agg #[.slice dq (len Q) cd] := hR 3 (by kernel_rfl)
  obtain ⟨ua, uk, ed4, hu⟩ := (show (PNum (r1)) (xv 4) (bv 4) (ev 4) w7 from hR 4 (by kernel_rfl))
  have ed5 : xv 5 = .bool true := hR 5 (by kernel_rfl)
  have ed6 : xv 6 = .bool false := hR 6 (by kernel_rfl)
  have ed7 : xv 7 = .bool false := hR 7 (by kernel_rfl)
  have ed8 : xv 8 = .int .i64 0 := hR 8 (by kernel_rfl)
  have ed9 : xv 9 = .bool false := hR 9 (by kernel_rfl)
  have ed10 : xv 10 = .bool false := hR 10 (by kernel_rfl)
  simp only [ed0, ed1, ed2, ed3, ed4, ed5, ed6, ed7, ed8, ed9, ed10]
  have E10 : Hid (EnvB w [(w5.heap.size, .slice ya 0 yk), (w4.heap.size, .slice xa (len r1) xk), (w.heap.size + 1 + 1 + 1, .slice dq (len Q) cd), (w.heap.size + 1 + 1, .slice co le.length cc), (w.heap.size + 1, .slice bo (len M) cb), (w.heap.size, .slice ao (len N) ca)] [(.slice ua (len r1) uk, digs r1), (.slice xa (len r1) xk, digs r1), (.slice dq (len Q) cd, digs Q), (.slice co le.length cc, le), (.slice bo (len M) cb, digs M), (.slice ao (len N) ca, digs N)] _) := Lib.hid (((E9.out.below hB).numN (hu.out : Nt _ _ (r1))))
  clear E9 hB hR hO bx0 bx1 bx2 bx3 ed0 ed1 ed2 ed3 ed4 ed5 ed6 ed7 ed8 ed9 ed10 hu
  refine wpAny_done (by kernel_rfl) ?_ _
  obtain ⟨p14, f14, -, -, -⟩ := E10.out.box 2 rfl
  obtain ⟨p15, f15, -, -, -⟩ := E10.out.box 5 rfl
  go_wp2_with fail
  refine (first1_c _ _ _ (digs N) _ _ _ (digs Q) j _ hj.out (E10.out.nt 2 rfl) (E10.out.nt 5 rfl) _ (by simp)).mono ?_
  rintro e w8 ⟨rfl, hb⟩
  have E11 : Hid (EnvB w [(w5.heap.size, .slice ya 0 yk), (w4.heap.size, .slice xa (len r1) xk), (w.heap.size + 1 + 1 + 1, .slice dq (len Q) cd), (w.heap.size + 1 + 1, .slice co le.length cc), (w.heap.size + 1, .slice bo (len M) cb), (w.heap.size, .slice ao (len N) ca)] [(.slice ua (len r1) uk, digs r1), (.slice xa (len r1) xk, digs r1), (.slice dq (len Q) cd, digs Q), (.slice co le.length cc, le), (.slice bo (len M) cb, digs M), (.slice ao (len N) ca, digs N)] _) := Lib.hid ((E10.out.below hb))
  clear p14 f14 p15 f15 E10 hb
  obtain ⟨p16, f16, -, -, -⟩ := E11.out.box 3 rfl
  go_wp2_with fail
  refine (rValid_of hv.out (E11.out.sl 3 rfl)).mono ?_
  rintro e w9 ⟨rfl, hb⟩
  have E12 : Hid (EnvB w [(w5.heap.size, .slice ya 0 yk), (w4.heap.size, .slice xa (len r1) xk), (w.heap.size + 1 + 1 + 1, .slice dq (len Q) cd), (w.heap.size + 1 + 1, .slice co le.length cc), (w.heap.size + 1, .slice bo (len M) cb), (w.heap.size, .slice ao (len N) ca)] [(.slice ua (len r1) uk, digs r1), (.slice xa (len r1) xk, digs r1), (.slice dq (len Q) cd, digs Q), (.slice co le.length cc, le), (.slice bo (len M) cb, digs M), (.slice ao (len N) ca, digs N)] _) := Lib.hid ((E11.out.below hb))
  clear p16 f16 E11 hb
  obtain ⟨p17, f17, -, -, -⟩ := E12.out.box 0 rfl
  have hfin := Lib.hid E12.out.1
  go_wp2
  go_ret
  exact ⟨rfl, hfin.out⟩
set_option maxRecDepth 100000 in
set_option maxHeartbeats 1000000 in
theorem Prod_10 (ao : Option Addr) (ca : Nat) (bo : Option Addr) (cb : Nat) (co : Option Addr) (cc : Nat) (dq : Option Addr) (cd : Nat) (N E Q : Nat) (lb : List Nat) (r2 : Nat) (w : World) (ha : Nt w (.slice ao (len N) ca) N) (hb : Sl w (.slice bo lb.length cb) lb) (hc : Nt w (.slice co (len E) cc) E) (hd : Nt w (.slice dq (len Q) cd) Q) (hf0 : len N ≤ 8 ∧ lb.length ≤ 8 ∧ len Q ≤ 8) (hf10 : len E ≤ 2) (hg0 : fstc (digs Q) [digs N, lb] = 1) (hj0 : fstc (digs Q) [digs N] = 0) (hv0 : vld (digs E) = true) (hn0 : N < Q) (hk0 : len Q ≤ 32) (hk50 : len Q ≤ 5000) (hk10 : len Q ≤ 1000) (h20 : N ^ E % Q = r2) (he0 : len E ≤ 64) (he10 : len E ≤ 1000) :
    Calls Try.prog 9 #[.agg #[.slice ao (len N) ca], .agg #[.slice bo lb.length cb], .agg #[.slice co (len E) cc], .agg #[.slice dq (len Q) cd]] w fun e w' => e = .returned (.bool true) ∧ Below w.heap.size w w' := by
  have hf := Lib.hid hf0
  have hf1 := Lib.hid hf10
  have hg := Lib.hid hg0
  have hj := Lib.hid hj0
  have hv := Lib.hid hv0
  have hn := Lib.hid hn0
  have hk := Lib.hid hk0
  have hk5 := Lib.hid hk50
  have hk1 := Lib.hid hk10
  have h2 := Lib.hid h20
  have he := Lib.hid he0
  have he1 := Lib.hid he10
  clear hf0 hf10 hg0 hj0 hv0 hn0 hk0 hk50 hk10 h20 he0 he10
  have E0 : Hid (EnvB w [] [(.slice dq (len Q) cd, digs Q), (.slice co (len E) cc, digs E), (.slice bo lb.length cb, lb), (.slice ao (len N) ca, digs N)] w) := Lib.hid (((((EnvB.start w).numN ha).num hb).numN hc).numN hd)
  clear ha hb hc hd
  go_enter Try.func9, Try.ntmps9
  go_wp2_with fail
  have E1 : Hid (EnvB w [(w.heap.size + 1 + 1 + 1, .slice dq (len Q) cd), (w.heap.size + 1 + 1, .slice co (len E) cc), (w.heap.size + 1, .slice bo lb.length cb), (w.heap.size, .slice ao (len N) ca)] [(.slice dq (len Q) cd, digs Q), (.slice co (len E) cc, digs E), (.slice bo lb.length cb, lb), (.slice ao (len N) ca, digs N)] _) := Lib.hid (((((E0.out.push (.slice ao (len N) ca) 24 ⟨_, _, _, rfl⟩ (w.heap.size) (by simp)).push (.slice bo lb.length cb) 24 ⟨_, _, _, rfl⟩ (w.heap.size + 1) (by simp)).push (.slice co (len E) cc) 24 ⟨_, _, _, rfl⟩ (w.heap.size + 1 + 1) (by simp)).push (.slice dq (len Q) cd) 24 ⟨_, _, _, rfl⟩ (w.heap.size + 1 + 1 + 1) (by simp)))
  refine (awake_c _).mono ?_
  rintro e w1 ⟨rfl, hb⟩
  have E2 : Hid (EnvB w [(w.heap.size + 1 + 1 + 1, .slice dq (len Q) cd), (w.heap.size + 1 + 1, .slice co (len E) cc), (w.heap.size + 1, .slice bo lb.length cb), (w.heap.size, .slice ao (len N) ca)] [(.slice dq (len Q) cd, digs Q), (.slice co (len E) cc, digs E), (.slice bo lb.length cb, lb), (.slice ao (len N) ca, digs N)] _) := Lib.hid ((E1.out.below hb))
  clear E1 E0 hb
  obtain ⟨p1, f1, -, -, -⟩ := E2.out.box 3 rfl
  obtain ⟨p2, f2, -, -, -⟩ := E2.out.box 2 rfl
  obtain ⟨p3, f3, -, -, -⟩ := E2.out.box 0 rfl
  go_wp2_with fail
  refine (few3_t _ _ _ (digs N) _ _ _ (lb) _ _ _ (digs Q) 8 _ (E2.out.nt 3 rfl) (E2.out.sl 2 rfl) (E2.out.nt 0 rfl) hf.out _ (by simp)).mono ?_
  rintro e w2 ⟨rfl, hb⟩
  have E3 : Hid (EnvB w [(w.heap.size + 1 + 1 + 1, .slice dq (len Q) cd), (w.heap.size + 1 + 1, .slice co (len E) cc), (w.heap.size + 1, .slice bo lb.length cb), (w.heap.size, .slice ao (len N) ca)] [(.slice dq (len Q) cd, digs Q), (.slice co (len E) cc, digs E), (.slice bo lb.length cb, lb), (.slice ao (len N) ca, digs N)] _) := Lib.hid ((E2.out.below hb))
  clear p1 f1 p2 f2 p3 f3 E2 hb
  obtain ⟨p4, f4, -, -, -⟩ := E3.out.box 1 rfl
  go_wp2_with fail
  refine (few1_t _ _ _ (digs E) 2 _ (E3.out.nt 1 rfl) hf1.out _ (by simp)).mono ?_
  rintro e w3 ⟨rfl, hb⟩
  have E4 : Hid (EnvB w [(w.heap.size + 1 + 1 + 1, .slice dq (len Q) cd), (w.heap.size + 1 + 1, .slice co (len E) cc), (w.heap.size + 1, .slice bo lb.length cb), (w.heap.size, .slice ao (len N) ca)] [(.slice dq (len Q) cd, digs Q), (.slice co (len E) cc, digs E), (.slice bo lb.length cb, lb), (.slice ao (len N) ca, digs N)] _) := Lib.hid ((E3.out.below hb))
  clear p4 f4 E3 hb
  obtain ⟨p5, f5, -, -, -⟩ := E4.out.box 3 rfl
  obtain ⟨p6, f6, -, -, -⟩ := E4.out.box 2 rfl
  obtain ⟨p7, f7, -, -, -⟩ := E4.out.box 0 rfl
  go_wp2_with fail
  refine (mul_z hg.out (by decide) (E4.out.nt 3 rfl) (E4.out.sl 2 rfl) (E4.out.nt 0 rfl)).mono ?_
  rintro e w4 ⟨⟨xa, xk, rfl⟩, hb⟩
  have E5 : Hid (EnvB w [(w.heap.size + 1 + 1 + 1, .slice dq (len Q) cd), (w.heap.size + 1 + 1, .slice co (len E) cc), (w.heap.size + 1, .slice bo lb.length cb), (w.heap.size, .slice ao (len N) ca)] [(.slice dq (len Q) cd, digs Q), (.slice co (len E) cc, digs E), (.slice bo lb.length cb, lb), (.slice ao (len N) ca, digs N)] _) := Lib.hid ((E4.out.below hb))
  clear p5 f5 p6 f6 p7 f7 E4 hb
  have E6 : Hid (EnvB w [(w4.heap.size, .slice xa 0 xk), (w.heap.size + 1 + 1 + 1, .slice dq (len Q) cd), (w.heap.size + 1 + 1, .slice co (len E) cc), (w.heap.size + 1, .slice bo lb.length cb), (w.heap.size, .slice ao (len N) ca)] [(.slice dq (len Q) cd, digs Q), (.slice co (len E) cc, digs E), (.slice bo lb.length cb, lb), (.slice ao (len N) ca, digs N)] _) := Lib.hid ((E5.out.push (.slice xa 0 xk) 24 ⟨_, _, _, rfl⟩ (w4.heap.size) (by simp)))
  obtain ⟨p8, f8, -, -, -⟩ := E6.out.box 4 rfl
  obtain ⟨p9, f9, -, -, -⟩ := E6.out.box 2 rfl
  obtain ⟨p10, f10, -, -, -⟩ := E6.out.box 1 rfl
  go_wp2_with fail
  refine (pow_m h2.out he.out hn.out hk.out (E6.out.nt 3 rfl) (E6.out.nt 1 rfl) (E6.out.nt 0 rfl)).mono ?_
  rintro e w5 ⟨⟨ya, yk, rfl, hy⟩, hb⟩
  have E7 : Hid (EnvB w [(w4.heap.size, .slice xa 0 xk), (w.heap.size + 1 + 1 + 1, .slice dq (len Q) cd), (w.heap.size + 1 + 1, .slice co (len E) cc), (w.heap.size + 1, .slice bo lb.length cb), (w.heap.size, .slice ao (len N) ca)] [(.slice ya (len r2) yk, digs r2), (.slice dq (len Q) cd, digs Q), (.slice co (len E) cc, digs E), (.slice bo lb.length cb, lb), (.slice ao (len N) ca, digs N)] _) := Lib.hid (((E6.out.below hb).numN (hy.out : Nt _ _ r2)))
  clear p8 f8 p9 f9 p10 f10 E6 E5 hb hy
  have E8 : Hid (EnvB w [(w5.heap.size, .slice ya (len r2) yk), (w4.heap.size, .slice xa 0 xk), (w.heap.size + 1 + 1 + 1, .slice dq (len Q) cd), (w.heap.size + 1 + 1, .slice co (len E) cc), (w.heap.size + 1, .slice bo lb.length cb), (w.heap.size, .slice ao (len N) ca)] [(.slice ya (len r2) yk, digs r2), (.slice dq (len Q) cd, digs Q), (.slice co (len E) cc, digs E), (.slice bo lb.length cb, lb), (.slice ao (len N) ca, digs N)] _) := Lib.hid ((E7.out.push (.slice ya (len r2) yk) 24 ⟨_, _, _, rfl⟩ (w5.heap.size) (by simp)))
  obtain ⟨p11, f11, -, -, -⟩ := E8.out.box 2 rfl
  obtain ⟨p12, f12, -, -, -⟩ := E8.out.box 5 rfl
  obtain ⟨p13, f13, -, -, -⟩ := E8.out.box 4 rfl
  go_wp2_with fail
  refine (first2_c _ _ _ (digs N) _ _ _ (lb) _ _ _ (digs Q) 1 _ hg.out (E8.out.nt 1 rfl) (E8.out.nt 4 rfl) (E8.out.sl 3 rfl) _ (by simp)).mono ?_
  rintro e w6 ⟨rfl, hb⟩
  have E9 : Hid (EnvB w [(w5.heap.size, .slice ya (len r2) yk), (w4.heap.size, .slice xa 0 xk), (w.heap.size + 1 + 1 + 1, .slice dq (len Q) cd), (w.heap.size + 1 + 1, .slice co (len E) cc), (w.heap.size + 1, .slice bo lb.length cb), (w.heap.size, .slice ao (len N) ca)] [(.slice ya (len r2) yk, digs r2), (.slice dq (len Q) cd, digs Q), (.slice co (len E) cc, digs E), (.slice bo lb.length cb, lb), (.slice ao (len N) ca, digs N)] _) := Lib.hid ((E8.out.below hb))
  clear p11 f11 p12 f12 p13 f13 E8 E7 hb
  obtain ⟨p14, f14, -, -, -⟩ := E9.out.box 1 rfl
  obtain ⟨p15, f15, -, -, -⟩ := E9.out.box 2 rfl
  obtain ⟨p16, f16, -, -, -⟩ := E9.out.box 5 rfl
  go_wp2_with fail
  refine (first1_c _ _ _ (digs N) _ _ _ (digs Q) 0 _ hj.out (E9.out.nt 1 rfl) (E9.out.nt 4 rfl) _ (by simp)).mono ?_
  rintro e w7 ⟨rfl, hb⟩
  have E10 : Hid (EnvB w [(w5.heap.size, .slice ya (len r2) yk), (w4.heap.size, .slice xa 0 xk), (w.heap.size + 1 + 1 + 1, .slice dq (len Q) cd), (w.heap.size + 1 + 1, .slice co (len E) cc), (w.heap.size + 1, .slice bo lb.length cb), (w.heap.size, .slice ao (len N) ca)] [(.slice ya (len r2) yk, digs r2), (.slice dq (len Q) cd, digs Q), (.slice co (len E) cc, digs E), (.slice bo lb.length cb, lb), (.slice ao (len N) ca, digs N)] _) := Lib.hid ((E9.out.below hb))
  clear p14 f14 p15 f15 p16 f16 E9 hb
  obtain ⟨p17, f17, -, -, -⟩ := E10.out.box 3 rfl
  go_wp2_with fail
  refine (rValid_of hv.out (E10.out.nt 2 rfl)).mono ?_
  rintro e w8 ⟨rfl, hb⟩
  have E11 : Hid (EnvB w [(w5.heap.size, .slice ya (len r2) yk), (w4.heap.size, .slice xa 0 xk), (w.heap.size + 1 + 1 + 1, .slice dq (len Q) cd), (w.heap.size + 1 + 1, .slice co (len E) cc), (w.heap.size + 1, .slice bo lb.length cb), (w.heap.size, .slice ao (len N) ca)] [(.slice ya (len r2) yk, digs r2), (.slice dq (len Q) cd, digs Q), (.slice co (len E) cc, digs E), (.slice bo lb.length cb, lb), (.slice ao (len N) ca, digs N)] _) := Lib.hid ((E10.out.below hb))
  clear p17 f17 E10 hb
  go_wp2_with fail
  have bx0 := Lib.hid (E11.out.box 0 rfl)
  have bx1 := Lib.hid (E11.out.box 5 rfl)
  have bx2 := Lib.hid (E11.out.box 3 rfl)
  have bx3 := Lib.hid (E11.out.box 2 rfl)
  refine' wp_region_phase (by kernel_rfl) [0, 1, 2, 3, 4, 5, 6, 7, 8, 9] (by kernel_rfl) #[true, true, true, true, true, true, true, true, true, true, false] (by kernel_rfl) 1 (by kernel_rfl) [PEq (.agg #[.slice ya (len r2) yk]), PEq (.agg #[.slice ao (len N) ca]), PEq (.agg #[.slice co (len E) cc]), PEq (.agg #[.slice dq (len Q) cd]), PNum (r2), PEq (.bool true), PEq (.bool true), PEq (.int .i64 0), PEq (.bool true), PEq (.bool true), Fact.none] (List.forall_mem_cons.2 ⟨PEq.st _, List.forall_mem_cons.2 ⟨PEq.st _, List.forall_mem_cons.2 ⟨PEq.st _, List.forall_mem_cons.2 ⟨PEq.st _, List.forall_mem_cons.2 ⟨PNum.st _, List.forall_mem_cons.2 ⟨PEq.st _, List.forall_mem_cons.2 ⟨PEq.st _, List.forall_mem_cons.2 ⟨PEq.st _, List.forall_mem_cons.2 ⟨PEq.st _, List.forall_mem_cons.2 ⟨PEq.st _, List.forall_mem_cons.2 ⟨Fact.none_st, List.forall_mem_nil _⟩⟩⟩⟩⟩⟩⟩⟩⟩⟩⟩) _ ?hFr4 ?stepr4 ?doner4
  case hFr4 => intro x; simp only [frameL, Act.put, List.setIfInBounds_toArray, List.set_cons_zero, List.set_cons_succ, Nat.zero_add, Nat.reduceAdd]; exact rfl
  case stepr4 =>
    refine List.forall_mem_cons.2 ⟨?_, ?_⟩
    · intro xv bv ev WW hB hdp
      refine op_of rfl ?_
      clear hdp
      intro KK hKK
      obtain ⟨z, -, -, -, -⟩ := bx0.out.below hB
      go_simp
      exact act_eq (hKK.out (.agg #[.slice ya (len r2) yk]) _ (Below.refl _ _) rfl) (by first | rfl | simp [upd])
    refine List.forall_mem_cons.2 ⟨?_, ?_⟩
    · intro xv bv ev WW hB hdp
      refine op_of rfl ?_
      clear hdp
      intro KK hKK
      obtain ⟨z, -, -, -, -⟩ := bx1.out.below hB
      go_simp
      exact act_eq (hKK.out (.agg #[.slice ao (len N) ca]) _ (Below.refl _ _) rfl) (by first | rfl | simp [upd])
    refine List.forall_mem_cons.2 ⟨?_, ?_⟩
    · intro xv bv ev WW hB hdp
      refine op_of rfl ?_
      clear hdp
      intro KK hKK
      obtain ⟨z, -, -, -, -⟩ := bx2.out.below hB
      go_simp
      exact act_eq (hKK.out (.agg #[.slice co (len E) cc]) _ (Below.refl _ _) rfl) (by first | rfl | simp [upd])
    refine List.forall_mem_cons.2 ⟨?_, ?_⟩
    · intro xv bv ev WW hB hdp
      refine op_of rfl ?_
      clear hdp
      intro KK hKK
      obtain ⟨z, -, -, -, -⟩ := bx3.out.below hB
      go_simp
      exact act_eq (hKK.out (.agg #[.slice dq (len Q) cd]) _ (Below.refl _ _) rfl) (by first | rfl | simp [upd])
    refine List.forall_mem_cons.2 ⟨?_, ?_⟩
    · intro xv bv ev WW hB hdp
      refine op_of rfl ?_
      have ed1 : xv 1 = .agg #[.slice ao (len N) ca] := hdp 1 (by kernel_rfl)
      have ed2 : xv 2 = .agg #[.slice co (len E) cc] := hdp 2 (by kernel_rfl)
      have ed3 : xv 3 = .agg #[.slice dq (len Q) cd] := hdp 3 (by kernel_rfl)
      clear hdp
      intro KK hKK
      go_simp
      refine (rPow_c h2.out he1.out hn.out hk1.out ((E11.out.below hB).nt 4 rfl) ((E11.out.below hB).nt 2 rfl) ((E11.out.below hB).nt 1 rfl)).mono ?_
      rintro e WW' ⟨⟨va, vk, rfl, hv⟩, hb⟩
      (try dsimp only)
      (try simp only [Act.put, List.setIfInBounds_toArray, List.set_cons_zero, List.set_cons_succ])
      exact act_eq (hKK.out _ _ hb ⟨_, _, rfl, hv⟩) (by first | rfl | simp [upd, ed1, ed2, ed3])
    refine List.forall_mem_cons.2 ⟨?_, ?_⟩
    · intro xv bv ev WW hB hdp
      refine op_of rfl ?_
      have ed0 : xv 0 = .agg #[.slice ya (len r2) yk] := hdp 0 (by kernel_rfl)
      obtain ⟨va, vk, ed4, hv⟩ := (show (PNum (r2)) (xv 4) (bv 4) (ev 4) WW from hdp 4 (by kernel_rfl))
      clear hdp
      intro KK hKK
      go_simp
      refine (same_c (t := true) (by simp) ((E11.out.below hB).nt 0 rfl) hv.out).mono ?_
      rintro e WW' ⟨rfl, hb⟩
      (try dsimp only)
      (try simp only [Act.put, List.setIfInBounds_toArray, List.set_cons_zero, List.set_cons_succ])
      exact act_eq (hKK.out _ _ hb rfl) (by first | rfl | simp [upd, ed0, ed4])
    refine List.forall_mem_cons.2 ⟨?_, ?_⟩
    · intro xv bv ev WW hB hdp
      refine op_of rfl ?_
      have ed5 : xv 5 = .bool true := hdp 5 (by kernel_rfl)
      clear hdp
      intro KK hKK
      go_simp
      exact act_eq (hKK.out _ _ (Below.refl _ _) rfl) (by first | rfl | simp [upd, ed5])
    refine List.forall_mem_cons.2 ⟨?_, ?_⟩
    · intro xv bv ev WW hB hdp
      refine op_of rfl ?_
      have ed6 : xv 6 = .bool true := hdp 6 (by kernel_rfl)
      clear hdp
      intro KK hKK
      refine op_guard (d := 97) rfl rfl (by first | exact congrArg some ed6 | simp [ed6]) ?_
      go_simp
      exact act_eq (hKK.out _ _ (Below.refl _ _) rfl) (by first | rfl | simp [upd, ed6])
    refine List.forall_mem_cons.2 ⟨?_, ?_⟩
    · intro xv bv ev WW hB hdp
      refine op_of rfl ?_
      have ed7 : xv 7 = .int .i64 0 := hdp 7 (by kernel_rfl)
      have ed6 : xv 6 = .bool true := hdp 6 (by kernel_rfl)
      clear hdp
      intro KK hKK
      refine op_guard (d := 97) rfl rfl (by first | exact congrArg some ed6 | simp [ed6]) ?_
      go_simp
      exact act_eq (hKK.out _ _ (Below.refl _ _) rfl) (by first | rfl | simp [upd, ed7, ed6])
    refine List.forall_mem_cons.2 ⟨?_, ?_⟩
    · intro xv bv ev WW hB hdp
      refine op_of rfl ?_
      have ed6 : xv 6 = .bool true := hdp 6 (by kernel_rfl)
      have ed8 : xv 8 = .bool true := hdp 8 (by kernel_rfl)
      clear hdp
      intro KK hKK
      go_simp
      exact act_eq (hKK.out _ _ (Below.refl _ _) rfl) (by first | rfl | simp [upd, ed6, ed8])
    exact List.forall_mem_nil _
  intro xv bv ev w9 hB hR hO
  have ed0 : xv 0 = .agg #[.slice ya (len r2) yk] := hR 0 (by kernel_rfl)
  have ed1 : xv 1 = .agg #[.slice ao (len N) ca] := hR 1 (by kernel_rfl)
  have ed2 : xv 2 = .agg #[.slice co (len E) cc] := hR 2 (by kernel_rfl)
  have ed3 : xv 3 = .agg #[.slice dq (len Q) cd] := hR 3 (by kernel_rfl)
  obtain ⟨va, vk, ed4, hv⟩ := (show (PNum (r2)) (xv 4) (bv 4) (ev 4) w9 from hR 4 (by kernel_rfl))
  have ed5 : xv 5 = .bool true := hR 5 (by kernel_rfl)
  have ed6 : xv 6 = .bool true := hR 6 (by kernel_rfl)
  have ed7 : xv 7 = .int .i64 0 := hR 7 (by kernel_rfl)
  have ed8 : xv 8 = .bool true := hR 8 (by kernel_rfl)
  have ed9 : xv 9 = .bool true := hR 9 (by kernel_rfl)
  simp only [ed0, ed1, ed2, ed3, ed4, ed5, ed6, ed7, ed8, ed9]
  have E12 : Hid (EnvB w [(w5.heap.size, .slice ya (len r2) yk), (w4.heap.size, .slice xa 0 xk), (w.heap.size + 1 + 1 + 1, .slice dq (len Q) cd), (w.heap.size + 1 + 1, .slice co (len E) cc), (w.heap.size + 1, .slice bo lb.length cb), (w.heap.size, .slice ao (len N) ca)] [(.slice va (len r2) vk, digs r2), (.slice ya (len r2) yk, digs r2), (.slice dq (len Q) cd, digs Q), (.slice co (len E) cc, digs E), (.slice bo lb.length cb, lb), (.slice ao (len N) ca, digs N)] _) := Lib.hid (((E11.out.below hB).numN (hv.out : Nt _ _ (r2))))
  clear E11 hB hR hO bx0 bx1 bx2 bx3 ed0 ed1 ed2 ed3 ed4 ed5 ed6 ed7 ed8 ed9 hv
  refine wpAny_next (i := 10) (by kernel_rfl) rfl (fun KK hKK => ?_)
  go_simp
  refine hKK.out _ _ ?_
  clear hKK KK
  refine wpAny_done (by kernel_rfl) ?_ _
  have hfin := Lib.hid E12.out.1
  go_wp2
  go_ret
  exact ⟨rfl, hfin.out⟩
set_option maxRecDepth 100000 in
set_option maxHeartbeats 1000000 in
theorem Prod_1inv (ao : Option Addr) (ca : Nat) (bo : Option Addr) (cb : Nat) (co : Option Addr) (cc : Nat) (dq : Option Addr) (cd : Nat) (la lb le lm : List Nat) (j : Int) (w : World) (ha : Sl w (.slice ao la.length ca) la) (hb : Sl w (.slice bo lb.length cb) lb) (hc : Sl w (.slice co le.length cc) le) (hd : Sl w (.slice dq lm.length cd) lm) (hf0 : la.length ≤ 8 ∧ lb.length ≤ 8 ∧ lm.length ≤ 8) (hf10 : le.length ≤ 2) (hg0 : fstc (lm) [la, lb] = 1) (hj0 : fstc (lm) [la] = j) (hv0 : vld le = false) :
    Calls Try.prog 9 #[.agg #[.slice ao la.length ca], .agg #[.slice bo lb.length cb], .agg #[.slice co le.length cc], .agg #[.slice dq lm.length cd]] w fun e w' => e = .returned (.bool true) ∧ Below w.heap.size w w' := by
  have hf := Lib.hid hf0
  have hf1 := Lib.hid hf10
  have hg := Lib.hid hg0
  have hj := Lib.hid hj0
  have hv := Lib.hid hv0
  clear hf0 hf10 hg0 hj0 hv0
  have E0 : Hid (EnvB w [] [(.slice dq lm.length cd, lm), (.slice co le.length cc, le), (.slice bo lb.length cb, lb), (.slice ao la.length ca, la)] w) := Lib.hid (((((EnvB.start w).num ha).num hb).num hc).num hd)
  clear ha hb hc hd
  go_enter Try.func9, Try.ntmps9
  go_wp2_with fail
  have E1 : Hid (EnvB w [(w.heap.size + 1 + 1 + 1, .slice dq lm.length cd), (w.heap.size + 1 + 1, .slice co le.length cc), (w.heap.size + 1, .slice bo lb.length cb), (w.heap.size, .slice ao la.length ca)] [(.slice dq lm.length cd, lm), (.slice co le.length cc, le), (.slice bo lb.length cb, lb), (.slice ao la.length ca, la)] _) := Lib.hid (((((E0.out.push (.slice ao la.length ca) 24 ⟨_, _, _, rfl⟩ (w.heap.size) (by simp)).push (.slice bo lb.length cb) 24 ⟨_, _, _, rfl⟩ (w.heap.size + 1) (by simp)).push (.slice co le.length cc) 24 ⟨_, _, _, rfl⟩ (w.heap.size + 1 + 1) (by simp)).push (.slice dq lm.length cd) 24 ⟨_, _, _, rfl⟩ (w.heap.size + 1 + 1 + 1) (by simp)))
  refine (awake_c _).mono ?_
  rintro e w1 ⟨rfl, hb⟩
  have E2 : Hid (EnvB w [(w.heap.size + 1 + 1 + 1, .slice dq lm.length cd), (w.heap.size + 1 + 1, .slice co le.length cc), (w.heap.size + 1, .slice bo lb.length cb), (w.heap.size, .slice ao la.length ca)] [(.slice dq lm.length cd, lm), (.slice co le.length cc, le), (.slice bo lb.length cb, lb), (.slice ao la.length ca, la)] _) := Lib.hid ((E1.out.below hb))
  clear E1 E0 hb
  obtain ⟨p1, f1, -, -, -⟩ := E2.out.box 3 rfl
  obtain ⟨p2, f2, -, -, -⟩ := E2.out.box 2 rfl
  obtain ⟨p3, f3, -, -, -⟩ := E2.out.box 0 rfl
  go_wp2_with fail
  refine (few3_t _ _ _ (la) _ _ _ (lb) _ _ _ (lm) 8 _ (E2.out.sl 3 rfl) (E2.out.sl 2 rfl) (E2.out.sl 0 rfl) hf.out _ (by simp)).mono ?_
  rintro e w2 ⟨rfl, hb⟩
  have E3 : Hid (EnvB w [(w.heap.size + 1 + 1 + 1, .slice dq lm.length cd), (w.heap.size + 1 + 1, .slice co le.length cc), (w.heap.size + 1, .slice bo lb.length cb), (w.heap.size, .slice ao la.length ca)] [(.slice dq lm.length cd, lm), (.slice co le.length cc, le), (.slice bo lb.length cb, lb), (.slice ao la.length ca, la)] _) := Lib.hid ((E2.out.below hb))
  clear p1 f1 p2 f2 p3 f3 E2 hb
  obtain ⟨p4, f4, -, -, -⟩ := E3.out.box 1 rfl
  go_wp2_with fail
  refine (few1_t _ _ _ (le) 2 _ (E3.out.sl 1 rfl) hf1.out _ (by simp)).mono ?_
  rintro e w3 ⟨rfl, hb⟩
  have E4 : Hid (EnvB w [(w.heap.size + 1 + 1 + 1, .slice dq lm.length cd), (w.heap.size + 1 + 1, .slice co le.length cc), (w.heap.size + 1, .slice bo lb.length cb), (w.heap.size, .slice ao la.length ca)] [(.slice dq lm.length cd, lm), (.slice co le.length cc, le), (.slice bo lb.length cb, lb), (.slice ao la.length ca, la)] _) := Lib.hid ((E3.out.below hb))
  clear p4 f4 E3 hb
  obtain ⟨p5, f5, -, -, -⟩ := E4.out.box 3 rfl
  obtain ⟨p6, f6, -, -, -⟩ := E4.out.box 2 rfl
  obtain ⟨p7, f7, -, -, -⟩ := E4.out.box 0 rfl
  go_wp2_with fail
  refine (mul_z hg.out (by decide) (E4.out.sl 3 rfl) (E4.out.sl 2 rfl) (E4.out.sl 0 rfl)).mono ?_
  rintro e w4 ⟨⟨xa, xk, rfl⟩, hb⟩
  have E5 : Hid (EnvB w [(w.heap.size + 1 + 1 + 1, .slice dq lm.length cd), (w.heap.size + 1 + 1, .slice co le.length cc), (w.heap.size + 1, .slice bo lb.length cb), (w.heap.size, .slice ao la.length ca)] [(.slice dq lm.length cd, lm), (.slice co le.length cc, le), (.slice bo lb.length cb, lb), (.slice ao la.length ca, la)] _) := Lib.hid ((E4.out.below hb))
  clear p5 f5 p6 f6 p7 f7 E4 hb
  have E6 : Hid (EnvB w [(w4.heap.size, .slice xa 0 xk), (w.heap.size + 1 + 1 + 1, .slice dq lm.length cd), (w.heap.size + 1 + 1, .slice co le.length cc), (w.heap.size + 1, .slice bo lb.length cb), (w.heap.size, .slice ao la.length ca)] [(.slice dq lm.length cd, lm), (.slice co le.length cc, le), (.slice bo lb.length cb, lb), (.slice ao la.length ca, la)] _) := Lib.hid ((E5.out.push (.slice xa 0 xk) 24 ⟨_, _, _, rfl⟩ (w4.heap.size) (by simp)))
  obtain ⟨p8, f8, -, -, -⟩ := E6.out.box 4 rfl
  obtain ⟨p9, f9, -, -, -⟩ := E6.out.box 2 rfl
  obtain ⟨p10, f10, -, -, -⟩ := E6.out.box 1 rfl
  go_wp2_with fail
  refine (pow_z1 hv.out (E6.out.sl 3 rfl) (E6.out.sl 1 rfl) (E6.out.sl 0 rfl)).mono ?_
  rintro e w5 ⟨⟨ya, yk, rfl⟩, hb⟩
  have E7 : Hid (EnvB w [(w4.heap.size, .slice xa 0 xk), (w.heap.size + 1 + 1 + 1, .slice dq lm.length cd), (w.heap.size + 1 + 1, .slice co le.length cc), (w.heap.size + 1, .slice bo lb.length cb), (w.heap.size, .slice ao la.length ca)] [(.slice dq lm.length cd, lm), (.slice co le.length cc, le), (.slice bo lb.length cb, lb), (.slice ao la.length ca, la)] _) := Lib.hid ((E6.out.below hb))
  clear p8 f8 p9 f9 p10 f10 E6 E5 hb
  have E8 : Hid (EnvB w [(w5.heap.size, .slice ya 0 yk), (w4.heap.size, .slice xa 0 xk), (w.heap.size + 1 + 1 + 1, .slice dq lm.length cd), (w.heap.size + 1 + 1, .slice co le.length cc), (w.heap.size + 1, .slice bo lb.length cb), (w.heap.size, .slice ao la.length ca)] [(.slice dq lm.length cd, lm), (.slice co le.length cc, le), (.slice bo lb.length cb, lb), (.slice ao la.length ca, la)] _) := Lib.hid ((E7.out.push (.slice ya 0 yk) 24 ⟨_, _, _, rfl⟩ (w5.heap.size) (by simp)))
  obtain ⟨p11, f11, -, -, -⟩ := E8.out.box 2 rfl
  obtain ⟨p12, f12, -, -, -⟩ := E8.out.box 5 rfl
  obtain ⟨p13, f13, -, -, -⟩ := E8.out.box 4 rfl
  go_wp2_with fail
  refine (first2_c _ _ _ (la) _ _ _ (lb) _ _ _ (lm) 1 _ hg.out (E8.out.sl 0 rfl) (E8.out.sl 3 rfl) (E8.out.sl 2 rfl) _ (by simp)).mono ?_
  rintro e w6 ⟨rfl, hb⟩
  have E9 : Hid (EnvB w [(w5.heap.size, .slice ya 0 yk), (w4.heap.size, .slice xa 0 xk), (w.heap.size + 1 + 1 + 1, .slice dq lm.length cd), (w.heap.size + 1 + 1, .slice co le.length cc), (w.heap.size + 1, .slice bo lb.length cb), (w.heap.size, .slice ao la.length ca)] [(.slice dq lm.length cd, lm), (.slice co le.length cc, le), (.slice bo lb.length cb, lb), (.slice ao la.length ca, la)] _) := Lib.hid ((E8.out.below hb))
  clear p11 f11 p12 f12 p13 f13 E8 E7 hb
  obtain ⟨p14, f14, -, -, -⟩ := E9.out.box 1 rfl
  obtain ⟨p15, f15, -, -, -⟩ := E9.out.box 2 rfl
  obtain ⟨p16, f16, -, -, -⟩ := E9.out.box 5 rfl
  go_wp2_with fail
  refine (first1_c _ _ _ (la) _ _ _ (lm) j _ hj.out (E9.out.sl 0 rfl) (E9.out.sl 3 rfl) _ (by simp)).mono ?_
  rintro e w7 ⟨rfl, hb⟩
  have E10 : Hid (EnvB w [(w5.heap.size, .slice ya 0 yk), (w4.heap.size, .slice xa 0 xk), (w.heap.size + 1 + 1 + 1, .slice dq lm.length cd), (w.heap.size + 1 + 1, .slice co le.length cc), (w.heap.size + 1, .slice bo lb.length cb), (w.heap.size, .slice ao la.length ca)] [(.slice dq lm.length cd, lm), (.slice co le.length cc, le), (.slice bo lb.length cb, lb), (.slice ao la.length ca, la)] _) := Lib.hid ((E9.out.below hb))
  clear p14 f14 p15 f15 p16 f16 E9 hb
  obtain ⟨p17, f17, -, -, -⟩ := E10.out.box 3 rfl
  go_wp2_with fail
  refine (rValid_of hv.out (E10.out.sl 1 rfl)).mono ?_
  rintro e w8 ⟨rfl, hb⟩
  have E11 : Hid (EnvB w [(w5.heap.size, .slice ya 0 yk), (w4.heap.size, .slice xa 0 xk), (w.heap.size + 1 + 1 + 1, .slice dq lm.length cd), (w.heap.size + 1 + 1, .slice co le.length cc), (w.heap.size + 1, .slice bo lb.length cb), (w.heap.size, .slice ao la.length ca)] [(.slice dq lm.length cd, lm), (.slice co le.length cc, le), (.slice bo lb.length cb, lb), (.slice ao la.length ca, la)] _) := Lib.hid ((E10.out.below hb))
  clear p17 f17 E10 hb
  obtain ⟨p18, f18, -, -, -⟩ := E11.out.box 0 rfl
  have hfin := Lib.hid E11.out.1
  go_wp2
  go_ret
  exact ⟨rfl, hfin.out⟩
set_option maxRecDepth 100000 in
set_option maxHeartbeats 1000000 in
theorem Prod_11 (ao : Option Addr) (ca : Nat) (bo : Option Addr) (cb : Nat) (co : Option Addr) (cc : Nat) (dq : Option Addr) (cd : Nat) (la lb le lm : List Nat)  (w : World) (ha : Sl w (.slice ao la.length ca) la) (hb : Sl w (.slice bo lb.length cb) lb) (hc : Sl w (.slice co le.length cc) le) (hd : Sl w (.slice dq lm.length cd) lm) (hf0 : la.length ≤ 8 ∧ lb.length ≤ 8 ∧ lm.length ≤ 8) (hf10 : le.length ≤ 2) (hg0 : fstc (lm) [la, lb] = 1) (hj0 : fstc (lm) [la] = 1) (hv0 : vld (le) = true) :
    Calls Try.prog 9 #[.agg #[.slice ao la.length ca], .agg #[.slice bo lb.length cb], .agg #[.slice co le.length cc], .agg #[.slice dq lm.length cd]] w fun e w' => e = .returned (.bool true) ∧ Below w.heap.size w w' := by
  have hf := Lib.hid hf0
  have hf1 := Lib.hid hf10
  have hg := Lib.hid hg0
  have hj := Lib.hid hj0
  have hv := Lib.hid hv0
  clear hf0 hf10 hg0 hj0 hv0
  have E0 : Hid (EnvB w [] [(.slice dq lm.length cd, lm), (.slice co le.length cc, le), (.slice bo lb.length cb, lb), (.slice ao la.length ca, la)] w) := Lib.hid (((((EnvB.start w).num ha).num hb).num hc).num hd)
  clear ha hb hc hd
  go_enter Try.func9, Try.ntmps9
  go_wp2_with fail
  have E1 : Hid (EnvB w [(w.heap.size + 1 + 1 + 1, .slice dq lm.length cd), (w.heap.size + 1 + 1, .slice co le.length cc), (w.heap.size + 1, .slice bo lb.length cb), (w.heap.size, .slice ao la.length ca)] [(.slice dq lm.length cd, lm), (.slice co le.length cc, le), (.slice bo lb.length cb, lb), (.slice ao la.length ca, la)] _) := Lib.hid (((((E0.out.push (.slice ao la.length ca) 24 ⟨_, _, _, rfl⟩ (w.heap.size) (by simp)).push (.slice bo lb.length cb) 24 ⟨_, _, _, rfl⟩ (w.heap.size + 1) (by simp)).push (.slice co le.length cc) 24 ⟨_, _, _, rfl⟩ (w.heap.size + 1 + 1) (by simp)).push (.slice dq lm.length cd) 24 ⟨_, _, _, rfl⟩ (w.heap.size + 1 + 1 + 1) (by simp)))
  refine (awake_c _).mono ?_
  rintro e w1 ⟨rfl, hb⟩
  have E2 : Hid (EnvB w [(w.heap.size + 1 + 1 + 1, .slice dq lm.length cd), (w.heap.size + 1 + 1, .slice co le.length cc), (w.heap.size + 1, .slice bo lb.length cb), (w.heap.size, .slice ao la.length ca)] [(.slice dq lm.length cd, lm), (.slice co le.length cc, le), (.slice bo lb.length cb, lb), (.slice ao la.length ca, la)] _) := Lib.hid ((E1.out.below hb))
  clear E1 E0 hb
  obtain ⟨p1, f1, -, -, -⟩ := E2.out.box 3 rfl
  obtain ⟨p2, f2, -, -, -⟩ := E2.out.box 2 rfl
  obtain ⟨p3, f3, -, -, -⟩ := E2.out.box 0 rfl
  go_wp2_with fail
  refine (few3_t _ _ _ (la) _ _ _ (lb) _ _ _ (lm) 8 _ (E2.out.sl 3 rfl) (E2.out.sl 2 rfl) (E2.out.sl 0 rfl) hf.out _ (by simp)).mono ?_
  rintro e w2 ⟨rfl, hb⟩
  have E3 : Hid (EnvB w [(w.heap.size + 1 + 1 + 1, .slice dq lm.length cd), (w.heap.size + 1 + 1, .slice co le.length cc), (w.heap.size + 1, .slice bo lb.length cb), (w.heap.size, .slice ao la.length ca)] [(.slice dq lm.length cd, lm), (.slice co le.length cc, le), (.slice bo lb.length cb, lb), (.slice ao la.length ca, la)] _) := Lib.hid ((E2.out.below hb))
  clear p1 f1 p2 f2 p3 f3 E2 hb
  obtain ⟨p4, f4, -, -, -⟩ := E3.out.box 1 rfl
  go_wp2_with fail
  refine (few1_t _ _ _ (le) 2 _ (E3.out.sl 1 rfl) hf1.out _ (by simp)).mono ?_
  rintro e w3 ⟨rfl, hb⟩
  have E4 : Hid (EnvB w [(w.heap.size + 1 + 1 + 1, .slice dq lm.length cd), (w.heap.size + 1 + 1, .slice co le.length cc), (w.heap.size + 1, .slice bo lb.length cb), (w.heap.size, .slice ao la.length ca)] [(.slice dq lm.length cd, lm), (.slice co le.length cc, le), (.slice bo lb.length cb, lb), (.slice ao la.length ca, la)] _) := Lib.hid ((E3.out.below hb))
  clear p4 f4 E3 hb
  obtain ⟨p5, f5, -, -, -⟩ := E4.out.box 3 rfl
  obtain ⟨p6, f6, -, -, -⟩ := E4.out.box 2 rfl
  obtain ⟨p7, f7, -, -, -⟩ := E4.out.box 0 rfl
  go_wp2_with fail
  refine (mul_z hg.out (by decide) (E4.out.sl 3 rfl) (E4.out.sl 2 rfl) (E4.out.sl 0 rfl)).mono ?_
  rintro e w4 ⟨⟨xa, xk, rfl⟩, hb⟩
  have E5 : Hid (EnvB w [(w.heap.size + 1 + 1 + 1, .slice dq lm.length cd), (w.heap.size + 1 + 1, .slice co le.length cc), (w.heap.size + 1, .slice bo lb.length cb), (w.heap.size, .slice ao la.length ca)] [(.slice dq lm.length cd, lm), (.slice co le.length cc, le), (.slice bo lb.length cb, lb), (.slice ao la.length ca, la)] _) := Lib.hid ((E4.out.below hb))
  clear p5 f5 p6 f6 p7 f7 E4 hb
  have E6 : Hid (EnvB w [(w4.heap.size, .slice xa 0 xk), (w.heap.size + 1 + 1 + 1, .slice dq lm.length cd), (w.heap.size + 1 + 1, .slice co le.length cc), (w.heap.size + 1, .slice bo lb.length cb), (w.heap.size, .slice ao la.length ca)] [(.slice dq lm.length cd, lm), (.slice co le.length cc, le), (.slice bo lb.length cb, lb), (.slice ao la.length ca, la)] _) := Lib.hid ((E5.out.push (.slice xa 0 xk) 24 ⟨_, _, _, rfl⟩ (w4.heap.size) (by simp)))
  obtain ⟨p8, f8, -, -, -⟩ := E6.out.box 4 rfl
  obtain ⟨p9, f9, -, -, -⟩ := E6.out.box 2 rfl
  obtain ⟨p10, f10, -, -, -⟩ := E6.out.box 1 rfl
  go_wp2_with fail
  refine (pow_z2 hv.out hj.out (by decide) (E6.out.sl 3 rfl) (E6.out.sl 1 rfl) (E6.out.sl 0 rfl)).mono ?_
  rintro e w5 ⟨⟨ya, yk, rfl⟩, hb⟩
  have E7 : Hid (EnvB w [(w4.heap.size, .slice xa 0 xk), (w.heap.size + 1 + 1 + 1, .slice dq lm.length cd), (w.heap.size + 1 + 1, .slice co le.length cc), (w.heap.size + 1, .slice bo lb.length cb), (w.heap.size, .slice ao la.length ca)] [(.slice dq lm.length cd, lm), (.slice co le.length cc, le), (.slice bo lb.length cb, lb), (.slice ao la.length ca, la)] _) := Lib.hid ((E6.out.below hb))
  clear p8 f8 p9 f9 p10 f10 E6 E5 hb
  have E8 : Hid (EnvB w [(w5.heap.size, .slice ya 0 yk), (w4.heap.size, .slice xa 0 xk), (w.heap.size + 1 + 1 + 1, .slice dq lm.length cd), (w.heap.size + 1 + 1, .slice co le.length cc), (w.heap.size + 1, .slice bo lb.length cb), (w.heap.size, .slice ao la.length ca)] [(.slice dq lm.length cd, lm), (.slice co le.length cc, le), (.slice bo lb.length cb, lb), (.slice ao la.length ca, la)] _) := Lib.hid ((E7.out.push (.slice ya 0 yk) 24 ⟨_, _, _, rfl⟩ (w5.heap.size) (by simp)))
  obtain ⟨p11, f11, -, -, -⟩ := E8.out.box 2 rfl
  obtain ⟨p12, f12, -, -, -⟩ := E8.out.box 5 rfl
  obtain ⟨p13, f13, -, -, -⟩ := E8.out.box 4 rfl
  go_wp2_with fail
  refine (first2_c _ _ _ (la) _ _ _ (lb) _ _ _ (lm) 1 _ hg.out (E8.out.sl 0 rfl) (E8.out.sl 3 rfl) (E8.out.sl 2 rfl) _ (by simp)).mono ?_
  rintro e w6 ⟨rfl, hb⟩
  have E9 : Hid (EnvB w [(w5.heap.size, .slice ya 0 yk), (w4.heap.size, .slice xa 0 xk), (w.heap.size + 1 + 1 + 1, .slice dq lm.length cd), (w.heap.size + 1 + 1, .slice co le.length cc), (w.heap.size + 1, .slice bo lb.length cb), (w.heap.size, .slice ao la.length ca)] [(.slice dq lm.length cd, lm), (.slice co le.length cc, le), (.slice bo lb.length cb, lb), (.slice ao la.length ca, la)] _) := Lib.hid ((E8.out.below hb))
  clear p11 f11 p12 f12 p13 f13 E8 E7 hb
  obtain ⟨p14, f14, -, -, -⟩ := E9.out.box 1 rfl
  obtain ⟨p15, f15, -, -, -⟩ := E9.out.box 2 rfl
  obtain ⟨p16, f16, -, -, -⟩ := E9.out.box 5 rfl
  go_wp2_with fail
  refine (first1_c _ _ _ (la) _ _ _ (lm) 1 _ hj.out (E9.out.sl 0 rfl) (E9.out.sl 3 rfl) _ (by simp)).mono ?_
  rintro e w7 ⟨rfl, hb⟩
  have E10 : Hid (EnvB w [(w5.heap.size, .slice ya 0 yk), (w4.heap.size, .slice xa 0 xk), (w.heap.size + 1 + 1 + 1, .slice dq lm.length cd), (w.heap.size + 1 + 1, .slice co le.length cc), (w.heap.size + 1, .slice bo lb.length cb), (w.heap.size, .slice ao la.length ca)] [(.slice dq lm.length cd, lm), (.slice co le.length cc, le), (.slice bo lb.length cb, lb), (.slice ao la.length ca, la)] _) := Lib.hid ((E9.out.below hb))
  clear p14 f14 p15 f15 p16 f16 E9 hb
  obtain ⟨p17, f17, -, -, -⟩ := E10.out.box 3 rfl
  go_wp2_with fail
  refine (rValid_of hv.out (E10.out.sl 1 rfl)).mono ?_
  rintro e w8 ⟨rfl, hb⟩
  have E11 : Hid (EnvB w [(w5.heap.size, .slice ya 0 yk), (w4.heap.size, .slice xa 0 xk), (w.heap.size + 1 + 1 + 1, .slice dq lm.length cd), (w.heap.size + 1 + 1, .slice co le.length cc), (w.heap.size + 1, .slice bo lb.length cb), (w.heap.size, .slice ao la.length ca)] [(.slice dq lm.length cd, lm), (.slice co le.length cc, le), (.slice bo lb.length cb, lb), (.slice ao la.length ca, la)] _) := Lib.hid ((E10.out.below hb))
  clear p17 f17 E10 hb
  obtain ⟨p18, f18, -, -, -⟩ := E11.out.box 0 rfl
  have hfin := Lib.hid E11.out.1
  go_wp2
  go_ret
  exact ⟨rfl, hfin.out⟩
set_option maxRecDepth 100000 in
set_option maxHeartbeats 1000000 in
theorem Prod_12 (ao : Option Addr) (ca : Nat) (bo : Option Addr) (cb : Nat) (co : Option Addr) (cc : Nat) (dq : Option Addr) (cd : Nat) (la lb le lm : List Nat)  (w : World) (ha : Sl w (.slice ao la.length ca) la) (hb : Sl w (.slice bo lb.length cb) lb) (hc : Sl w (.slice co le.length cc) le) (hd : Sl w (.slice dq lm.length cd) lm) (hf0 : la.length ≤ 8 ∧ lb.length ≤ 8 ∧ lm.length ≤ 8) (hf10 : le.length ≤ 2) (hg0 : fstc (lm) [la, lb] = 1) (hj0 : fstc (lm) [la] = 2) (hv0 : vld (le) = true) :
    Calls Try.prog 9 #[.agg #[.slice ao la.length ca], .agg #[.slice bo lb.length cb], .agg #[.slice co le.length cc], .agg #[.slice dq lm.length cd]] w fun e w' => e = .returned (.bool true) ∧ Below w.heap.size w w' := by
  have hf := Lib.hid hf0
  have hf1 := Lib.hid hf10
  have hg := Lib.hid hg0
  have hj := Lib.hid hj0
  have hv := Lib.hid hv0
  clear hf0 hf10 hg0 hj0 hv0
  have E0 : Hid (EnvB w [] [(.slice dq lm.length cd, lm), (.slice co le.length cc, le), (.slice bo lb.length cb, lb), (.slice ao la.length ca, la)] w) := Lib.hid (((((EnvB.start w).num ha).num hb).num hc).num hd)
  clear ha hb hc hd
  go_enter Try.func9, Try.ntmps9
  go_wp2_with fail
  have E1 : Hid (EnvB w [(w.heap.size + 1 + 1 + 1, .slice dq lm.length cd), (w.heap.size + 1 + 1, .slice co le.length cc), (w.heap.size + 1, .slice bo lb.length cb), (w.heap.size, .slice ao la.length ca)] [(.slice dq lm.length cd, lm), (.slice co le.length cc, le), (.slice bo lb.length cb, lb), (.slice ao la.length ca, la)] _) := Lib.hid (((((E0.out.push (.slice ao la.length ca) 24 ⟨_, _, _, rfl⟩ (w.heap.size) (by simp)).push (.slice bo lb.length cb) 24 ⟨_, _, _, rfl⟩ (w.heap.size + 1) (by simp)).push (.slice co le.length cc) 24 ⟨_, _, _, rfl⟩ (w.heap.size + 1 + 1) (by simp)).push (.slice dq lm.length cd) 24 ⟨_, _, _, rfl⟩ (w.heap.size + 1 + 1 + 1) (by simp)))
  refine (awake_c _).mono ?_
  rintro e w1 ⟨rfl, hb⟩
  have E2 : Hid (EnvB w [(w.heap.size + 1 + 1 + 1, .slice dq lm.length cd), (w.heap.size + 1 + 1, .slice co le.length cc), (w.heap.size + 1, .slice bo lb.length cb), (w.heap.size, .slice ao la.length ca)] [(.slice dq lm.length cd, lm), (.slice co le.length cc, le), (.slice bo lb.length cb, lb), (.slice ao la.length ca, la)] _) := Lib.hid ((E1.out.below hb))
  clear E1 E0 hb
  obtain ⟨p1, f1, -, -, -⟩ := E2.out.box 3 rfl
  obtain ⟨p2, f2, -, -, -⟩ := E2.out.box 2 rfl
  obtain ⟨p3, f3, -, -, -⟩ := E2.out.box 0 rfl
  go_wp2_with fail
  refine (few3_t _ _ _ (la) _ _ _ (lb) _ _ _ (lm) 8 _ (E2.out.sl 3 rfl) (E2.out.sl 2 rfl) (E2.out.sl 0 rfl) hf.out _ (by simp)).mono ?_
  rintro e w2 ⟨rfl, hb⟩
  have E3 : Hid (EnvB w [(w.heap.size + 1 + 1 + 1, .slice dq lm.length cd), (w.heap.size + 1 + 1, .slice co le.length cc), (w.heap.size + 1, .slice bo lb.length cb), (w.heap.size, .slice ao la.length ca)] [(.slice dq lm.length cd, lm), (.slice co le.length cc, le), (.slice bo lb.length cb, lb), (.slice ao la.length ca, la)] _) := Lib.hid ((E2.out.below hb))
  clear p1 f1 p2 f2 p3 f3 E2 hb
  obtain ⟨p4, f4, -, -, -⟩ := E3.out.box 1 rfl
  go_wp2_with fail
  refine (few1_t _ _ _ (le) 2 _ (E3.out.sl 1 rfl) hf1.out _ (by simp)).mono ?_
  rintro e w3 ⟨rfl, hb⟩
  have E4 : Hid (EnvB w [(w.heap.size + 1 + 1 + 1, .slice dq lm.length cd), (w.heap.size + 1 + 1, .slice co le.length cc), (w.heap.size + 1, .slice bo lb.length cb), (w.heap.size, .slice ao la.length ca)] [(.slice dq lm.length cd, lm), (.slice co le.length cc, le), (.slice bo lb.length cb, lb), (.slice ao la.length ca, la)] _) := Lib.hid ((E3.out.below hb))
  clear p4 f4 E3 hb
  obtain ⟨p5, f5, -, -, -⟩ := E4.out.box 3 rfl
  obtain ⟨p6, f6, -, -, -⟩ := E4.out.box 2 rfl
  obtain ⟨p7, f7, -, -, -⟩ := E4.out.box 0 rfl
  go_wp2_with fail
  refine (mul_z hg.out (by decide) (E4.out.sl 3 rfl) (E4.out.sl 2 rfl) (E4.out.sl 0 rfl)).mono ?_
  rintro e w4 ⟨⟨xa, xk, rfl⟩, hb⟩
  have E5 : Hid (EnvB w [(w.heap.size + 1 + 1 + 1, .slice dq lm.length cd), (w.heap.size + 1 + 1, .slice co le.length cc), (w.heap.size + 1, .slice bo lb.length cb), (w.heap.size, .slice ao la.length ca)] [(.slice dq lm.length cd, lm), (.slice co le.length cc, le), (.slice bo lb.length cb, lb), (.slice ao la.length ca, la)] _) := Lib.hid ((E4.out.below hb))
  clear p5 f5 p6 f6 p7 f7 E4 hb
  have E6 : Hid (EnvB w [(w4.heap.size, .slice xa 0 xk), (w.heap.size + 1 + 1 + 1, .slice dq lm.length cd), (w.heap.size + 1 + 1, .slice co le.length cc), (w.heap.size + 1, .slice bo lb.length cb), (w.heap.size, .slice ao la.length ca)] [(.slice dq lm.length cd, lm), (.slice co le.length cc, le), (.slice bo lb.length cb, lb), (.slice ao la.length ca, la)] _) := Lib.hid ((E5.out.push (.slice xa 0 xk) 24 ⟨_, _, _, rfl⟩ (w4.heap.size) (by simp)))
  obtain ⟨p8, f8, -, -, -⟩ := E6.out.box 4 rfl
  obtain ⟨p9, f9, -, -, -⟩ := E6.out.box 2 rfl
  obtain ⟨p10, f10, -, -, -⟩ := E6.out.box 1 rfl
  go_wp2_with fail
  refine (pow_z2 hv.out hj.out (by decide) (E6.out.sl 3 rfl) (E6.out.sl 1 rfl) (E6.out.sl 0 rfl)).mono ?_
  rintro e w5 ⟨⟨ya, yk, rfl⟩, hb⟩
  have E7 : Hid (EnvB w [(w4.heap.size, .slice xa 0 xk), (w.heap.size + 1 + 1 + 1, .slice dq lm.length cd), (w.heap.size + 1 + 1, .slice co le.length cc), (w.heap.size + 1, .slice bo lb.length cb), (w.heap.size, .slice ao la.length ca)] [(.slice dq lm.length cd, lm), (.slice co le.length cc, le), (.slice bo lb.length cb, lb), (.slice ao la.length ca, la)] _) := Lib.hid ((E6.out.below hb))
  clear p8 f8 p9 f9 p10 f10 E6 E5 hb
  have E8 : Hid (EnvB w [(w5.heap.size, .slice ya 0 yk), (w4.heap.size, .slice xa 0 xk), (w.heap.size + 1 + 1 + 1, .slice dq lm.length cd), (w.heap.size + 1 + 1, .slice co le.length cc), (w.heap.size + 1, .slice bo lb.length cb), (w.heap.size, .slice ao la.length ca)] [(.slice dq lm.length cd, lm), (.slice co le.length cc, le), (.slice bo lb.length cb, lb), (.slice ao la.length ca, la)] _) := Lib.hid ((E7.out.push (.slice ya 0 yk) 24 ⟨_, _, _, rfl⟩ (w5.heap.size) (by simp)))
  obtain ⟨p11, f11, -, -, -⟩ := E8.out.box 2 rfl
  obtain ⟨p12, f12, -, -, -⟩ := E8.out.box 5 rfl
  obtain ⟨p13, f13, -, -, -⟩ := E8.out.box 4 rfl
  go_wp2_with fail
  refine (first2_c _ _ _ (la) _ _ _ (lb) _ _ _ (lm) 1 _ hg.out (E8.out.sl 0 rfl) (E8.out.sl 3 rfl) (E8.out.sl 2 rfl) _ (by simp)).mono ?_
  rintro e w6 ⟨rfl, hb⟩
  have E9 : Hid (EnvB w [(w5.heap.size, .slice ya 0 yk), (w4.heap.size, .slice xa 0 xk), (w.heap.size + 1 + 1 + 1, .slice dq lm.length cd), (w.heap.size + 1 + 1, .slice co le.length cc), (w.heap.size + 1, .slice bo lb.length cb), (w.heap.size, .slice ao la.length ca)] [(.slice dq lm.length cd, lm), (.slice co le.length cc, le), (.slice bo lb.length cb, lb), (.slice ao la.length ca, la)] _) := Lib.hid ((E8.out.below hb))
  clear p11 f11 p12 f12 p13 f13 E8 E7 hb
  obtain ⟨p14, f14, -, -, -⟩ := E9.out.box 1 rfl
  obtain ⟨p15, f15, -, -, -⟩ := E9.out.box 2 rfl
  obtain ⟨p16, f16, -, -, -⟩ := E9.out.box 5 rfl
  go_wp2_with fail
  refine (first1_c _ _ _ (la) _ _ _ (lm) 2 _ hj.out (E9.out.sl 0 rfl) (E9.out.sl 3 rfl) _ (by simp)).mono ?_
  rintro e w7 ⟨rfl, hb⟩
  have E10 : Hid (EnvB w [(w5.heap.size, .slice ya 0 yk), (w4.heap.size, .slice xa 0 xk), (w.heap.size + 1 + 1 + 1, .slice dq lm.length cd), (w.heap.size + 1 + 1, .slice co le.length cc), (w.heap.size + 1, .slice bo lb.length cb), (w.heap.size, .slice ao la.length ca)] [(.slice dq lm.length cd, lm), (.slice co le.length cc, le), (.slice bo lb.length cb, lb), (.slice ao la.length ca, la)] _) := Lib.hid ((E9.out.below hb))
  clear p14 f14 p15 f15 p16 f16 E9 hb
  obtain ⟨p17, f17, -, -, -⟩ := E10.out.box 3 rfl
  go_wp2_with fail
  refine (rValid_of hv.out (E10.out.sl 1 rfl)).mono ?_
  rintro e w8 ⟨rfl, hb⟩
  have E11 : Hid (EnvB w [(w5.heap.size, .slice ya 0 yk), (w4.heap.size, .slice xa 0 xk), (w.heap.size + 1 + 1 + 1, .slice dq lm.length cd), (w.heap.size + 1 + 1, .slice co le.length cc), (w.heap.size + 1, .slice bo lb.length cb), (w.heap.size, .slice ao la.length ca)] [(.slice dq lm.length cd, lm), (.slice co le.length cc, le), (.slice bo lb.length cb, lb), (.slice ao la.length ca, la)] _) := Lib.hid ((E10.out.below hb))
  clear p17 f17 E10 hb
  obtain ⟨p18, f18, -, -, -⟩ := E11.out.box 0 rfl
  have hfin := Lib.hid E11.out.1
  go_wp2
  go_ret
  exact ⟨rfl, hfin.out⟩
set_option maxRecDepth 100000 in
set_option maxHeartbeats 1000000 in
theorem Prod_20 (ao : Option Addr) (ca : Nat) (bo : Option Addr) (cb : Nat) (co : Option Addr) (cc : Nat) (dq : Option Addr) (cd : Nat) (N E Q : Nat) (lb : List Nat) (r2 : Nat) (w : World) (ha : Nt w (.slice ao (len N) ca) N) (hb : Sl w (.slice bo lb.length cb) lb) (hc : Nt w (.slice co (len E) cc) E) (hd : Nt w (.slice dq (len Q) cd) Q) (hf0 : len N ≤ 8 ∧ lb.length ≤ 8 ∧ len Q ≤ 8) (hf10 : len E ≤ 2) (hg0 : fstc (digs Q) [digs N, lb] = 2) (hj0 : fstc (digs Q) [digs N] = 0) (hv0 : vld (digs E) = true) (hn0 : N < Q) (hk0 : len Q ≤ 32) (hk50 : len Q ≤ 5000) (hk10 : len Q ≤ 1000) (h20 : N ^ E % Q = r2) (he0 : len E ≤ 64) (he10 : len E ≤ 1000) :
    Calls Try.prog 9 #[.agg #[.slice ao (len N) ca], .agg #[.slice bo lb.length cb], .agg #[.slice co (len E) cc], .agg #[.slice dq (len Q) cd]] w fun e w' => e = .returned (.bool true) ∧ Below w.heap.size w w' := by
  have hf := Lib.hid hf0
  have hf1 := Lib.hid hf10
  have hg := Lib.hid hg0
  have hj := Lib.hid hj0
  have hv := Lib.hid hv0
  have hn := Lib.hid hn0
  have hk := Lib.hid hk0
  have hk5 := Lib.hid hk50
  have hk1 := Lib.hid hk10
  have h2 := Lib.hid h20
  have he := Lib.hid he0
  have he1 := Lib.hid he10
  clear hf0 hf10 hg0 hj0 hv0 hn0 hk0 hk50 hk10 h20 he0 he10
  have E0 : Hid (EnvB w [] [(.slice dq (len Q) cd, digs Q), (.slice co (len E) cc, digs E), (.slice bo lb.length cb, lb), (.slice ao (len N) ca, digs N)] w) := Lib.hid (((((EnvB.start w).numN ha).num hb).numN hc).numN hd)
  clear ha hb hc hd
  go_enter Try.func9, Try.ntmps9
  go_wp2_with fail
  have E1 : Hid (EnvB w [(w.heap.size + 1 + 1 + 1, .slice dq (len Q) cd), (w.heap.size + 1 + 1, .slice co (len E) cc), (w.heap.size + 1, .slice bo lb.length cb), (w.heap.size, .slice ao (len N) ca)] [(.slice dq (len Q) cd, digs Q), (.slice co (len E) cc, digs E), (.slice bo lb.length cb, lb), (.slice ao (len N) ca, digs N)] _) := Lib.hid (((((E0.out.push (.slice ao (len N) ca) 24 ⟨_, _, _, rfl⟩ (w.heap.size) (by simp)).push (.slice bo lb.length cb) 24 ⟨_, _, _, rfl⟩ (w.heap.size + 1) (by simp)).push (.slice co (len E) cc) 24 ⟨_, _, _, rfl⟩ (w.heap.size + 1 + 1) (by simp)).push (.slice dq (len Q) cd) 24 ⟨_, _, _, rfl⟩ (w.heap.size + 1 + 1 + 1) (by simp)))
  refine (awake_c _).mono ?_
  rintro e w1 ⟨rfl, hb⟩
  have E2 : Hid (EnvB w [(w.heap.size + 1 + 1 + 1, .slice dq (len Q) cd), (w.heap.size + 1 + 1, .slice co (len E) cc), (w.heap.size + 1, .slice bo lb.length cb), (w.heap.size, .slice ao (len N) ca)] [(.slice dq (len Q) cd, digs Q), (.slice co (len E) cc, digs E), (.slice bo lb.length cb, lb), (.slice ao (len N) ca, digs N)] _) := Lib.hid ((E1.out.below hb))
  clear E1 E0 hb
  obtain ⟨p1, f1, -, -, -⟩ := E2.out.box 3 rfl
  obtain ⟨p2, f2, -, -, -⟩ := E2.out.box 2 rfl
  obtain ⟨p3, f3, -, -, -⟩ := E2.out.box 0 rfl
  go_wp2_with fail
  refine (few3_t _ _ _ (digs N) _ _ _ (lb) _ _ _ (digs Q) 8 _ (E2.out.nt 3 rfl) (E2.out.sl 2 rfl) (E2.out.nt 0 rfl) hf.out _ (by simp)).mono ?_
  rintro e w2 ⟨rfl, hb⟩
  have E3 : Hid (EnvB w [(w.heap.size + 1 + 1 + 1, .slice dq (len Q) cd), (w.heap.size + 1 + 1, .slice co (len E) cc), (w.heap.size + 1, .slice bo lb.length cb), (w.heap.size, .slice ao (len N) ca)] [(.slice dq (len Q) cd, digs Q), (.slice co (len E) cc, digs E), (.slice bo lb.length cb, lb), (.slice ao (len N) ca, digs N)] _) := Lib.hid ((E2.out.below hb))
  clear p1 f1 p2 f2 p3 f3 E2 hb
  obtain ⟨p4, f4, -, -, -⟩ := E3.out.box 1 rfl
  go_wp2_with fail
  refine (few1_t _ _ _ (digs E) 2 _ (E3.out.nt 1 rfl) hf1.out _ (by simp)).mono ?_
  rintro e w3 ⟨rfl, hb⟩
  have E4 : Hid (EnvB w [(w.heap.size + 1 + 1 + 1, .slice dq (len Q) cd), (w.heap.size + 1 + 1, .slice co (len E) cc), (w.heap.size + 1, .slice bo lb.length cb), (w.heap.size, .slice ao (len N) ca)] [(.slice dq (len Q) cd, digs Q), (.slice co (len E) cc, digs E), (.slice bo lb.length cb, lb), (.slice ao (len N) ca, digs N)] _) := Lib.hid ((E3.out.below hb))
  clear p4 f4 E3 hb
  obtain ⟨p5, f5, -, -, -⟩ := E4.out.box 3 rfl
  obtain ⟨p6, f6, -, -, -⟩ := E4.out.box 2 rfl
  obtain ⟨p7, f7, -, -, -⟩ := E4.out.box 0 rfl
  go_wp2_with fail
  refine (mul_z hg.out (by decide) (E4.out.nt 3 rfl) (E4.out.sl 2 rfl) (E4.out.nt 0 rfl)).mono ?_
  rintro e w4 ⟨⟨xa, xk, rfl⟩, hb⟩
  have E5 : Hid (EnvB w [(w.heap.size + 1 + 1 + 1, .slice dq (len Q) cd), (w.heap.size + 1 + 1, .slice co (len E) cc), (w.heap.size + 1, .slice bo lb.length cb), (w.heap.size, .slice ao (len N) ca)] [(.slice dq (len Q) cd, digs Q), (.slice co (len E) cc, digs E), (.slice bo lb.length cb, lb), (.slice ao (len N) ca, digs N)] _) := Lib.hid ((E4.out.below hb))
  clear p5 f5 p6 f6 p7 f7 E4 hb
  have E6 : Hid (EnvB w [(w4.heap.size, .slice xa 0 xk), (w.heap.size + 1 + 1 + 1, .slice dq (len Q) cd), (w.heap.size + 1 + 1, .slice co (len E) cc), (w.heap.size + 1, .slice bo lb.length cb), (w.heap.size, .slice ao (len N) ca)] [(.slice dq (len Q) cd, digs Q), (.slice co (len E) cc, digs E), (.slice bo lb.length cb, lb), (.slice ao (len N) ca, digs N)] _) := Lib.hid ((E5.out.push (.slice xa 0 xk) 24 ⟨_, _, _, rfl⟩ (w4.heap.size) (by simp)))
  obtain ⟨p8, f8, -, -, -⟩ := E6.out.box 4 rfl
  obtain ⟨p9, f9, -, -, -⟩ := E6.out.box 2 rfl
  obtain ⟨p10, f10, -, -, -⟩ := E6.out.box 1 rfl
  go_wp2_with fail
  refine (pow_m h2.out he.out hn.out hk.out (E6.out.nt 3 rfl) (E6.out.nt 1 rfl) (E6.out.nt 0 rfl)).mono ?_
  rintro e w5 ⟨⟨ya, yk, rfl, hy⟩, hb⟩
  have E7 : Hid (EnvB w [(w4.heap.size, .slice xa 0 xk), (w.heap.size + 1 + 1 + 1, .slice dq (len Q) cd), (w.heap.size + 1 + 1, .slice co (len E) cc), (w.heap.size + 1, .slice bo lb.length cb), (w.heap.size, .slice ao (len N) ca)] [(.slice ya (len r2) yk, digs r2), (.slice dq (len Q) cd, digs Q), (.slice co (len E) cc, digs E), (.slice bo lb.length cb, lb), (.slice ao (len N) ca, digs N)] _) := Lib.hid (((E6.out.below hb).numN (hy.out : Nt _ _ r2)))
  clear p8 f8 p9 f9 p10 f10 E6 E5 hb hy
  have E8 : Hid (EnvB w [(w5.heap.size, .slice ya (len r2) yk), (w4.heap.size, .slice xa 0 xk), (w.heap.size + 1 + 1 + 1, .slice dq (len Q) cd), (w.heap.size + 1 + 1, .slice co (len E) cc), (w.heap.size + 1, .slice bo lb.length cb), (w.heap.size, .slice ao (len N) ca)] [(.slice ya (len r2) yk, digs r2), (.slice dq (len Q) cd, digs Q), (.slice co (len E) cc, digs E), (.slice bo lb.length cb, lb), (.slice ao (len N) ca, digs N)] _) := Lib.hid ((E7.out.push (.slice ya (len r2) yk) 24 ⟨_, _, _, rfl⟩ (w5.heap.size) (by simp)))
  obtain ⟨p11, f11, -, -, -⟩ := E8.out.box 2 rfl
  obtain ⟨p12, f12, -, -, -⟩ := E8.out.box 5 rfl
  obtain ⟨p13, f13, -, -, -⟩ := E8.out.box 4 rfl
  go_wp2_with fail
  refine (first2_c _ _ _ (digs N) _ _ _ (lb) _ _ _ (digs Q) 2 _ hg.out (E8.out.nt 1 rfl) (E8.out.nt 4 rfl) (E8.out.sl 3 rfl) _ (by simp)).mono ?_
  rintro e w6 ⟨rfl, hb⟩
  have E9 : Hid (EnvB w [(w5.heap.size, .slice ya (len r2) yk), (w4.heap.size, .slice xa 0 xk), (w.heap.size + 1 + 1 + 1, .slice dq (len Q) cd), (w.heap.size + 1 + 1, .slice co (len E) cc), (w.heap.size + 1, .slice bo lb.length cb), (w.heap.size, .slice ao (len N) ca)] [(.slice ya (len r2) yk, digs r2), (.slice dq (len Q) cd, digs Q), (.slice co (len E) cc, digs E), (.slice bo lb.length cb, lb), (.slice ao (len N) ca, digs N)] _) := Lib.hid ((E8.out.below hb))
  clear p11 f11 p12 f12 p13 f13 E8 E7 hb
  obtain ⟨p14, f14, -, -, -⟩ := E9.out.box 1 rfl
  obtain ⟨p15, f15, -, -, -⟩ := E9.out.box 2 rfl
  obtain ⟨p16, f16, -, -, -⟩ := E9.out.box 5 rfl
  go_wp2_with fail
  refine (first1_c _ _ _ (digs N) _ _ _ (digs Q) 0 _ hj.out (E9.out.nt 1 rfl) (E9.out.nt 4 rfl) _ (by simp)).mono ?_
  rintro e w7 ⟨rfl, hb⟩
  have E10 : Hid (EnvB w [(w5.heap.size, .slice ya (len r2) yk), (w4.heap.size, .slice xa 0 xk), (w.heap.size + 1 + 1 + 1, .slice dq (len Q) cd), (w.heap.size + 1 + 1, .slice co (len E) cc), (w.heap.size + 1, .slice bo lb.length cb), (w.heap.size, .slice ao (len N) ca)] [(.slice ya (len r2) yk, digs r2), (.slice dq (len Q) cd, digs Q), (.slice co (len E) cc, digs E), (.slice bo lb.length cb, lb), (.slice ao (len N) ca, digs N)] _) := Lib.hid ((E9.out.below hb))
  clear p14 f14 p15 f15 p16 f16 E9 hb
  obtain ⟨p17, f17, -, -, -⟩ := E10.out.box 3 rfl
  go_wp2_with fail
  refine (rValid_of hv.out (E10.out.nt 2 rfl)).mono ?_
  rintro e w8 ⟨rfl, hb⟩
  have E11 : Hid (EnvB w [(w5.heap.size, .slice ya (len r2) yk), (w4.heap.size, .slice xa 0 xk), (w.heap.size + 1 + 1 + 1, .slice dq (len Q) cd), (w.heap.size + 1 + 1, .slice co (len E) cc), (w.heap.size + 1, .slice bo lb.length cb), (w.heap.size, .slice ao (len N) ca)] [(.slice ya (len r2) yk, digs r2), (.slice dq (len Q) cd, digs Q), (.slice co (len E) cc, digs E), (.slice bo lb.length cb, lb), (.slice ao (len N) ca, digs N)] _) := Lib.hid ((E10.out.below hb))
  clear p17 f17 E10 hb
  go_wp2_with fail
  have bx0 := Lib.hid (E11.out.box 0 rfl)
  have bx1 := Lib.hid (E11.out.box 5 rfl)
  have bx2 := Lib.hid (E11.out.box 3 rfl)
  have bx3 := Lib.hid (E11.out.box 2 rfl)
  refine' wp_region_phase (by kernel_rfl) [0, 1, 2, 3, 4, 5, 6, 7, 8, 9] (by kernel_rfl) #[true, true, true, true, true, true, true, true, true, true, false] (by kernel_rfl) 1 (by kernel_rfl) [PEq (.agg #[.slice ya (len r2) yk]), PEq (.agg #[.slice ao (len N) ca]), PEq (.agg #[.slice co (len E) cc]), PEq (.agg #[.slice dq (len Q) cd]), PNum (r2), PEq (.bool true), PEq (.bool true), PEq (.int .i64 0), PEq (.bool true), PEq (.bool true), Fact.none] (List.forall_mem_cons.2 ⟨PEq.st _, List.forall_mem_cons.2 ⟨PEq.st _, List.forall_mem_cons.2 ⟨PEq.st _, List.forall_mem_cons.2 ⟨PEq.st _, List.forall_mem_cons.2 ⟨PNum.st _, List.forall_mem_cons.2 ⟨PEq.st _, List.forall_mem_cons.2 ⟨PEq.st _, List.forall_mem_cons.2 ⟨PEq.st _, List.forall_mem_cons.2 ⟨PEq.st _, List.forall_mem_cons.2 ⟨PEq.st _, List.forall_mem_cons.2 ⟨Fact.none_st, List.forall_mem_nil _⟩⟩⟩⟩⟩⟩⟩⟩⟩⟩⟩) _ ?hFr5 ?stepr5 ?doner5
  case hFr5 => intro x; simp only [frameL, Act.put, List.setIfInBounds_toArray, List.set_cons_zero, List.set_cons_succ, Nat.zero_add, Nat.reduceAdd]; exact rfl
  case stepr5 =>
    refine List.forall_mem_cons.2 ⟨?_, ?_⟩
    · intro xv bv ev WW hB hdp
      refine op_of rfl ?_
      clear hdp
      intro KK hKK
      obtain ⟨z, -, -, -, -⟩ := bx0.out.below hB
      go_simp
      exact act_eq (hKK.out (.agg #[.slice ya (len r2) yk]) _ (Below.refl _ _) rfl) (by first | rfl | simp [upd])
    refine List.forall_mem_cons.2 ⟨?_, ?_⟩
    · intro xv bv ev WW hB hdp
      refine op_of rfl ?_
      clear hdp
      intro KK hKK
      obtain ⟨z, -, -, -, -⟩ := bx1.out.below hB
      go_simp
      exact act_eq (hKK.out (.agg #[.slice ao (len N) ca]) _ (Below.refl _ _) rfl) (by first | rfl | simp [upd])
    refine List.forall_mem_cons.2 ⟨?_, ?_⟩
    · intro xv bv ev WW hB hdp
      refine op_of rfl ?_
      clear hdp
      intro KK hKK
      obtain ⟨z, -, -, -, -⟩ := bx2.out.below hB
      go_simp
      exact act_eq (hKK.out (.agg #[.slice co (len E) cc]) _ (Below.refl _ _) rfl) (by first | rfl | simp [upd])
    refine List.forall_mem_cons.2 ⟨?_, ?_⟩
    · intro xv bv ev WW hB hdp
      refine op_of rfl ?_
      clear hdp
      intro KK hKK
      obtain ⟨z, -, -, -, -⟩ := bx3.out.below hB
      go_simp
      exact act_eq (hKK.out (.agg #[.slice dq (len Q) cd]) _ (Below.refl _ _) rfl) (by first | rfl | simp [upd])
    refine List.forall_mem_cons.2 ⟨?_, ?_⟩
    · intro xv bv ev WW hB hdp
      refine op_of rfl ?_
      have ed1 : xv 1 = .agg #[.slice ao (len N) ca] := hdp 1 (by kernel_rfl)
      have ed2 : xv 2 = .agg #[.slice co (len E) cc] := hdp 2 (by kernel_rfl)
      have ed3 : xv 3 = .agg #[.slice dq (len Q) cd] := hdp 3 (by kernel_rfl)
      clear hdp
      intro KK hKK
      go_simp
      refine (rPow_c h2.out he1.out hn.out hk1.out ((E11.out.below hB).nt 4 rfl) ((E11.out.below hB).nt 2 rfl) ((E11.out.below hB).nt 1 rfl)).mono ?_
      rintro e WW' ⟨⟨va, vk, rfl, hv⟩, hb⟩
      (try dsimp only)
      (try simp only [Act.put, List.setIfInBounds_toArray, List.set_cons_zero, List.set_cons_succ])
      exact act_eq (hKK.out _ _ hb ⟨_, _, rfl, hv⟩) (by first | rfl | simp [upd, ed1, ed2, ed3])
    refine List.forall_mem_cons.2 ⟨?_, ?_⟩
    · intro xv bv ev WW hB hdp
      refine op_of rfl ?_
      have ed0 : xv 0 = .agg #[.slice ya (len r2) yk] := hdp 0 (by kernel_rfl)
      obtain ⟨va, vk, ed4, hv⟩ := (show (PNum (r2)) (xv 4) (bv 4) (ev 4) WW from hdp 4 (by kernel_rfl))
      clear hdp
      intro KK hKK
      go_simp
      refine (same_c (t := true) (by simp) ((E11.out.below hB).nt 0 rfl) hv.out).mono ?_
      rintro e WW' ⟨rfl, hb⟩
      (try dsimp only)
      (try simp only [Act.put, List.setIfInBounds_toArray, List.set_cons_zero, List.set_cons_succ])
      exact act_eq (hKK.out _ _ hb rfl) (by first | rfl | simp [upd, ed0, ed4])
    refine List.forall_mem_cons.2 ⟨?_, ?_⟩
    · intro xv bv ev WW hB hdp
      refine op_of rfl ?_
      have ed5 : xv 5 = .bool true := hdp 5 (by kernel_rfl)
      clear hdp
      intro KK hKK
      go_simp
      exact act_eq (hKK.out _ _ (Below.refl _ _) rfl) (by first | rfl | simp [upd, ed5])
    refine List.forall_mem_cons.2 ⟨?_, ?_⟩
    · intro xv bv ev WW hB hdp
      refine op_of rfl ?_
      have ed6 : xv 6 = .bool true := hdp 6 (by kernel_rfl)
      clear hdp
      intro KK hKK
      refine op_guard (d := 97) rfl rfl (by first | exact congrArg some ed6 | simp [ed6]) ?_
      go_simp
      exact act_eq (hKK.out _ _ (Below.refl _ _) rfl) (by first | rfl | simp [upd, ed6])
    refine List.forall_mem_cons.2 ⟨?_, ?_⟩
    · intro xv bv ev WW hB hdp
      refine op_of rfl ?_
      have ed7 : xv 7 = .int .i64 0 := hdp 7 (by kernel_rfl)
      have ed6 : xv 6 = .bool true := hdp 6 (by kernel_rfl)
      clear hdp
      intro KK hKK
      refine op_guard (d := 97) rfl rfl (by first | exact congrArg some ed6 | simp [ed6]) ?_
      go_simp
      exact act_eq (hKK.out _ _ (Below.refl _ _) rfl) (by first | rfl | simp [upd, ed7, ed6])
    refine List.forall_mem_cons.2 ⟨?_, ?_⟩
    · intro xv bv ev WW hB hdp
      refine op_of rfl ?_
      have ed6 : xv 6 = .bool true := hdp 6 (by kernel_rfl)
      have ed8 : xv 8 = .bool true := hdp 8 (by kernel_rfl)
      clear hdp
      intro KK hKK
      go_simp
      exact act_eq (hKK.out _ _ (Below.refl _ _) rfl) (by first | rfl | simp [upd, ed6, ed8])
    exact List.forall_mem_nil _
  intro xv bv ev w9 hB hR hO
  have ed0 : xv 0 = .agg #[.slice ya (len r2) yk] := hR 0 (by kernel_rfl)
  have ed1 : xv 1 = .agg #[.slice ao (len N) ca] := hR 1 (by kernel_rfl)
  have ed2 : xv 2 = .agg #[.slice co (len E) cc] := hR 2 (by kernel_rfl)
  have ed3 : xv 3 = .agg #[.slice dq (len Q) cd] := hR 3 (by kernel_rfl)
  obtain ⟨va, vk, ed4, hv⟩ := (show (PNum (r2)) (xv 4) (bv 4) (ev 4) w9 from hR 4 (by kernel_rfl))
  have ed5 : xv 5 = .bool true := hR 5 (by kernel_rfl)
  have ed6 : xv 6 = .bool true := hR 6 (by kernel_rfl)
  have ed7 : xv 7 = .int .i64 0 := hR 7 (by kernel_rfl)
  have ed8 : xv 8 = .bool true := hR 8 (by kernel_rfl)
  have ed9 : xv 9 = .bool true := hR 9 (by kernel_rfl)
  simp only [ed0, ed1, ed2, ed3, ed4, ed5, ed6, ed7, ed8, ed9]
  have E12 : Hid (EnvB w [(w5.heap.size, .slice ya (len r2) yk), (w4.heap.size, .slice xa 0 xk), (w.heap.size + 1 + 1 + 1, .slice dq (len Q) cd), (w.heap.size + 1 + 1, .slice co (len E) cc), (w.heap.size + 1, .slice bo lb.length cb), (w.heap.size, .slice ao (len N) ca)] [(.slice va (len r2) vk, digs r2), (.slice ya (len r2) yk, digs r2), (.slice dq (len Q) cd, digs Q), (.slice co (len E) cc, digs E), (.slice bo lb.length cb, lb), (.slice ao (len N) ca, digs N)] _) := Lib.hid (((E11.out.below hB).numN (hv.out : Nt _ _ (r2))))
  clear E11 hB hR hO bx0 bx1 bx2 bx3 ed0 ed1 ed2 ed3 ed4 ed5 ed6 ed7 ed8 ed9 hv
  refine wpAny_next (i := 10) (by kernel_rfl) rfl (fun KK hKK => ?_)
  go_simp
  refine hKK.out _ _ ?_
  clear hKK KK
  refine wpAny_done (by kernel_rfl) ?_ _
  have hfin := Lib.hid E12.out.1
  go_wp2
  go_ret
  exact ⟨rfl, hfin.out⟩
set_option maxRecDepth 100000 in
set_option maxHeartbeats 1000000 in
theorem Prod_2inv (ao : Option Addr) (ca : Nat) (bo : Option Addr) (cb : Nat) (co : Option Addr) (cc : Nat) (dq : Option Addr) (cd : Nat) (la lb le lm : List Nat) (j : Int) (w : World) (ha : Sl w (.slice ao la.length ca) la) (hb : Sl w (.slice bo lb.length cb) lb) (hc : Sl w (.slice co le.length cc) le) (hd : Sl w (.slice dq lm.length cd) lm) (hf0 : la.length ≤ 8 ∧ lb.length ≤ 8 ∧ lm.length ≤ 8) (hf10 : le.length ≤ 2) (hg0 : fstc (lm) [la, lb] = 2) (hj0 : fstc (lm) [la] = j) (hv0 : vld le = false) :
    Calls Try.prog 9 #[.agg #[.slice ao la.length ca], .agg #[.slice bo lb.length cb], .agg #[.slice co le.length cc], .agg #[.slice dq lm.length cd]] w fun e w' => e = .returned (.bool true) ∧ Below w.heap.size w w' := by
  have hf := Lib.hid hf0
  have hf1 := Lib.hid hf10
  have hg := Lib.hid hg0
  have hj := Lib.hid hj0
  have hv := Lib.hid hv0
  clear hf0 hf10 hg0 hj0 hv0
  have E0 : Hid (EnvB w [] [(.slice dq lm.length cd, lm), (.slice co le.length cc, le), (.slice bo lb.length cb, lb), (.slice ao la.length ca, la)] w) := Lib.hid (((((EnvB.start w).num ha).num hb).num hc).num hd)
  clear ha hb hc hd
  go_enter Try.func9, Try.ntmps9
  go_wp2_with fail
  have E1 : Hid (EnvB w [(w.heap.size + 1 + 1 + 1, .slice dq lm.length cd), (w.heap.size + 1 + 1, .slice co le.length cc), (w.heap.size + 1, .slice bo lb.length cb), (w.heap.size, .slice ao la.length ca)] [(.slice dq lm.length cd, lm), (.slice co le.length cc, le), (.slice bo lb.length cb, lb), (.slice ao la.length ca, la)] _) := Lib.hid (((((E0.out.push (.slice ao la.length ca) 24 ⟨_, _, _, rfl⟩ (w.heap.size) (by simp)).push (.slice bo lb.length cb) 24 ⟨_, _, _, rfl⟩ (w.heap.size + 1) (by simp)).push (.slice co le.length cc) 24 ⟨_, _, _, rfl⟩ (w.heap.size + 1 + 1) (by simp)).push (.slice dq lm.length cd) 24 ⟨_, _, _, rfl⟩ (w.heap.size + 1 + 1 + 1) (by simp)))
  refine (awake_c _).mono ?_
  rintro e w1 ⟨rfl, hb⟩
  have E2 : Hid (EnvB w [(w.heap.size + 1 + 1 + 1, .slice dq lm.length cd), (w.heap.size + 1 + 1, .slice co le.length cc), (w.heap.size + 1, .slice bo lb.length cb), (w.heap.size, .slice ao la.length ca)] [(.slice dq lm.length cd, lm), (.slice co le.length cc, le), (.slice bo lb.length cb, lb), (.slice ao la.length ca, la)] _) := Lib.hid ((E1.out.below hb))
  clear E1 E0 hb
  obtain ⟨p1, f1, -, -, -⟩ := E2.out.box 3 rfl
  obtain ⟨p2, f2, -, -, -⟩ := E2.out.box 2 rfl
  obtain ⟨p3, f3, -, -, -⟩ := E2.out.box 0 rfl
  go_wp2_with fail
  refine (few3_t _ _ _ (la) _ _ _ (lb) _ _ _ (lm) 8 _ (E2.out.sl 3 rfl) (E2.out.sl 2 rfl) (E2.out.sl 0 rfl) hf.out _ (by simp)).mono ?_
  rintro e w2 ⟨rfl, hb⟩
  have E3 : Hid (EnvB w [(w.heap.size + 1 + 1 + 1, .slice dq lm.length cd), (w.heap.size + 1 + 1, .slice co le.length cc), (w.heap.size + 1, .slice bo lb.length cb), (w.heap.size, .slice ao la.length ca)] [(.slice dq lm.length cd, lm), (.slice co le.length cc, le), (.slice bo lb.length cb, lb), (.slice ao la.length ca, la)] _) := Lib.hid ((E2.out.below hb))
  clear p1 f1 p2 f2 p3 f3 E2 hb
  obtain ⟨p4, f4, -, -, -⟩ := E3.out.box 1 rfl
  go_wp2_with fail
  refine (few1_t _ _ _ (le) 2 _ (E3.out.sl 1 rfl) hf1.out _ (by simp)).mono ?_
  rintro e w3 ⟨rfl, hb⟩
  have E4 : Hid (EnvB w [(w.heap.size + 1 + 1 + 1, .slice dq lm.length cd), (w.heap.size + 1 + 1, .slice co le.length cc), (w.heap.size + 1, .slice bo lb.length cb), (w.heap.size, .slice ao la.length ca)] [(.slice dq lm.length cd, lm), (.slice co le.length cc, le), (.slice bo lb.length cb, lb), (.slice ao la.length ca, la)] _) := Lib.hid ((E3.out.below hb))
  clear p4 f4 E3 hb
  obtain ⟨p5, f5, -, -, -⟩ := E4.out.box 3 rfl
  obtain ⟨p6, f6, -, -, -⟩ := E4.out.box 2 rfl
  obtain ⟨p7, f7, -, -, -⟩ := E4.out.box 0 rfl
  go_wp2_with fail
  refine (mul_z hg.out (by decide) (E4.out.sl 3 rfl) (E4.out.sl 2 rfl) (E4.out.sl 0 rfl)).mono ?_
  rintro e w4 ⟨⟨xa, xk, rfl⟩, hb⟩
  have E5 : Hid (EnvB w [(w.heap.size + 1 + 1 + 1, .slice dq lm.length cd), (w.heap.size + 1 + 1, .slice co le.length cc), (w.heap.size + 1, .slice bo lb.length cb), (w.heap.size, .slice ao la.length ca)] [(.slice dq lm.length cd, lm), (.slice co le.length cc, le), (.slice bo lb.length cb, lb), (.slice ao la.length ca, la)] _) := Lib.hid ((E4.out.below hb))
  clear p5 f5 p6 f6 p7 f7 E4 hb
  have E6 : Hid (EnvB w [(w4.heap.size, .slice xa 0 xk), (w.heap.size + 1 + 1 + 1, .slice dq lm.length cd), (w.heap.size + 1 + 1, .slice co le.length cc), (w.heap.size + 1, .slice bo lb.length cb), (w.heap.size, .slice ao la.length ca)] [(.slice dq lm.length cd, lm), (.slice co le.length cc, le), (.slice bo lb.length cb, lb), (.slice ao la.length ca, la)] _) := Lib.hid ((E5.out.push (.slice xa 0 xk) 24 ⟨_, _, _, rfl⟩ (w4.heap.size) (by simp)))
  obtain ⟨p8, f8, -, -, -⟩ := E6.out.box 4 rfl
  obtain ⟨p9, f9, -, -, -⟩ := E6.out.box 2 rfl
  obtain ⟨p10, f10, -, -, -⟩ := E6.out.box 1 rfl
  go_wp2_with fail
  refine (pow_z1 hv.out (E6.out.sl 3 rfl) (E6.out.sl 1 rfl) (E6.out.sl 0 rfl)).mono ?_
  rintro e w5 ⟨⟨ya, yk, rfl⟩, hb⟩
  have E7 : Hid (EnvB w [(w4.heap.size, .slice xa 0 xk), (w.heap.size + 1 + 1 + 1, .slice dq lm.length cd), (w.heap.size + 1 + 1, .slice co le.length cc), (w.heap.size + 1, .slice bo lb.length cb), (w.heap.size, .slice ao la.length ca)] [(.slice dq lm.length cd, lm), (.slice co le.length cc, le), (.slice bo lb.length cb, lb), (.slice ao la.length ca, la)] _) := Lib.hid ((E6.out.below hb))
  clear p8 f8 p9 f9 p10 f10 E6 E5 hb
  have E8 : Hid (EnvB w [(w5.heap.size, .slice ya 0 yk), (w4.heap.size, .slice xa 0 xk), (w.heap.size + 1 + 1 + 1, .slice dq lm.length cd), (w.heap.size + 1 + 1, .slice co le.length cc), (w.heap.size + 1, .slice bo lb.length cb), (w.heap.size, .slice ao la.length ca)] [(.slice dq lm.length cd, lm), (.slice co le.length cc, le), (.slice bo lb.length cb, lb), (.slice ao la.length ca, la)] _) := Lib.hid ((E7.out.push (.slice ya 0 yk) 24 ⟨_, _, _, rfl⟩ (w5.heap.size) (by simp)))
  obtain ⟨p11, f11, -, -, -⟩ := E8.out.box 2 rfl
  obtain ⟨p12, f12, -, -, -⟩ := E8.out.box 5 rfl
  obtain ⟨p13, f13, -, -, -⟩ := E8.out.box 4 rfl
  go_wp2_with fail
  refine (first2_c _ _ _ (la) _ _ _ (lb) _ _ _ (lm) 2 _ hg.out (E8.out.sl 0 rfl) (E8.out.sl 3 rfl) (E8.out.sl 2 rfl) _ (by simp)).mono ?_
  rintro e w6 ⟨rfl, hb⟩
  have E9 : Hid (EnvB w [(w5.heap.size, .slice ya 0 yk), (w4.heap.size, .slice xa 0 xk), (w.heap.size + 1 + 1 + 1, .slice dq lm.length cd), (w.heap.size + 1 + 1, .slice co le.length cc), (w.heap.size + 1, .slice bo lb.length cb), (w.heap.size, .slice ao la.length ca)] [(.slice dq lm.length cd, lm), (.slice co le.length cc, le), (.slice bo lb.length cb, lb), (.slice ao la.length ca, la)] _) := Lib.hid ((E8.out.below hb))
  clear p11 f11 p12 f12 p13 f13 E8 E7 hb
  obtain ⟨p14, f14, -, -, -⟩ := E9.out.box 1 rfl
  obtain ⟨p15, f15, -, -, -⟩ := E9.out.box 2 rfl
  obtain ⟨p16, f16, -, -, -⟩ := E9.out.box 5 rfl
  go_wp2_with fail
  refine (first1_c _ _ _ (la) _ _ _ (lm) j _ hj.out (E9.out.sl 0 rfl) (E9.out.sl 3 rfl) _ (by simp)).mono ?_
  rintro e w7 ⟨rfl, hb⟩
  have E10 : Hid (EnvB w [(w5.heap.size, .slice ya 0 yk), (w4.heap.size, .slice xa 0 xk), (w.heap.size + 1 + 1 + 1, .slice dq lm.length cd), (w.heap.size + 1 + 1, .slice co le.length cc), (w.heap.size + 1, .slice bo lb.length cb), (w.heap.size, .slice ao la.length ca)] [(.slice dq lm.length cd, lm), (.slice co le.length cc, le), (.slice bo lb.length cb, lb), (.slice ao la.length ca, la)] _) := Lib.hid ((E9.out.below hb))
  clear p14 f14 p15 f15 p16 f16 E9 hb
  obtain ⟨p17, f17, -, -, -⟩ := E10.out.box 3 rfl
  go_wp2_with fail
  refine (rValid_of hv.out (E10.out.sl 1 rfl)).mono ?_
  rintro e w8 ⟨rfl, hb⟩
  have E11 : Hid (EnvB w [(w5.heap.size, .slice ya 0 yk), (w4.heap.size, .slice xa 0 xk), (w.heap.size + 1 + 1 + 1, .slice dq lm.length cd), (w.heap.size + 1 + 1, .slice co le.length cc), (w.heap.size + 1, .slice bo lb.length cb), (w.heap.size, .slice ao la.length ca)] [(.slice dq lm.length cd, lm), (.slice co le.length cc, le), (.slice bo lb.length cb, lb), (.slice ao la.length ca, la)] _) := Lib.hid ((E10.out.below hb))
  clear p17 f17 E10 hb
  obtain ⟨p18, f18, -, -, -⟩ := E11.out.box 0 rfl
  have hfin := Lib.hid E11.out.1
  go_wp2
  go_ret
  exact ⟨rfl, hfin.out⟩
set_option maxRecDepth 100000 in
set_option maxHeartbeats 1000000 in
theorem Prod_21 (ao : Option Addr) (ca : Nat) (bo : Option Addr) (cb : Nat) (co : Option Addr) (cc : Nat) (dq : Option Addr) (cd : Nat) (la lb le lm : List Nat)  (w : World) (ha : Sl w (.slice ao la.length ca) la) (hb : Sl w (.slice bo lb.length cb) lb) (hc : Sl w (.slice co le.length cc) le) (hd : Sl w (.slice dq lm.length cd) lm) (hf0 : la.length ≤ 8 ∧ lb.length ≤ 8 ∧ lm.length ≤ 8) (hf10 : le.length ≤ 2) (hg0 : fstc (lm) [la, lb] = 2) (hj0 : fstc (lm) [la] = 1) (hv0 : vld (le) = true) :
    Calls Try.prog 9 #[.agg #[.slice ao la.length ca], .agg #[.slice bo lb.length cb], .agg #[.slice co le.length cc], .agg #[.slice dq lm.length cd]] w fun e w' => e = .returned (.bool true) ∧ Below w.heap.size w w' := by
  have hf := Lib.hid hf0
  have hf1 := Lib.hid hf10
  have hg := Lib.hid hg0
  have hj := Lib.hid hj0
  have hv := Lib.hid hv0
  clear hf0 hf10 hg0 hj0 hv0
  have E0 : Hid (EnvB w [] [(.slice dq lm.length cd, lm), (.slice co le.length cc, le), (.slice bo lb.length cb, lb), (.slice ao la.length ca, la)] w) := Lib.hid (((((EnvB.start w).num ha).num hb).num hc).num hd)
  clear ha hb hc hd
  go_enter Try.func9, Try.ntmps9
  go_wp2_with fail
  have E1 : Hid (EnvB w [(w.heap.size + 1 + 1 + 1, .slice dq lm.length cd), (w.heap.size + 1 + 1, .slice co le.length cc), (w.heap.size + 1, .slice bo lb.length cb), (w.heap.size, .slice ao la.length ca)] [(.slice dq lm.length cd, lm), (.slice co le.length cc, le), (.slice bo lb.length cb, lb), (.slice ao la.length ca, la)] _) := Lib.hid (((((E0.out.push (.slice ao la.length ca) 24 ⟨_, _, _, rfl⟩ (w.heap.size) (by simp)).push (.slice bo lb.length cb) 24 ⟨_, _, _, rfl⟩ (w.heap.size + 1) (by simp)).push (.slice co le.length cc) 24 ⟨_, _, _, rfl⟩ (w.heap.size + 1 + 1) (by simp)).push (.slice dq lm.length cd) 24 ⟨_, _, _, rfl⟩ (w.heap.size + 1 + 1 + 1) (by simp)))
  refine (awake_c _).mono ?_
  rintro e w1 ⟨rfl, hb⟩
  have E2 : Hid (EnvB w [(w.heap.size + 1 + 1 + 1, .slice dq lm.length cd), (w.heap.size + 1 + 1, .slice co le.length cc), (w.heap.size + 1, .slice bo lb.length cb), (w.heap.size, .slice ao la.length ca)] [(.slice dq lm.length cd, lm), (.slice co le.length cc, le), (.slice bo lb.length cb, lb), (.slice ao la.length ca, la)] _) := Lib.hid ((E1.out.below hb))
  clear E1 E0 hb
  obtain ⟨p1, f1, -, -, -⟩ := E2.out.box 3 rfl
  obtain ⟨p2, f2, -, -, -⟩ := E2.out.box 2 rfl
  obtain ⟨p3, f3, -, -, -⟩ := E2.out.box 0 rfl
  go_wp2_with fail
  refine (few3_t _ _ _ (la) _ _ _ (lb) _ _ _ (lm) 8 _ (E2.out.sl 3 rfl) (E2.out.sl 2 rfl) (E2.out.sl 0 rfl) hf.out _ (by simp)).mono ?_
  rintro e w2 ⟨rfl, hb⟩
  have E3 : Hid (EnvB w [(w.heap.size + 1 + 1 + 1, .slice dq lm.length cd), (w.heap.size + 1 + 1, .slice co le.length cc), (w.heap.size + 1, .slice bo lb.length cb), (w.heap.size, .slice ao la.length ca)] [(.slice dq lm.length cd, lm), (.slice co le.length cc, le), (.slice bo lb.length cb, lb), (.slice ao la.length ca, la)] _) := Lib.hid ((E2.out.below hb))
  clear p1 f1 p2 f2 p3 f3 E2 hb
  obtain ⟨p4, f4, -, -, -⟩ := E3.out.box 1 rfl
  go_wp2_with fail
  refine (few1_t _ _ _ (le) 2 _ (E3.out.sl 1 rfl) hf1.out _ (by simp)).mono ?_
  rintro e w3 ⟨rfl, hb⟩
  have E4 : Hid (EnvB w [(w.heap.size + 1 + 1 + 1, .slice dq lm.length cd), (w.heap.size + 1 + 1, .slice co le.length cc), (w.heap.size + 1, .slice bo lb.length cb), (w.heap.size, .slice ao la.length ca)] [(.slice dq lm.length cd, lm), (.slice co le.length cc, le), (.slice bo lb.length cb, lb), (.slice ao la.length ca, la)] _) := Lib.hid ((E3.out.below hb))
  clear p4 f4 E3 hb
  obtain ⟨p5, f5, -, -, -⟩ := E4.out.box 3 rfl
  obtain ⟨p6, f6, -, -, -⟩ := E4.out.box 2 rfl
  obtain ⟨p7, f7, -, -, -⟩ := E4.out.box 0 rfl
  go_wp2_with fail
  refine (mul_z hg.out (by decide) (E4.out.sl 3 rfl) (E4.out.sl 2 rfl) (E4.out.sl 0 rfl)).mono ?_
  rintro e w4 ⟨⟨xa, xk, rfl⟩, hb⟩
  have E5 : Hid (EnvB w [(w.heap.size + 1 + 1 + 1, .slice dq lm.length cd), (w.heap.size + 1 + 1, .slice co le.length cc), (w.heap.size + 1, .slice bo lb.length cb), (w.heap.size, .slice ao la.length ca)] [(.slice dq lm.length cd, lm), (.slice co le.length cc, le), (.slice bo lb.length cb, lb), (.slice ao la.length ca, la)] _) := Lib.hid ((E4.out.below hb))
  clear p5 f5 p6 f6 p7 f7 E4 hb
  have E6 : Hid (EnvB w [(w4.heap.size, .slice xa 0 xk), (w.heap.size + 1 + 1 + 1, .slice dq lm.length cd), (w.heap.size + 1 + 1, .slice co le.length cc), (w.heap.size + 1, .slice bo lb.length cb), (w.heap.size, .slice ao la.length ca)] [(.slice dq lm.length cd, lm), (.slice co le.length cc, le), (.slice bo lb.length cb, lb), (.slice ao la.length ca, la)] _) := Lib.hid ((E5.out.push (.slice xa 0 xk) 24 ⟨_, _, _, rfl⟩ (w4.heap.size) (by simp)))
  obtain ⟨p8, f8, -, -, -⟩ := E6.out.box 4 rfl
  obtain ⟨p9, f9, -, -, -⟩ := E6.out.box 2 rfl
  obtain ⟨p10, f10, -, -, -⟩ := E6.out.box 1 rfl
  go_wp2_with fail
  refine (pow_z2 hv.out hj.out (by decide) (E6.out.sl 3 rfl) (E6.out.sl 1 rfl) (E6.out.sl 0 rfl)).mono ?_
  rintro e w5 ⟨⟨ya, yk, rfl⟩, hb⟩
  have E7 : Hid (EnvB w [(w4.heap.size, .slice xa 0 xk), (w.heap.size + 1 + 1 + 1, .slice dq lm.length cd), (w.heap.size + 1 + 1, .slice co le.length cc), (w.heap.size + 1, .slice bo lb.length cb), (w.heap.size, .slice ao la.length ca)] [(.slice dq lm.length cd, lm), (.slice co le.length cc, le), (.slice bo lb.length cb, lb), (.slice ao la.length ca, la)] _) := Lib.hid ((E6.out.below hb))
  clear p8 f8 p9 f9 p10 f10 E6 E5 hb
  have E8 : Hid (EnvB w [(w5.heap.size, .slice ya 0 yk), (w4.heap.size, .slice xa 0 xk), (w.heap.size + 1 + 1 + 1, .slice dq lm.length cd), (w.heap.size + 1 + 1, .slice co le.length cc), (w.heap.size + 1, .slice bo lb.length cb), (w.heap.size, .slice ao la.length ca)] [(.slice dq lm.length cd, lm), (.slice co le.length cc, le), (.slice bo lb.length cb, lb), (.slice ao la.length ca, la)] _) := Lib.hid ((E7.out.push (.slice ya 0 yk) 24 ⟨_, _, _, rfl⟩ (w5.heap.size) (by simp)))
  obtain ⟨p11, f11, -, -, -⟩ := E8.out.box 2 rfl
  obtain ⟨p12, f12, -, -, -⟩ := E8.out.box 5 rfl
  obtain ⟨p13, f13, -, -, -⟩ := E8.out.box 4 rfl
  go_wp2_with fail
  refine (first2_c _ _ _ (la) _ _ _ (lb) _ _ _ (lm) 2 _ hg.out (E8.out.sl 0 rfl) (E8.out.sl 3 rfl) (E8.out.sl 2 rfl) _ (by simp)).mono ?_
  rintro e w6 ⟨rfl, hb⟩
  have E9 : Hid (EnvB w [(w5.heap.size, .slice ya 0 yk), (w4.heap.size, .slice xa 0 xk), (w.heap.size + 1 + 1 + 1, .slice dq lm.length cd), (w.heap.size + 1 + 1, .slice co le.length cc), (w.heap.size + 1, .slice bo lb.length cb), (w.heap.size, .slice ao la.length ca)] [(.slice dq lm.length cd, lm), (.slice co le.length cc, le), (.slice bo lb.length cb, lb), (.slice ao la.length ca, la)] _) := Lib.hid ((E8.out.below hb))
  clear p11 f11 p12 f12 p13 f13 E8 E7 hb
  obtain ⟨p14, f14, -, -, -⟩ := E9.out.box 1 rfl
  obtain ⟨p15, f15, -, -, -⟩ := E9.out.box 2 rfl
  obtain ⟨p16, f16, -, -, -⟩ := E9.out.box 5 rfl
  go_wp2_with fail
  refine (first1_c _ _ _ (la) _ _ _ (lm) 1 _ hj.out (E9.out.sl 0 rfl) (E9.out.sl 3 rfl) _ (by simp)).mono ?_
  rintro e w7 ⟨rfl, hb⟩
  have E10 : Hid (EnvB w [(w5.heap.size, .slice ya 0 yk), (w4.heap.size, .slice xa 0 xk), (w.heap.size + 1 + 1 + 1, .slice dq lm.length cd), (w.heap.size + 1 + 1, .slice co le.length cc), (w.heap.size + 1, .slice bo lb.length cb), (w.heap.size, .slice ao la.length ca)] [(.slice dq lm.length cd, lm), (.slice co le.length cc, le), (.slice bo lb.length cb, lb), (.slice ao la.length ca, la)] _) := Lib.hid ((E9.out.below hb))
  clear p14 f14 p15 f15 p16 f16 E9 hb
  obtain ⟨p17, f17, -, -, -⟩ := E10.out.box 3 rfl
  go_wp2_with fail
  refine (rValid_of hv.out (E10.out.sl 1 rfl)).mono ?_
  rintro e w8 ⟨rfl, hb⟩
  have E11 : Hid (EnvB w [(w5.heap.size, .slice ya 0 yk), (w4.heap.size, .slice xa 0 xk), (w.heap.size + 1 + 1 + 1, .slice dq lm.length cd), (w.heap.size + 1 + 1, .slice co le.length cc), (w.heap.size + 1, .slice bo lb.length cb), (w.heap.size, .slice ao la.length ca)] [(.slice dq lm.length cd, lm), (.slice co le.length cc, le), (.slice bo lb.length cb, lb), (.slice ao la.length ca, la)] _) := Lib.hid ((E10.out.below hb))
  clear p17 f17 E10 hb
  obtain ⟨p18, f18, -, -, -⟩ := E11.out.box 0 rfl
  have hfin := Lib.hid E11.out.1
  go_wp2
  go_ret
  exact ⟨rfl, hfin.out⟩
set_option maxRecDepth 100000 in
set_option maxHeartbeats 1000000 in
theorem Prod_22 (ao : Option Addr) (ca : Nat) (bo : Option Addr) (cb : Nat) (co : Option Addr) (cc : Nat) (dq : Option Addr) (cd : Nat) (la lb le lm : List Nat)  (w : World) (ha : Sl w (.slice ao la.length ca) la) (hb : Sl w (.slice bo lb.length cb) lb) (hc : Sl w (.slice co le.length cc) le) (hd : Sl w (.slice dq lm.length cd) lm) (hf0 : la.length ≤ 8 ∧ lb.length ≤ 8 ∧ lm.length ≤ 8) (hf10 : le.length ≤ 2) (hg0 : fstc (lm) [la, lb] = 2) (hj0 : fstc (lm) [la] = 2) (hv0 : vld (le) = true) :
    Calls Try.prog 9 #[.agg #[.slice ao la.length ca], .agg #[.slice bo lb.length cb], .agg #[.slice co le.length cc], .agg #[.slice dq lm.length cd]] w fun e w' => e = .returned (.bool true) ∧ Below w.heap.size w w' := by
  have hf := Lib.hid hf0
  have hf1 := Lib.hid hf10
  have hg := Lib.hid hg0
  have hj := Lib.hid hj0
  have hv := Lib.hid hv0
  clear hf0 hf10 hg0 hj0 hv0
  have E0 : Hid (EnvB w [] [(.slice dq lm.length cd, lm), (.slice co le.length cc, le), (.slice bo lb.length cb, lb), (.slice ao la.length ca, la)] w) := Lib.hid (((((EnvB.start w).num ha).num hb).num hc).num hd)
  clear ha hb hc hd
  go_enter Try.func9, Try.ntmps9
  go_wp2_with fail
  have E1 : Hid (EnvB w [(w.heap.size + 1 + 1 + 1, .slice dq lm.length cd), (w.heap.size + 1 + 1, .slice co le.length cc), (w.heap.size + 1, .slice bo lb.length cb), (w.heap.size, .slice ao la.length ca)] [(.slice dq lm.length cd, lm), (.slice co le.length cc, le), (.slice bo lb.length cb, lb), (.slice ao la.length ca, la)] _) := Lib.hid (((((E0.out.push (.slice ao la.length ca) 24 ⟨_, _, _, rfl⟩ (w.heap.size) (by simp)).push (.slice bo lb.length cb) 24 ⟨_, _, _, rfl⟩ (w.heap.size + 1) (by simp)).push (.slice co le.length cc) 24 ⟨_, _, _, rfl⟩ (w.heap.size + 1 + 1) (by simp)).push (.slice dq lm.length cd) 24 ⟨_, _, _, rfl⟩ (w.heap.size + 1 + 1 + 1) (by simp)))
  refine (awake_c _).mono ?_
  rintro e w1 ⟨rfl, hb⟩
  have E2 : Hid (EnvB w [(w.heap.size + 1 + 1 + 1, .slice dq lm.length cd), (w.heap.size + 1 + 1, .slice co le.length cc), (w.heap.size + 1, .slice bo lb.length cb), (w.heap.size, .slice ao la.length ca)] [(.slice dq lm.length cd, lm), (.slice co le.length cc, le), (.slice bo lb.length cb, lb), (.slice ao la.length ca, la)] _) := Lib.hid ((E1.out.below hb))
  clear E1 E0 hb
  obtain ⟨p1, f1, -, -, -⟩ := E2.out.box 3 rfl
  obtain ⟨p2, f2, -, -, -⟩ := E2.out.box 2 rfl
  obtain ⟨p3, f3, -, -, -⟩ := E2.out.box 0 rfl
  go_wp2_with fail
  refine (few3_t _ _ _ (la) _ _ _ (lb) _ _ _ (lm) 8 _ (E2.out.sl 3 rfl) (E2.out.sl 2 rfl) (E2.out.sl 0 rfl) hf.out _ (by simp)).mono ?_
  rintro e w2 ⟨rfl, hb⟩
  have E3 : Hid (EnvB w [(w.heap.size + 1 + 1 + 1, .slice dq lm.length cd), (w.heap.size + 1 + 1, .slice co le.length cc), (w.heap.size + 1, .slice bo lb.length cb), (w.heap.size, .slice ao la.length ca)] [(.slice dq lm.length cd, lm), (.slice co le.length cc, le), (.slice bo lb.length cb, lb), (.slice ao la.length ca, la)] _) := Lib.hid ((E2.out.below hb))
  clear p1 f1 p2 f2 p3 f3 E2 hb
  obtain ⟨p4, f4, -, -, -⟩ := E3.out.box 1 rfl
  go_wp2_with fail
  refine (few1_t _ _ _ (le) 2 _ (E3.out.sl 1 rfl) hf1.out _ (by simp)).mono ?_
  rintro e w3 ⟨rfl, hb⟩
  have E4 : Hid (EnvB w [(w.heap.size + 1 + 1 + 1, .slice dq lm.length cd), (w.heap.size + 1 + 1, .slice co le.length cc), (w.heap.size + 1, .slice bo lb.length cb), (w.heap.size, .slice ao la.length ca)] [(.slice dq lm.length cd, lm), (.slice co le.length cc, le), (.slice bo lb.length cb, lb), (.slice ao la.length ca, la)] _) := Lib.hid ((E3.out.below hb))
  clear p4 f4 E3 hb
  obtain ⟨p5, f5, -, -, -⟩ := E4.out.box 3 rfl
  obtain ⟨p6, f6, -, -, -⟩ := E4.out.box 2 rfl
  obtain ⟨p7, f7, -, -, -⟩ := E4.out.box 0 rfl
  go_wp2_with fail
  refine (mul_z hg.out (by decide) (E4.out.sl 3 rfl) (E4.out.sl 2 rfl) (E4.out.sl 0 rfl)).mono ?_
  rintro e w4 ⟨⟨xa, xk, rfl⟩, hb⟩
  have E5 : Hid (EnvB w [(w.heap.size + 1 + 1 + 1, .slice dq lm.length cd), (w.heap.size + 1 + 1, .slice co le.length cc), (w.heap.size + 1, .slice bo lb.length cb), (w.heap.size, .slice ao la.length ca)] [(.slice dq lm.length cd, lm), (.slice co le.length cc, le), (.slice bo lb.length cb, lb), (.slice ao la.length ca, la)] _) := Lib.hid ((E4.out.below hb))
  clear p5 f5 p6 f6 p7 f7 E4 hb
  have E6 : Hid (EnvB w [(w4.heap.size, .slice xa 0 xk), (w.heap.size + 1 + 1 + 1, .slice dq lm.length cd), (w.heap.size + 1 + 1, .slice co le.length cc), (w.heap.size + 1, .slice bo lb.length cb), (w.heap.size, .slice ao la.length ca)] [(.slice dq lm.length cd, lm), (.slice co le.length cc, le), (.slice bo lb.length cb, lb), (.slice ao la.length ca, la)] _) := Lib.hid ((E5.out.push (.slice xa 0 xk) 24 ⟨_, _, _, rfl⟩ (w4.heap.size) (by simp)))
  obtain ⟨p8, f8, -, -, -⟩ := E6.out.box 4 rfl
  obtain ⟨p9, f9, -, -, -⟩ := E6.out.box 2 rfl
  obtain ⟨p10, f10, -, -, -⟩ := E6.out.box 1 rfl
  go_wp2_with fail
  refine (pow_z2 hv.out hj.out (by decide) (E6.out.sl 3 rfl) (E6.out.sl 1 rfl) (E6.out.sl 0 rfl)).mono ?_
  rintro e w5 ⟨⟨ya, yk, rfl⟩, hb⟩
  have E7 : Hid (EnvB w [(w4.heap.size, .slice xa 0 xk), (w.heap.size + 1 + 1 + 1, .slice dq lm.length cd), (w.heap.size + 1 + 1, .slice co le.length cc), (w.heap.size + 1, .slice bo lb.length cb), (w.heap.size, .slice ao la.length ca)] [(.slice dq lm.length cd, lm), (.slice co le.length cc, le), (.slice bo lb.length cb, lb), (.slice ao la.length ca, la)] _) := Lib.hid ((E6.out.below hb))
  clear p8 f8 p9 f9 p10 f10 E6 E5 hb
  have E8 : Hid (EnvB w [(w5.heap.size, .slice ya 0 yk), (w4.heap.size, .slice xa 0 xk), (w.heap.size + 1 + 1 + 1, .slice dq lm.length cd), (w.heap.size + 1 + 1, .slice co le.length cc), (w.heap.size + 1, .slice bo lb.length cb), (w.heap.size, .slice ao la.length ca)] [(.slice dq lm.length cd, lm), (.slice co le.length cc, le), (.slice bo lb.length cb, lb), (.slice ao la.length ca, la)] _) := Lib.hid ((E7.out.push (.slice ya 0 yk) 24 ⟨_, _, _, rfl⟩ (w5.heap.size) (by simp)))
  obtain ⟨p11, f11, -, -, -⟩ := E8.out.box 2 rfl
  obtain ⟨p12, f12, -, -, -⟩ := E8.out.box 5 rfl
  obtain ⟨p13, f13, -, -, -⟩ := E8.out.box 4 rfl
  go_wp2_with fail
  refine (first2_c _ _ _ (la) _ _ _ (lb) _ _ _ (lm) 2 _ hg.out (E8.out.sl 0 rfl) (E8.out.sl 3 rfl) (E8.out.sl 2 rfl) _ (by simp)).mono ?_
  rintro e w6 ⟨rfl, hb⟩
  have E9 : Hid (EnvB w [(w5.heap.size, .slice ya 0 yk), (w4.heap.size, .slice xa 0 xk), (w.heap.size + 1 + 1 + 1, .slice dq lm.length cd), (w.heap.size + 1 + 1, .slice co le.length cc), (w.heap.size + 1, .slice bo lb.length cb), (w.heap.size, .slice ao la.length ca)] [(.slice dq lm.length cd, lm), (.slice co le.length cc, le), (.slice bo lb.length cb, lb), (.slice ao la.length ca, la)] _) := Lib.hid ((E8.out.below hb))
  clear p11 f11 p12 f12 p13 f13 E8 E7 hb
  obtain ⟨p14, f14, -, -, -⟩ := E9.out.box 1 rfl
  obtain ⟨p15, f15, -, -, -⟩ := E9.out.box 2 rfl
  obtain ⟨p16, f16, -, -, -⟩ := E9.out.box 5 rfl
  go_wp2_with fail
  refine (first1_c _ _ _ (la) _ _ _ (lm) 2 _ hj.out (E9.out.sl 0 rfl) (E9.out.sl 3 rfl) _ (by simp)).mono ?_
  rintro e w7 ⟨rfl, hb⟩
  have E10 : Hid (EnvB w [(w5.heap.size, .slice ya 0 yk), (w4.heap.size, .slice xa 0 xk), (w.heap.size + 1 + 1 + 1, .slice dq lm.length cd), (w.heap.size + 1 + 1, .slice co le.length cc), (w.heap.size + 1, .slice bo lb.length cb), (w.heap.size, .slice ao la.length ca)] [(.slice dq lm.length cd, lm), (.slice co le.length cc, le), (.slice bo lb.length cb, lb), (.slice ao la.length ca, la)] _) := Lib.hid ((E9.out.below hb))
  clear p14 f14 p15 f15 p16 f16 E9 hb
  obtain ⟨p17, f17, -, -, -⟩ := E10.out.box 3 rfl
  go_wp2_with fail
  refine (rValid_of hv.out (E10.out.sl 1 rfl)).mono ?_
  rintro e w8 ⟨rfl, hb⟩
  have E11 : Hid (EnvB w [(w5.heap.size, .slice ya 0 yk), (w4.heap.size, .slice xa 0 xk), (w.heap.size + 1 + 1 + 1, .slice dq lm.length cd), (w.heap.size + 1 + 1, .slice co le.length cc), (w.heap.size + 1, .slice bo lb.length cb), (w.heap.size, .slice ao la.length ca)] [(.slice dq lm.length cd, lm), (.slice co le.length cc, le), (.slice bo lb.length cb, lb), (.slice ao la.length ca, la)] _) := Lib.hid ((E10.out.below hb))
  clear p17 f17 E10 hb
  obtain ⟨p18, f18, -, -, -⟩ := E11.out.box 0 rfl
  have hfin := Lib.hid E11.out.1
  go_wp2
  go_ret
  exact ⟨rfl, hfin.out⟩
theorem NatmodProducts_walk (a b e m : Value) (la lb le lm : List Nat) (w : World) (ha : Sl w a la) (hb : Sl w b lb) (hc : Sl w e le) (hm : Sl w m lm) :
    Calls Try.prog 9 #[.agg #[a], .agg #[b], .agg #[e], .agg #[m]] w fun e w' => e = .returned (.bool true) ∧ Below w.heap.size w w' := by
  obtain ⟨ao, ca, rfl, _⟩ := ha.open
  obtain ⟨bo, cb, rfl, _⟩ := hb.open
  obtain ⟨eo, ce, rfl, _⟩ := hc.open
  obtain ⟨mo, cm, rfl, _⟩ := hm.open
  by_cases hf : la.length ≤ 8 ∧ lb.length ≤ 8 ∧ lm.length ≤ 8
  · by_cases hf1 : le.length ≤ 2
    · rcases fst_cases lm [la, lb] with h | h | h
      · obtain ⟨h1, h2, h3⟩ := fst_zero h
        obtain ⟨Q, rfl, h0, hk, hQ⟩ := mdl_nt hm h1
        obtain ⟨N, rfl, hl1, hN⟩ := nt_of ha (h2 la (by simp))
        obtain ⟨M, rfl, hl2, hM⟩ := nt_of hb (h2 lb (by simp))
        have a1 := h3 (digs N) (by simp)
        have a2 := h3 (digs M) (by simp)
        have hj : fstc (digs Q) [digs N] = 0 := by
          unfold fstc; rw [if_pos ⟨h1, fun l hl => h2 l (by simp at hl; simp [hl])⟩, if_pos (fun l hl => h3 l (by simp at hl; simp [hl]))]
        rw [val_digs, val_digs] at a1 a2
        cases hv : vld le
        · exact Prod_0inv ao ca bo cb eo ce mo cm N M Q le _ _ w hN hM hc hQ hf hf1 h hj hv a1 hk (by omega) (by omega) a2 rfl (by omega)
        · obtain ⟨E, rfl, hl3, hE⟩ := nt_of hc hv
          exact Prod_00 ao ca bo cb eo ce mo cm N M E Q _ _ w hN hM hE hQ hf hf1 h hj hv a1 hk (by omega) (by omega) a2 rfl (by omega) rfl (by omega) (by omega)
      · cases hv : vld le
        · exact Prod_1inv ao ca bo cb eo ce mo cm la lb le lm _ w ha hb hc hm hf hf1 h rfl hv
        · rcases fst_cases lm [la] with h9 | h9 | h9
          · obtain ⟨h1, h2, h3⟩ := fst_zero h9
            obtain ⟨Q, rfl, h0, hk, hQ⟩ := mdl_nt hm h1
            obtain ⟨N, rfl, hl1, hN⟩ := nt_of ha (h2 la (by simp))
            have a1 := h3 (digs N) (by simp)
            rw [val_digs, val_digs] at a1
            obtain ⟨E, rfl, hl3, hE⟩ := nt_of hc hv
            exact Prod_10 ao ca bo cb eo ce mo cm N E Q lb _ w hN hb hE hQ hf hf1 h h9 hv a1 hk (by omega) (by omega) rfl (by omega) (by omega)
          · exact Prod_11 ao ca bo cb eo ce mo cm la lb le lm w ha hb hc hm hf hf1 h h9 hv
          · exact Prod_12 ao ca bo cb eo ce mo cm la lb le lm w ha hb hc hm hf hf1 h h9 hv
      · cases hv : vld le
        · exact Prod_2inv ao ca bo cb eo ce mo cm la lb le lm _ w ha hb hc hm hf hf1 h rfl hv
        · rcases fst_cases lm [la] with h9 | h9 | h9
          · obtain ⟨h1, h2, h3⟩ := fst_zero h9
            obtain ⟨Q, rfl, h0, hk, hQ⟩ := mdl_nt hm h1
            obtain ⟨N, rfl, hl1, hN⟩ := nt_of ha (h2 la (by simp))
            have a1 := h3 (digs N) (by simp)
            rw [val_digs, val_digs] at a1
            obtain ⟨E, rfl, hl3, hE⟩ := nt_of hc hv
            exact Prod_20 ao ca bo cb eo ce mo cm N E Q lb _ w hN hb hE hQ hf hf1 h h9 hv a1 hk (by omega) (by omega) rfl (by omega) (by omega)
          · exact Prod_21 ao ca bo cb eo ce mo cm la lb le lm w ha hb hc hm hf hf1 h h9 hv
          · exact Prod_22 ao ca bo cb eo ce mo cm la lb le lm w ha hb hc hm hf hf1 h h9 hv
    · exact Prod_big1 ao ca bo cb eo ce mo cm la lb le lm w ha hb hc hm hf hf1
  · exact Prod_big ao ca bo cb eo ce mo cm la lb le lm w ha hb hc hm hf
end Go.Proofs.Ythphmgdmhlimjaa
