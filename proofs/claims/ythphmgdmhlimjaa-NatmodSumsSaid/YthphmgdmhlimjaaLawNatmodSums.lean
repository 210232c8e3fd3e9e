/- NatmodSums: the walk. -/
import Derived.Test.YthphmgdmhlimjaaModFrame
import Derived.Test.YthphmgdmhlimjaaModL3
namespace Go.Proofs.Ythphmgdmhlimjaa
open Go.RowKit NatMath
set_option linter.unusedVariables false

set_option maxRecDepth 100000 in
set_option maxHeartbeats 1000000 in
theorem Sums_big (ao : Option Addr) (ca : Nat) (bo : Option Addr) (cb : Nat) (co : Option Addr) (cc : Nat) (la lb lm : List Nat)  (w : World) (ha : Sl w (.slice ao la.length ca) la) (hb : Sl w (.slice bo lb.length cb) lb) (hc : Sl w (.slice co lm.length cc) lm) (hf0 : ¬ (la.length ≤ 70 ∧ lb.length ≤ 70 ∧ lm.length ≤ 70)) :
    Calls Try.prog 4 #[.agg #[.slice ao la.length ca], .agg #[.slice bo lb.length cb], .agg #[.slice co lm.length cc]] w fun e w' => e = .returned (.bool true) ∧ Below w.heap.size w w' := by
  have hf := Lib.hid hf0
  clear hf0
  have E0 : Hid (EnvB w [] [(.slice co lm.length cc, lm), (.slice bo lb.length cb, lb), (.slice ao la.length ca, la)] w) := Lib.hid ((((EnvB.start w).num ha).num hb).num hc)
  clear ha hb hc
  go_enter Try.func4, Try.ntmps4
  go_wp2_with fail
  have E1 : Hid (EnvB w [(w.heap.size + 1 + 1, .slice co lm.length cc), (w.heap.size + 1, .slice bo lb.length cb), (w.heap.size, .slice ao la.length ca)] [(.slice co lm.length cc, lm), (.slice bo lb.length cb, lb), (.slice ao la.length ca, la)] _) := Lib.hid ((((E0.out.push (.slice ao la.length ca) 24 ⟨_, _, _, rfl⟩ (w.heap.size) (by simp)).push (.slice bo lb.length cb) 24 ⟨_, _, _, rfl⟩ (w.heap.size + 1) (by simp)).push (.slice co lm.length cc) 24 ⟨_, _, _, rfl⟩ (w.heap.size + 1 + 1) (by simp)))
  refine (awake_c _).mono ?_
  rintro e w1 ⟨rfl, hb⟩
  have E2 : Hid (EnvB w [(w.heap.size + 1 + 1, .slice co lm.length cc), (w.heap.size + 1, .slice bo lb.length cb), (w.heap.size, .slice ao la.length ca)] [(.slice co lm.length cc, lm), (.slice bo lb.length cb, lb), (.slice ao la.length ca, la)] _) := Lib.hid ((E1.out.below hb))
  clear E1 E0 hb
  obtain ⟨p1, f1, -, -, -⟩ := E2.out.box 2 rfl
  obtain ⟨p2, f2, -, -, -⟩ := E2.out.box 1 rfl
  obtain ⟨p3, f3, -, -, -⟩ := E2.out.box 0 rfl
  go_wp2_with fail
  refine (few3_f _ _ _ la _ _ _ lb _ _ _ lm 70 _ (E2.out.sl 2 rfl) (E2.out.sl 1 rfl) (E2.out.sl 0 rfl) hf.out _ (by simp)).mono ?_
  rintro e w2 ⟨rfl, hb⟩
  have E3 : Hid (EnvB w [(w.heap.size + 1 + 1, .slice co lm.length cc), (w.heap.size + 1, .slice bo lb.length cb), (w.heap.size, .slice ao la.length ca)] [(.slice co lm.length cc, lm), (.slice bo lb.length cb, lb), (.slice ao la.length ca, la)] _) := Lib.hid ((E2.out.below hb))
  clear p1 f1 p2 f2 p3 f3 E2 hb
  go_wp2_with fail
  refine (awake_c _).mono ?_
  rintro e w3 ⟨rfl, hb⟩
  have E4 : Hid (EnvB w [(w.heap.size + 1 + 1, .slice co lm.length cc), (w.heap.size + 1, .slice bo lb.length cb), (w.heap.size, .slice ao la.length ca)] [(.slice co lm.length cc, lm), (.slice bo lb.length cb, lb), (.slice ao la.length ca, la)] _) := Lib.hid ((E3.out.below hb))
  clear E3 hb
  have hfin := Lib.hid E4.out.1
  go_wp2
  go_ret
  exact ⟨rfl, hfin.out⟩
set_option maxRecDepth 100000 in
set_option maxHeartbeats 1000000 in
theorem Sums_e1 (ao : Option Addr) (ca : Nat) (bo : Option Addr) (cb : Nat) (co : Option Addr) (cc : Nat) (la lb lm : List Nat)  (w : World) (ha : Sl w (.slice ao la.length ca) la) (hb : Sl w (.slice bo lb.length cb) lb) (hc : Sl w (.slice co lm.length cc) lm) (hf0 : la.length ≤ 70 ∧ lb.length ≤ 70 ∧ lm.length ≤ 70) (hg0 : fstc lm [la, lb] = 1) :
    Calls Try.prog 4 #[.agg #[.slice ao la.length ca], .agg #[.slice bo lb.length cb], .agg #[.slice co lm.length cc]] w fun e w' => e = .returned (.bool true) ∧ Below w.heap.size w w' := by
  have hf := Lib.hid hf0
  have hg := Lib.hid hg0
  have hv := Lib.hid (gvn_fst.trans hg0)
  clear hf0 hg0
  have E0 : Hid (EnvB w [] [(.slice co lm.length cc, lm), (.slice bo lb.length cb, lb), (.slice ao la.length ca, la)] w) := Lib.hid ((((EnvB.start w).num ha).num hb).num hc)
  clear ha hb hc
  go_enter Try.func4, Try.ntmps4
  go_wp2_with fail
  have E1 : Hid (EnvB w [(w.heap.size + 1 + 1, .slice co lm.length cc), (w.heap.size + 1, .slice bo lb.length cb), (w.heap.size, .slice ao la.length ca)] [(.slice co lm.length cc, lm), (.slice bo lb.length cb, lb), (.slice ao la.length ca, la)] _) := Lib.hid ((((E0.out.push (.slice ao la.length ca) 24 ⟨_, _, _, rfl⟩ (w.heap.size) (by simp)).push (.slice bo lb.length cb) 24 ⟨_, _, _, rfl⟩ (w.heap.size + 1) (by simp)).push (.slice co lm.length cc) 24 ⟨_, _, _, rfl⟩ (w.heap.size + 1 + 1) (by simp)))
  refine (awake_c _).mono ?_
  rintro e w1 ⟨rfl, hb⟩
  have E2 : Hid (EnvB w [(w.heap.size + 1 + 1, .slice co lm.length cc), (w.heap.size + 1, .slice bo lb.length cb), (w.heap.size, .slice ao la.length ca)] [(.slice co lm.length cc, lm), (.slice bo lb.length cb, lb), (.slice ao la.length ca, la)] _) := Lib.hid ((E1.out.below hb))
  clear E1 E0 hb
  obtain ⟨p1, f1, -, -, -⟩ := E2.out.box 2 rfl
  obtain ⟨p2, f2, -, -, -⟩ := E2.out.box 1 rfl
  obtain ⟨p3, f3, -, -, -⟩ := E2.out.box 0 rfl
  go_wp2_with fail
  refine (few3_t _ _ _ la _ _ _ lb _ _ _ lm 70 _ (E2.out.sl 2 rfl) (E2.out.sl 1 rfl) (E2.out.sl 0 rfl) hf.out _ (by simp)).mono ?_
  rintro e w2 ⟨rfl, hb⟩
  have E3 : Hid (EnvB w [(w.heap.size + 1 + 1, .slice co lm.length cc), (w.heap.size + 1, .slice bo lb.length cb), (w.heap.size, .slice ao la.length ca)] [(.slice co lm.length cc, lm), (.slice bo lb.length cb, lb), (.slice ao la.length ca, la)] _) := Lib.hid ((E2.out.below hb))
  clear p1 f1 p2 f2 p3 f3 E2 hb
  obtain ⟨p4, f4, -, -, -⟩ := E3.out.box 2 rfl
  obtain ⟨p5, f5, -, -, -⟩ := E3.out.box 1 rfl
  obtain ⟨p6, f6, -, -, -⟩ := E3.out.box 0 rfl
  go_wp2_with fail
  refine (calls_z (Add_e hv.out (by decide) (E3.out.sl 2 rfl) (E3.out.sl 1 rfl) (E3.out.sl 0 rfl))).mono ?_
  rintro e w3 ⟨⟨xa, xk, rfl⟩, hb⟩
  have E4 : Hid (EnvB w [(w.heap.size + 1 + 1, .slice co lm.length cc), (w.heap.size + 1, .slice bo lb.length cb), (w.heap.size, .slice ao la.length ca)] [(.slice co lm.length cc, lm), (.slice bo lb.length cb, lb), (.slice ao la.length ca, la)] _) := Lib.hid ((E3.out.below hb))
  clear p4 f4 p5 f5 p6 f6 E3 hb
  have E5 : Hid (EnvB w [(w3.heap.size, .slice xa 0 xk), (w.heap.size + 1 + 1, .slice co lm.length cc), (w.heap.size + 1, .slice bo lb.length cb), (w.heap.size, .slice ao la.length ca)] [(.slice co lm.length cc, lm), (.slice bo lb.length cb, lb), (.slice ao la.length ca, la)] _) := Lib.hid ((E4.out.push (.slice xa 0 xk) 24 ⟨_, _, _, rfl⟩ (w3.heap.size) (by simp)))
  obtain ⟨p7, f7, -, -, -⟩ := E5.out.box 3 rfl
  obtain ⟨p8, f8, -, -, -⟩ := E5.out.box 2 rfl
  obtain ⟨p9, f9, -, -, -⟩ := E5.out.box 1 rfl
  go_wp2_with fail
  refine (calls_z (Sub_e hv.out (by decide) (E5.out.sl 2 rfl) (E5.out.sl 1 rfl) (E5.out.sl 0 rfl))).mono ?_
  rintro e w4 ⟨⟨ya, yk, rfl⟩, hb⟩
  have E6 : Hid (EnvB w [(w3.heap.size, .slice xa 0 xk), (w.heap.size + 1 + 1, .slice co lm.length cc), (w.heap.size + 1, .slice bo lb.length cb), (w.heap.size, .slice ao la.length ca)] [(.slice co lm.length cc, lm), (.slice bo lb.length cb, lb), (.slice ao la.length ca, la)] _) := Lib.hid ((E5.out.below hb))
  clear p7 f7 p8 f8 p9 f9 E5 E4 hb
  have E7 : Hid (EnvB w [(w4.heap.size, .slice ya 0 yk), (w3.heap.size, .slice xa 0 xk), (w.heap.size + 1 + 1, .slice co lm.length cc), (w.heap.size + 1, .slice bo lb.length cb), (w.heap.size, .slice ao la.length ca)] [(.slice co lm.length cc, lm), (.slice bo lb.length cb, lb), (.slice ao la.length ca, la)] _) := Lib.hid ((E6.out.push (.slice ya 0 yk) 24 ⟨_, _, _, rfl⟩ (w4.heap.size) (by simp)))
  obtain ⟨p10, f10, -, -, -⟩ := E7.out.box 2 rfl
  obtain ⟨p11, f11, -, -, -⟩ := E7.out.box 4 rfl
  obtain ⟨p12, f12, -, -, -⟩ := E7.out.box 3 rfl
  go_wp2_with fail
  refine (first2_c _ _ _ la _ _ _ lb _ _ _ lm 1 _ hg.out (E7.out.sl 0 rfl) (E7.out.sl 2 rfl) (E7.out.sl 1 rfl) _ (by simp)).mono ?_
  rintro e w5 ⟨rfl, hb⟩
  have E8 : Hid (EnvB w [(w4.heap.size, .slice ya 0 yk), (w3.heap.size, .slice xa 0 xk), (w.heap.size + 1 + 1, .slice co lm.length cc), (w.heap.size + 1, .slice bo lb.length cb), (w.heap.size, .slice ao la.length ca)] [(.slice co lm.length cc, lm), (.slice bo lb.length cb, lb), (.slice ao la.length ca, la)] _) := Lib.hid ((E7.out.below hb))
  clear p10 f10 p11 f11 p12 f12 E7 E6 hb
  obtain ⟨p13, f13, -, -, -⟩ := E8.out.box 1 rfl
  obtain ⟨p14, f14, -, -, -⟩ := E8.out.box 0 rfl
  have hfin := Lib.hid E8.out.1
  go_wp2
  go_ret
  exact ⟨rfl, hfin.out⟩
set_option maxRecDepth 100000 in
set_option maxHeartbeats 1000000 in
theorem Sums_e2 (ao : Option Addr) (ca : Nat) (bo : Option Addr) (cb : Nat) (co : Option Addr) (cc : Nat) (la lb lm : List Nat)  (w : World) (ha : Sl w (.slice ao la.length ca) la) (hb : Sl w (.slice bo lb.length cb) lb) (hc : Sl w (.slice co lm.length cc) lm) (hf0 : la.length ≤ 70 ∧ lb.length ≤ 70 ∧ lm.length ≤ 70) (hg0 : fstc lm [la, lb] = 2) :
    Calls Try.prog 4 #[.agg #[.slice ao la.length ca], .agg #[.slice bo lb.length cb], .agg #[.slice co lm.length cc]] w fun e w' => e = .returned (.bool true) ∧ Below w.heap.size w w' := by
  have hf := Lib.hid hf0
  have hg := Lib.hid hg0
  have hv := Lib.hid (gvn_fst.trans hg0)
  clear hf0 hg0
  have E0 : Hid (EnvB w [] [(.slice co lm.length cc, lm), (.slice bo lb.length cb, lb), (.slice ao la.length ca, la)] w) := Lib.hid ((((EnvB.start w).num ha).num hb).num hc)
  clear ha hb hc
  go_enter Try.func4, Try.ntmps4
  go_wp2_with fail
  have E1 : Hid (EnvB w [(w.heap.size + 1 + 1, .slice co lm.length cc), (w.heap.size + 1, .slice bo lb.length cb), (w.heap.size, .slice ao la.length ca)] [(.slice co lm.length cc, lm), (.slice bo lb.length cb, lb), (.slice ao la.length ca, la)] _) := Lib.hid ((((E0.out.push (.slice ao la.length ca) 24 ⟨_, _, _, rfl⟩ (w.heap.size) (by simp)).push (.slice bo lb.length cb) 24 ⟨_, _, _, rfl⟩ (w.heap.size + 1) (by simp)).push (.slice co lm.length cc) 24 ⟨_, _, _, rfl⟩ (w.heap.size + 1 + 1) (by simp)))
  refine (awake_c _).mono ?_
  rintro e w1 ⟨rfl, hb⟩
  have E2 : Hid (EnvB w [(w.heap.size + 1 + 1, .slice co lm.length cc), (w.heap.size + 1, .slice bo lb.length cb), (w.heap.size, .slice ao la.length ca)] [(.slice co lm.length cc, lm), (.slice bo lb.length cb, lb), (.slice ao la.length ca, la)] _) := Lib.hid ((E1.out.below hb))
  clear E1 E0 hb
  obtain ⟨p1, f1, -, -, -⟩ := E2.out.box 2 rfl
  obtain ⟨p2, f2, -, -, -⟩ := E2.out.box 1 rfl
  obtain ⟨p3, f3, -, -, -⟩ := E2.out.box 0 rfl
  go_wp2_with fail
  refine (few3_t _ _ _ la _ _ _ lb _ _ _ lm 70 _ (E2.out.sl 2 rfl) (E2.out.sl 1 rfl) (E2.out.sl 0 rfl) hf.out _ (by simp)).mono ?_
  rintro e w2 ⟨rfl, hb⟩
  have E3 : Hid (EnvB w [(w.heap.size + 1 + 1, .slice co lm.length cc), (w.heap.size + 1, .slice bo lb.length cb), (w.heap.size, .slice ao la.length ca)] [(.slice co lm.length cc, lm), (.slice bo lb.length cb, lb), (.slice ao la.length ca, la)] _) := Lib.hid ((E2.out.below hb))
  clear p1 f1 p2 f2 p3 f3 E2 hb
  obtain ⟨p4, f4, -, -, -⟩ := E3.out.box 2 rfl
  obtain ⟨p5, f5, -, -, -⟩ := E3.out.box 1 rfl
  obtain ⟨p6, f6, -, -, -⟩ := E3.out.box 0 rfl
  go_wp2_with fail
  refine (calls_z (Add_e hv.out (by decide) (E3.out.sl 2 rfl) (E3.out.sl 1 rfl) (E3.out.sl 0 rfl))).mono ?_
  rintro e w3 ⟨⟨xa, xk, rfl⟩, hb⟩
  have E4 : Hid (EnvB w [(w.heap.size + 1 + 1, .slice co lm.length cc), (w.heap.size + 1, .slice bo lb.length cb), (w.heap.size, .slice ao la.length ca)] [(.slice co lm.length cc, lm), (.slice bo lb.length cb, lb), (.slice ao la.length ca, la)] _) := Lib.hid ((E3.out.below hb))
  clear p4 f4 p5 f5 p6 f6 E3 hb
  have E5 : Hid (EnvB w [(w3.heap.size, .slice xa 0 xk), (w.heap.size + 1 + 1, .slice co lm.length cc), (w.heap.size + 1, .slice bo lb.length cb), (w.heap.size, .slice ao la.length ca)] [(.slice co lm.length cc, lm), (.slice bo lb.length cb, lb), (.slice ao la.length ca, la)] _) := Lib.hid ((E4.out.push (.slice xa 0 xk) 24 ⟨_, _, _, rfl⟩ (w3.heap.size) (by simp)))
  obtain ⟨p7, f7, -, -, -⟩ := E5.out.box 3 rfl
  obtain ⟨p8, f8, -, -, -⟩ := E5.out.box 2 rfl
  obtain ⟨p9, f9, -, -, -⟩ := E5.out.box 1 rfl
  go_wp2_with fail
  refine (calls_z (Sub_e hv.out (by decide) (E5.out.sl 2 rfl) (E5.out.sl 1 rfl) (E5.out.sl 0 rfl))).mono ?_
  rintro e w4 ⟨⟨ya, yk, rfl⟩, hb⟩
  have E6 : Hid (EnvB w [(w3.heap.size, .slice xa 0 xk), (w.heap.size + 1 + 1, .slice co lm.length cc), (w.heap.size + 1, .slice bo lb.length cb), (w.heap.size, .slice ao la.length ca)] [(.slice co lm.length cc, lm), (.slice bo lb.length cb, lb), (.slice ao la.length ca, la)] _) := Lib.hid ((E5.out.below hb))
  clear p7 f7 p8 f8 p9 f9 E5 E4 hb
  have E7 : Hid (EnvB w [(w4.heap.size, .slice ya 0 yk), (w3.heap.size, .slice xa 0 xk), (w.heap.size + 1 + 1, .slice co lm.length cc), (w.heap.size + 1, .slice bo lb.length cb), (w.heap.size, .slice ao la.length ca)] [(.slice co lm.length cc, lm), (.slice bo lb.length cb, lb), (.slice ao la.length ca, la)] _) := Lib.hid ((E6.out.push (.slice ya 0 yk) 24 ⟨_, _, _, rfl⟩ (w4.heap.size) (by simp)))
  obtain ⟨p10, f10, -, -, -⟩ := E7.out.box 2 rfl
  obtain ⟨p11, f11, -, -, -⟩ := E7.out.box 4 rfl
  obtain ⟨p12, f12, -, -, -⟩ := E7.out.box 3 rfl
  go_wp2_with fail
  refine (first2_c _ _ _ la _ _ _ lb _ _ _ lm 2 _ hg.out (E7.out.sl 0 rfl) (E7.out.sl 2 rfl) (E7.out.sl 1 rfl) _ (by simp)).mono ?_
  rintro e w5 ⟨rfl, hb⟩
  have E8 : Hid (EnvB w [(w4.heap.size, .slice ya 0 yk), (w3.heap.size, .slice xa 0 xk), (w.heap.size + 1 + 1, .slice co lm.length cc), (w.heap.size + 1, .slice bo lb.length cb), (w.heap.size, .slice ao la.length ca)] [(.slice co lm.length cc, lm), (.slice bo lb.length cb, lb), (.slice ao la.length ca, la)] _) := Lib.hid ((E7.out.below hb))
  clear p10 f10 p11 f11 p12 f12 E7 E6 hb
  obtain ⟨p13, f13, -, -, -⟩ := E8.out.box 1 rfl
  obtain ⟨p14, f14, -, -, -⟩ := E8.out.box 0 rfl
  have hfin := Lib.hid E8.out.1
  go_wp2
  go_ret
  exact ⟨rfl, hfin.out⟩
set_option maxRecDepth 100000 in
set_option maxHeartbeats 1000000 in
theorem Sums_ok (ao : Option Addr) (ca : Nat) (bo : Option Addr) (cb : Nat) (co : Option Addr) (cc : Nat) (N M Q : Nat)  (w : World) (ha : Nt w (.slice ao (len N) ca) N) (hb : Nt w (.slice bo (len M) cb) M) (hc : Nt w (.slice co (len Q) cc) Q) (hn0 : N < Q) (hm0 : M < Q) (hk0 : len Q ≤ 32) (hf0 : len N ≤ 70 ∧ len M ≤ 70 ∧ len Q ≤ 70) (hg0 : fstc (digs Q) [digs N, digs M] = 0) (r1 r2 : Nat) (h10 : (N + M) % Q = r1) (h20 : subm N M Q = r2) :
    Calls Try.prog 4 #[.agg #[.slice ao (len N) ca], .agg #[.slice bo (len M) cb], .agg #[.slice co (len Q) cc]] w fun e w' => e = .returned (.bool true) ∧ Below w.heap.size w w' := by
  have hn := Lib.hid hn0
  have hm := Lib.hid hm0
  have hk := Lib.hid hk0
  have hf := Lib.hid hf0
  have hg := Lib.hid hg0
  have h1 := Lib.hid h10
  have h2 := Lib.hid h20
  have hk5 : Hid (len Q ≤ 5000) := Lib.hid (by omega)
  clear hn0 hm0 hk0 hf0 hg0 h10 h20
  have E0 : Hid (EnvB w [] [(.slice co (len Q) cc, digs Q), (.slice bo (len M) cb, digs M), (.slice ao (len N) ca, digs N)] w) := Lib.hid ((((EnvB.start w).numN ha).numN hb).numN hc)
  clear ha hb hc
  go_enter Try.func4, Try.ntmps4
  go_wp2_with fail
  have E1 : Hid (EnvB w [(w.heap.size + 1 + 1, .slice co (len Q) cc), (w.heap.size + 1, .slice bo (len M) cb), (w.heap.size, .slice ao (len N) ca)] [(.slice co (len Q) cc, digs Q), (.slice bo (len M) cb, digs M), (.slice ao (len N) ca, digs N)] _) := Lib.hid ((((E0.out.push (.slice ao (len N) ca) 24 ⟨_, _, _, rfl⟩ (w.heap.size) (by simp)).push (.slice bo (len M) cb) 24 ⟨_, _, _, rfl⟩ (w.heap.size + 1) (by simp)).push (.slice co (len Q) cc) 24 ⟨_, _, _, rfl⟩ (w.heap.size + 1 + 1) (by simp)))
  refine (awake_c _).mono ?_
  rintro e w1 ⟨rfl, hb⟩
  have E2 : Hid (EnvB w [(w.heap.size + 1 + 1, .slice co (len Q) cc), (w.heap.size + 1, .slice bo (len M) cb), (w.heap.size, .slice ao (len N) ca)] [(.slice co (len Q) cc, digs Q), (.slice bo (len M) cb, digs M), (.slice ao (len N) ca, digs N)] _) := Lib.hid ((E1.out.below hb))
  clear E1 E0 hb
  obtain ⟨p1, f1, -, -, -⟩ := E2.out.box 2 rfl
  obtain ⟨p2, f2, -, -, -⟩ := E2.out.box 1 rfl
  obtain ⟨p3, f3, -, -, -⟩ := E2.out.box 0 rfl
  go_wp2_with fail
  refine (few3_t _ _ _ (digs N) _ _ _ (digs M) _ _ _ (digs Q) 70 _ (E2.out.nt 2 rfl) (E2.out.nt 1 rfl) (E2.out.nt 0 rfl) hf.out _ (by simp)).mono ?_
  rintro e w2 ⟨rfl, hb⟩
  have E3 : Hid (EnvB w [(w.heap.size + 1 + 1, .slice co (len Q) cc), (w.heap.size + 1, .slice bo (len M) cb), (w.heap.size, .slice ao (len N) ca)] [(.slice co (len Q) cc, digs Q), (.slice bo (len M) cb, digs M), (.slice ao (len N) ca, digs N)] _) := Lib.hid ((E2.out.below hb))
  clear p1 f1 p2 f2 p3 f3 E2 hb
  obtain ⟨p4, f4, -, -, -⟩ := E3.out.box 2 rfl
  obtain ⟨p5, f5, -, -, -⟩ := E3.out.box 1 rfl
  obtain ⟨p6, f6, -, -, -⟩ := E3.out.box 0 rfl
  go_wp2_with fail
  refine (Add_m h1.out hn.out hm.out hk.out (E3.out.nt 2 rfl) (E3.out.nt 1 rfl) (E3.out.nt 0 rfl)).mono ?_
  rintro e w3 ⟨⟨xa, xk, rfl, hx⟩, hb⟩
  have E4 : Hid (EnvB w [(w.heap.size + 1 + 1, .slice co (len Q) cc), (w.heap.size + 1, .slice bo (len M) cb), (w.heap.size, .slice ao (len N) ca)] [(.slice xa (len r1) xk, digs r1), (.slice co (len Q) cc, digs Q), (.slice bo (len M) cb, digs M), (.slice ao (len N) ca, digs N)] _) := Lib.hid (((E3.out.below hb).numN (hx.out : Nt _ _ r1)))
  clear p4 f4 p5 f5 p6 f6 E3 hb hx
  have E5 : Hid (EnvB w [(w3.heap.size, .slice xa (len r1) xk), (w.heap.size + 1 + 1, .slice co (len Q) cc), (w.heap.size + 1, .slice bo (len M) cb), (w.heap.size, .slice ao (len N) ca)] [(.slice xa (len r1) xk, digs r1), (.slice co (len Q) cc, digs Q), (.slice bo (len M) cb, digs M), (.slice ao (len N) ca, digs N)] _) := Lib.hid ((E4.out.push (.slice xa (len r1) xk) 24 ⟨_, _, _, rfl⟩ (w3.heap.size) (by simp)))
  obtain ⟨p7, f7, -, -, -⟩ := E5.out.box 3 rfl
  obtain ⟨p8, f8, -, -, -⟩ := E5.out.box 2 rfl
  obtain ⟨p9, f9, -, -, -⟩ := E5.out.box 1 rfl
  go_wp2_with fail
  refine (Sub_m h2.out hn.out hm.out hk.out (E5.out.nt 3 rfl) (E5.out.nt 2 rfl) (E5.out.nt 1 rfl)).mono ?_
  rintro e w4 ⟨⟨ya, yk, rfl, hy⟩, hb⟩
  have E6 : Hid (EnvB w [(w3.heap.size, .slice xa (len r1) xk), (w.heap.size + 1 + 1, .slice co (len Q) cc), (w.heap.size + 1, .slice bo (len M) cb), (w.heap.size, .slice ao (len N) ca)] [(.slice ya (len r2) yk, digs r2), (.slice xa (len r1) xk, digs r1), (.slice co (len Q) cc, digs Q), (.slice bo (len M) cb, digs M), (.slice ao (len N) ca, digs N)] _) := Lib.hid (((E5.out.below hb).numN (hy.out : Nt _ _ r2)))
  clear p7 f7 p8 f8 p9 f9 E5 E4 hb hy
  have E7 : Hid (EnvB w [(w4.heap.size, .slice ya (len r2) yk), (w3.heap.size, .slice xa (len r1) xk), (w.heap.size + 1 + 1, .slice co (len Q) cc), (w.heap.size + 1, .slice bo (len M) cb), (w.heap.size, .slice ao (len N) ca)] [(.slice ya (len r2) yk, digs r2), (.slice xa (len r1) xk, digs r1), (.slice co (len Q) cc, digs Q), (.slice bo (len M) cb, digs M), (.slice ao (len N) ca, digs N)] _) := Lib.hid ((E6.out.push (.slice ya (len r2) yk) 24 ⟨_, _, _, rfl⟩ (w4.heap.size) (by simp)))
  obtain ⟨p10, f10, -, -, -⟩ := E7.out.box 2 rfl
  obtain ⟨p11, f11, -, -, -⟩ := E7.out.box 4 rfl
  obtain ⟨p12, f12, -, -, -⟩ := E7.out.box 3 rfl
  go_wp2_with fail
  refine (first2_c _ _ _ (digs N) _ _ _ (digs M) _ _ _ (digs Q) 0 _ hg.out (E7.out.nt 2 rfl) (E7.out.nt 4 rfl) (E7.out.nt 3 rfl) _ (by simp)).mono ?_
  rintro e w5 ⟨rfl, hb⟩
  have E8 : Hid (EnvB w [(w4.heap.size, .slice ya (len r2) yk), (w3.heap.size, .slice xa (len r1) xk), (w.heap.size + 1 + 1, .slice co (len Q) cc), (w.heap.size + 1, .slice bo (len M) cb), (w.heap.size, .slice ao (len N) ca)] [(.slice ya (len r2) yk, digs r2), (.slice xa (len r1) xk, digs r1), (.slice co (len Q) cc, digs Q), (.slice bo (len M) cb, digs M), (.slice ao (len N) ca, digs N)] _) := Lib.hid ((E7.out.below hb))
  clear p10 f10 p11 f11 p12 f12 E7 E6 hb
  go_wp2_with fail
  have bx0 := Lib.hid (E8.out.box 1 rfl)
  have bx1 := Lib.hid (E8.out.box 4 rfl)
  have bx2 := Lib.hid (E8.out.box 3 rfl)
  have bx3 := Lib.hid (E8.out.box 2 rfl)
  have bx4 := Lib.hid (E8.out.box 0 rfl)
  refine' wp_region_phase (by kernel_rfl) [0, 1, 2, 3, 4, 5, 6, 7, 8, 9, 10, 11, 12, 13, 14, 15, 16, 17, 18, 19, 20, 21] (by kernel_rfl) #[true, true, true, true, true, true, true, true, true, true, true, true, true, true, true, true, true, true, true, true, true, true, false] (by kernel_rfl) 1 (by kernel_rfl) [PEq (.agg #[.slice xa (len r1) xk]), PEq (.agg #[.slice ao (len N) ca]), PEq (.agg #[.slice bo (len M) cb]), PEq (.agg #[.slice co (len Q) cc]), PNum (r1), PEq (.bool true), PEq (.bool true), PEq (.int .i64 0), PEq (.bool true), PEq (.bool true), PEq (.bool true), PEq (.agg #[.slice ya (len r2) yk]), PEq (.agg #[.slice ao (len N) ca]), PEq (.agg #[.slice bo (len M) cb]), PEq (.agg #[.slice co (len Q) cc]), PNum (r2), PEq (.bool true), PEq (.bool true), PEq (.bool true), PEq (.int .i64 0), PEq (.bool true), PEq (.bool true), Fact.none] (List.forall_mem_cons.2 ⟨PEq.st _, List.forall_mem_cons.2 ⟨PEq.st _, List.forall_mem_cons.2 ⟨PEq.st _, List.forall_mem_cons.2 ⟨PEq.st _, List.forall_mem_cons.2 ⟨PNum.st _, List.forall_mem_cons.2 ⟨PEq.st _, List.forall_mem_cons.2 ⟨PEq.st _, List.forall_mem_cons.2 ⟨PEq.st _, List.forall_mem_cons.2 ⟨PEq.st _, List.forall_mem_cons.2 ⟨PEq.st _, List.forall_mem_cons.2 ⟨PEq.st _, List.forall_mem_cons.2 ⟨PEq.st _, List.forall_mem_cons.2 ⟨PEq.st _, List.forall_mem_cons.2 ⟨PEq.st _, List.forall_mem_cons.2 ⟨PEq.st _, List.forall_mem_cons.2 ⟨PNum.st _, List.forall_mem_cons.2 ⟨PEq.st _, List.forall_mem_cons.2 ⟨PEq.st _, List.forall_mem_cons.2 ⟨PEq.st _, List.forall_mem_cons.2 ⟨PEq.st _, List.forall_mem_cons.2 ⟨PEq.st _, List.forall_mem_cons.2 ⟨PEq.st _, List.forall_mem_cons.2 ⟨Fact.none_st, List.forall_mem_nil _⟩⟩⟩⟩⟩⟩⟩⟩⟩⟩⟩⟩⟩⟩⟩⟩⟩⟩⟩⟩⟩⟩⟩) _ ?hFr1 ?stepr1 ?doner1
  case hFr1 => intro x; simp only [frameL, Act.put, List.setIfInBounds_toArray, List.set_cons_zero, List.set_cons_succ, Nat.zero_add, Nat.reduceAdd]; exact rfl
  case stepr1 =>
    refine List.forall_mem_cons.2 ⟨?_, ?_⟩
    · intro xv bv ev WW hB hdp
      refine op_of rfl ?_
      clear hdp
      intro KK hKK
      obtain ⟨z, -, -, -, -⟩ := bx0.out.below hB
      go_simp
      exact act_eq (hKK.out (.agg #[.slice xa (len r1) xk]) _ (Below.refl _ _) rfl) (by first | rfl | simp [upd])
    refine List.forall_mem_cons.2 ⟨?_, ?_⟩
    · intro xv bv ev WW hB hdp
      refine op_of rfl ?_
      clear hdp
      intro KK hKK
      obtain ⟨z, -, -, -, -⟩ := bx1.out.below hB
      go_simp
      exact act_eq (hKK.out (.agg #[.slice ao (len N) ca]) _ (Below.refl _ _) rfl) (by first | rfl | simp [upd])
    refine List.forall_mem_cons.2 ⟨?_, ?_⟩
    · intro xv bv ev WW hB hdp
      refine op_of rfl ?_
      clear hdp
      intro KK hKK
      obtain ⟨z, -, -, -, -⟩ := bx2.out.below hB
      go_simp
      exact act_eq (hKK.out (.agg #[.slice bo (len M) cb]) _ (Below.refl _ _) rfl) (by first | rfl | simp [upd])
    refine List.forall_mem_cons.2 ⟨?_, ?_⟩
    · intro xv bv ev WW hB hdp
      refine op_of rfl ?_
      clear hdp
      intro KK hKK
      obtain ⟨z, -, -, -, -⟩ := bx3.out.below hB
      go_simp
      exact act_eq (hKK.out (.agg #[.slice co (len Q) cc]) _ (Below.refl _ _) rfl) (by first | rfl | simp [upd])
    refine List.forall_mem_cons.2 ⟨?_, ?_⟩
    · intro xv bv ev WW hB hdp
      refine op_of rfl ?_
      have ed1 : xv 1 = .agg #[.slice ao (len N) ca] := hdp 1 (by kernel_rfl)
      have ed2 : xv 2 = .agg #[.slice bo (len M) cb] := hdp 2 (by kernel_rfl)
      have ed3 : xv 3 = .agg #[.slice co (len Q) cc] := hdp 3 (by kernel_rfl)
      clear hdp
      intro KK hKK
      go_simp
      refine (rAdd_c h1.out hn.out hm.out hk5.out ((E8.out.below hB).nt 4 rfl) ((E8.out.below hB).nt 3 rfl) ((E8.out.below hB).nt 2 rfl)).mono ?_
      rintro e WW' ⟨⟨ua, uk, rfl, hu⟩, hb⟩
      (try dsimp only)
      (try simp only [Act.put, List.setIfInBounds_toArray, List.set_cons_zero, List.set_cons_succ])
      exact act_eq (hKK.out _ _ hb ⟨_, _, rfl, hu⟩) (by first | rfl | simp [upd, ed1, ed2, ed3])
    refine List.forall_mem_cons.2 ⟨?_, ?_⟩
    · intro xv bv ev WW hB hdp
      refine op_of rfl ?_
      have ed0 : xv 0 = .agg #[.slice xa (len r1) xk] := hdp 0 (by kernel_rfl)
      obtain ⟨ua, uk, ed4, hu⟩ := (show (PNum (r1)) (xv 4) (bv 4) (ev 4) WW from hdp 4 (by kernel_rfl))
      clear hdp
      intro KK hKK
      go_simp
      refine (same_c (t := true) (by simp) ((E8.out.below hB).nt 1 rfl) hu.out).mono ?_
      rintro e WW' ⟨rfl, hb⟩
      (try dsimp only)
      (try simp only [Act.put, List.setIfInBounds_toArray, List.set_cons_zero, List.set_cons_succ])
      exact act_eq (hKK.out _ _ hb rfl) (by first | rfl | simp [upd, ed0, ed4])
    refine List.forall_mem_cons.2 ⟨?_, ?_⟩
    · intro xv bv ev WW hB hdp
      refine op_of rfl ?_
      have ed5 : xv 5 = .bool true := hdp 5 (by kernel_rfl)
      clear hdp
      intro KK hKK
      go_simp
      exact act_eq (hKK.out _ _ (Below.refl _ _) rfl) (by first | rfl | simp [upd, ed5])
    refine List.forall_mem_cons.2 ⟨?_, ?_⟩
    · intro xv bv ev WW hB hdp
      refine op_of rfl ?_
      have ed6 : xv 6 = .bool true := hdp 6 (by kernel_rfl)
      clear hdp
      intro KK hKK
      refine op_guard (d := 70) rfl rfl (by first | exact congrArg some ed6 | simp [ed6]) ?_
      go_simp
      exact act_eq (hKK.out _ _ (Below.refl _ _) rfl) (by first | rfl | simp [upd, ed6])
    refine List.forall_mem_cons.2 ⟨?_, ?_⟩
    · intro xv bv ev WW hB hdp
      refine op_of rfl ?_
      have ed7 : xv 7 = .int .i64 0 := hdp 7 (by kernel_rfl)
      have ed6 : xv 6 = .bool true := hdp 6 (by kernel_rfl)
      clear hdp
      intro KK hKK
      refine op_guard (d := 70) rfl rfl (by first | exact congrArg some ed6 | simp [ed6]) ?_
      go_simp
      exact act_eq (hKK.out _ _ (Below.refl _ _) rfl) (by first | rfl | simp [upd, ed7, ed6])
    refine List.forall_mem_cons.2 ⟨?_, ?_⟩
    · intro xv bv ev WW hB hdp
      refine op_of rfl ?_
      have ed6 : xv 6 = .bool true := hdp 6 (by kernel_rfl)
      have ed8 : xv 8 = .bool true := hdp 8 (by kernel_rfl)
      clear hdp
      intro KK hKK
      go_simp
      exact act_eq (hKK.out _ _ (Below.refl _ _) rfl) (by first | rfl | simp [upd, ed6, ed8])
    refine List.forall_mem_cons.2 ⟨?_, ?_⟩
    · intro xv bv ev WW hB hdp
      refine op_of rfl ?_
      have ed9 : xv 9 = .bool true := hdp 9 (by kernel_rfl)
      clear hdp
      intro KK hKK
      go_simp
      exact act_eq (hKK.out _ _ (Below.refl _ _) rfl) (by first | rfl | simp [upd, ed9])
    refine List.forall_mem_cons.2 ⟨?_, ?_⟩
    · intro xv bv ev WW hB hdp
      refine op_of rfl ?_
      have ed10 : xv 10 = .bool true := hdp 10 (by kernel_rfl)
      clear hdp
      intro KK hKK
      refine op_guard (d := 74) rfl rfl (by first | exact congrArg some ed10 | simp [ed10]) ?_
      obtain ⟨z, -, -, -, -⟩ := bx4.out.below hB
      go_simp
      exact act_eq (hKK.out (.agg #[.slice ya (len r2) yk]) _ (Below.refl _ _) rfl) (by first | rfl | simp [upd, ed10])
    refine List.forall_mem_cons.2 ⟨?_, ?_⟩
    · intro xv bv ev WW hB hdp
      refine op_of rfl ?_
      have ed10 : xv 10 = .bool true := hdp 10 (by kernel_rfl)
      clear hdp
      intro KK hKK
      refine op_guard (d := 74) rfl rfl (by first | exact congrArg some ed10 | simp [ed10]) ?_
      obtain ⟨z, -, -, -, -⟩ := bx1.out.below hB
      go_simp
      exact act_eq (hKK.out (.agg #[.slice ao (len N) ca]) _ (Below.refl _ _) rfl) (by first | rfl | simp [upd, ed10])
    refine List.forall_mem_cons.2 ⟨?_, ?_⟩
    · intro xv bv ev WW hB hdp
      refine op_of rfl ?_
      have ed10 : xv 10 = .bool true := hdp 10 (by kernel_rfl)
      clear hdp
      intro KK hKK
      refine op_guard (d := 74) rfl rfl (by first | exact congrArg some ed10 | simp [ed10]) ?_
      obtain ⟨z, -, -, -, -⟩ := bx2.out.below hB
      go_simp
      exact act_eq (hKK.out (.agg #[.slice bo (len M) cb]) _ (Below.refl _ _) rfl) (by first | rfl | simp [upd, ed10])
    refine List.forall_mem_cons.2 ⟨?_, ?_⟩
    · intro xv bv ev WW hB hdp
      refine op_of rfl ?_
      have ed10 : xv 10 = .bool true := hdp 10 (by kernel_rfl)
      clear hdp
      intro KK hKK
      refine op_guard (d := 74) rfl rfl (by first | exact congrArg some ed10 | simp [ed10]) ?_
      obtain ⟨z, -, -, -, -⟩ := bx3.out.below hB
      go_simp
      exact act_eq (hKK.out (.agg #[.slice co (len Q) cc]) _ (Below.refl _ _) rfl) (by first | rfl | simp [upd, ed10])
    refine List.forall_mem_cons.2 ⟨?_, ?_⟩
    · intro xv bv ev WW hB hdp
      refine op_of rfl ?_
      have ed12 : xv 12 = .agg #[.slice ao (len N) ca] := hdp 12 (by kernel_rfl)
      have ed13 : xv 13 = .agg #[.slice bo (len M) cb] := hdp 13 (by kernel_rfl)
      have ed14 : xv 14 = .agg #[.slice co (len Q) cc] := hdp 14 (by kernel_rfl)
      have ed10 : xv 10 = .bool true := hdp 10 (by kernel_rfl)
      clear hdp
      intro KK hKK
      refine op_guard (d := 74) rfl rfl (by first | exact congrArg some ed10 | simp [ed10]) ?_
      go_simp
      refine (rSub_c h2.out hn.out hm.out hk5.out ((E8.out.below hB).nt 4 rfl) ((E8.out.below hB).nt 3 rfl) ((E8.out.below hB).nt 2 rfl)).mono ?_
      rintro e WW' ⟨⟨va, vk, rfl, hv⟩, hb⟩
      (try dsimp only)
      (try simp only [Act.put, List.setIfInBounds_toArray, List.set_cons_zero, List.set_cons_succ])
      exact act_eq (hKK.out _ _ hb ⟨_, _, rfl, hv⟩) (by first | rfl | simp [upd, ed12, ed13, ed14, ed10])
    refine List.forall_mem_cons.2 ⟨?_, ?_⟩
    · intro xv bv ev WW hB hdp
      refine op_of rfl ?_
      have ed11 : xv 11 = .agg #[.slice ya (len r2) yk] := hdp 11 (by kernel_rfl)
      obtain ⟨va, vk, ed15, hv⟩ := (show (PNum (r2)) (xv 15) (bv 15) (ev 15) WW from hdp 15 (by kernel_rfl))
      have ed10 : xv 10 = .bool true := hdp 10 (by kernel_rfl)
      clear hdp
      intro KK hKK
      refine op_guard (d := 74) rfl rfl (by first | exact congrArg some ed10 | simp [ed10]) ?_
      go_simp
      refine (same_c (t := true) (by simp) ((E8.out.below hB).nt 0 rfl) hv.out).mono ?_
      rintro e WW' ⟨rfl, hb⟩
      (try dsimp only)
      (try simp only [Act.put, List.setIfInBounds_toArray, List.set_cons_zero, List.set_cons_succ])
      exact act_eq (hKK.out _ _ hb rfl) (by first | rfl | simp [upd, ed11, ed15, ed10])
    refine List.forall_mem_cons.2 ⟨?_, ?_⟩
    · intro xv bv ev WW hB hdp
      refine op_of rfl ?_
      have ed10 : xv 10 = .bool true := hdp 10 (by kernel_rfl)
      have ed16 : xv 16 = .bool true := hdp 16 (by kernel_rfl)
      clear hdp
      intro KK hKK
      go_simp
      exact act_eq (hKK.out _ _ (Below.refl _ _) rfl) (by first | rfl | simp [upd, ed10, ed16])
    refine List.forall_mem_cons.2 ⟨?_, ?_⟩
    · intro xv bv ev WW hB hdp
      refine op_of rfl ?_
      have ed17 : xv 17 = .bool true := hdp 17 (by kernel_rfl)
      clear hdp
      intro KK hKK
      go_simp
      exact act_eq (hKK.out _ _ (Below.refl _ _) rfl) (by first | rfl | simp [upd, ed17])
    refine List.forall_mem_cons.2 ⟨?_, ?_⟩
    · intro xv bv ev WW hB hdp
      refine op_of rfl ?_
      have ed18 : xv 18 = .bool true := hdp 18 (by kernel_rfl)
      clear hdp
      intro KK hKK
      refine op_guard (d := 82) rfl rfl (by first | exact congrArg some ed18 | simp [ed18]) ?_
      go_simp
      exact act_eq (hKK.out _ _ (Below.refl _ _) rfl) (by first | rfl | simp [upd, ed18])
    refine List.forall_mem_cons.2 ⟨?_, ?_⟩
    · intro xv bv ev WW hB hdp
      refine op_of rfl ?_
      have ed19 : xv 19 = .int .i64 0 := hdp 19 (by kernel_rfl)
      have ed18 : xv 18 = .bool true := hdp 18 (by kernel_rfl)
      clear hdp
      intro KK hKK
      refine op_guard (d := 82) rfl rfl (by first | exact congrArg some ed18 | simp [ed18]) ?_
      go_simp
      exact act_eq (hKK.out _ _ (Below.refl _ _) rfl) (by first | rfl | simp [upd, ed19, ed18])
    refine List.forall_mem_cons.2 ⟨?_, ?_⟩
    · intro xv bv ev WW hB hdp
      refine op_of rfl ?_
      have ed18 : xv 18 = .bool true := hdp 18 (by kernel_rfl)
      have ed20 : xv 20 = .bool true := hdp 20 (by kernel_rfl)
      clear hdp
      intro KK hKK
      go_simp
      exact act_eq (hKK.out _ _ (Below.refl _ _) rfl) (by first | rfl | simp [upd, ed18, ed20])
    exact List.forall_mem_nil _
  intro xv bv ev w6 hB hR hO
  have ed0 : xv 0 = .agg #[.slice xa (len r1) xk] := hR 0 (by kernel_rfl)
  have ed1 : xv 1 = .agg #[.slice ao (len N) ca] := hR 1 (by kernel_rfl)
  have ed2 : xv 2 = .agg #[.slice bo (len M) cb] := hR 2 (by kernel_rfl)
  have ed3 : xv 3 = .agg #[.slice co (len Q) cc] := hR 3 (by kernel_rfl)
  obtain ⟨ua, uk, ed4, hu⟩ := (show (PNum (r1)) (xv 4) (bv 4) (ev 4) w6 from hR 4 (by kernel_rfl))
  have ed5 : xv 5 = .bool true := hR 5 (by kernel_rfl)
  have ed6 : xv 6 = .bool true := hR 6 (by kernel_rfl)
  have ed7 : xv 7 = .int .i64 0 := hR 7 (by kernel_rfl)
  have ed8 : xv 8 = .bool true := hR 8 (by kernel_rfl)
  have ed9 : xv 9 = .bool true := hR 9 (by kernel_rfl)
  have ed10 : xv 10 = .bool true := hR 10 (by kernel_rfl)
  have ed11 : xv 11 = .agg #[.slice ya (len r2) yk] := hR 11 (by kernel_rfl)
  have ed12 : xv 12 = .agg #[.slice ao (len N) ca] := hR 12 (by kernel_rfl)
  have ed13 : xv 13 = .agg #[.slice bo (len M) cb] := hR 13 (by kernel_rfl)
  have ed14 : xv 14 = .agg #[.slice co (len Q) cc] := hR 14 (by kernel_rfl)
  obtain ⟨va, vk, ed15, hv⟩ := (show (PNum (r2)) (xv 15) (bv 15) (ev 15) w6 from hR 15 (by kernel_rfl))
  have ed16 : xv 16 = .bool true := hR 16 (by kernel_rfl)
  have ed17 : xv 17 = .bool true := hR 17 (by kernel_rfl)
  have ed18 : xv 18 = .bool true := hR 18 (by kernel_rfl)
  have ed19 : xv 19 = .int .i64 0 := hR 19 (by kernel_rfl)
  have ed20 : xv 20 = .bool true := hR 20 (by kernel_rfl)
  have ed21 : xv 21 = .bool true := hR 21 (by kernel_rfl)
  simp only [ed0, ed1, ed2, ed3, ed4, ed5, ed6, ed7, ed8, ed9, ed10, ed11, ed12, ed13, ed14, ed15, ed16, ed17, ed18, ed19, ed20, ed21]
  have E9 : Hid (EnvB w [(w4.heap.size, .slice ya (len r2) yk), (w3.heap.size, .slice xa (len r1) xk), (w.heap.size + 1 + 1, .slice co (len Q) cc), (w.heap.size + 1, .slice bo (len M) cb), (w.heap.size, .slice ao (len N) ca)] [(.slice va (len r2) vk, digs r2), (.slice ua (len r1) uk, digs r1), (.slice ya (len r2) yk, digs r2), (.slice xa (len r1) xk, digs r1), (.slice co (len Q) cc, digs Q), (.slice bo (len M) cb, digs M), (.slice ao (len N) ca, digs N)] _) := Lib.hid ((((E8.out.below hB).numN (hu.out : Nt _ _ (r1))).numN (hv.out : Nt _ _ (r2))))
  clear E8 hB hR hO bx0 bx1 bx2 bx3 bx4 ed0 ed1 ed2 ed3 ed4 ed5 ed6 ed7 ed8 ed9 ed10 ed11 ed12 ed13 ed14 ed15 ed16 ed17 ed18 ed19 ed20 ed21 hu hv
  refine wpAny_next (i := 22) (by kernel_rfl) rfl (fun KK hKK => ?_)
  go_simp
  refine hKK.out _ _ ?_
  clear hKK KK
  refine wpAny_done (by kernel_rfl) ?_ _
  have hfin := Lib.hid E9.out.1
  go_wp2
  go_ret
  exact ⟨rfl, hfin.out⟩
theorem NatmodSums_walk (a b m : Value) (la lb lm : List Nat) (w : World) (ha : Sl w a la) (hb : Sl w b lb) (hm : Sl w m lm) :
    Calls Try.prog 4 #[.agg #[a], .agg #[b], .agg #[m]] w fun e w' => e = .returned (.bool true) ∧ Below w.heap.size w w' := by
  obtain ⟨ao, ca, rfl, _⟩ := ha.open
  obtain ⟨bo, cb, rfl, _⟩ := hb.open
  obtain ⟨mo, cm, rfl, _⟩ := hm.open
  by_cases hf : la.length ≤ 70 ∧ lb.length ≤ 70 ∧ lm.length ≤ 70
  · rcases fst_cases lm [la, lb] with h | h | h
    · obtain ⟨h1, h2, h3⟩ := fst_zero h
      obtain ⟨K, rfl, h0, hk, hK⟩ := mdl_nt hm h1
      obtain ⟨N, rfl, _, hN⟩ := nt_of ha (h2 la (by simp))
      obtain ⟨M, rfl, _, hM⟩ := nt_of hb (h2 lb (by simp))
      have a1 := h3 (digs N) (by simp)
      have a2 := h3 (digs M) (by simp)
      rw [val_digs, val_digs] at a1 a2
      exact Sums_ok ao ca bo cb mo cm N M K w hN hM hK a1 a2 hk hf h _ _ rfl rfl
    · exact Sums_e1 ao ca bo cb mo cm la lb lm w ha hb hm hf h
    · exact Sums_e2 ao ca bo cb mo cm la lb lm w ha hb hm hf h
  · exact Sums_big ao ca bo cb mo cm la lb lm w ha hb hm hf
end Go.Proofs.Ythphmgdmhlimjaa
