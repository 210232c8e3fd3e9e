/- NatmodGcd: the walk. -/
import Derived.Test.YthphmgdmhlimjaaModFrame
import Derived.Test.YthphmgdmhlimjaaModL4
namespace Go.Proofs.Ythphmgdmhlimjaa
open Go.RowKit NatMath
set_option linter.unusedVariables false

set_option maxRecDepth 100000 in
set_option maxHeartbeats 1000000 in
theorem Gcd_big (ao : Option Addr) (ca : Nat) (bo : Option Addr) (cb : Nat) (la lb : List Nat)  (w : World) (ha : Sl w (.slice ao la.length ca) la) (hb : Sl w (.slice bo lb.length cb) lb) (hf0 : ¬ (la.length ≤ 6 ∧ lb.length ≤ 6)) :
    Calls Try.prog 6 #[.agg #[.slice ao la.length ca], .agg #[.slice bo lb.length cb]] w fun e w' => e = .returned (.bool true) ∧ Below w.heap.size w w' := by
  have hf := Lib.hid hf0
  clear hf0
  have E0 : Hid (EnvB w [] [(.slice bo lb.length cb, lb), (.slice ao la.length ca, la)] w) := Lib.hid (((EnvB.start w).num ha).num hb)
  clear ha hb
  go_enter Try.func6, Try.ntmps6
  go_wp2_with fail
  have E1 : Hid (EnvB w [(w.heap.size + 1, .slice bo lb.length cb), (w.heap.size, .slice ao la.length ca)] [(.slice bo lb.length cb, lb), (.slice ao la.length ca, la)] _) := Lib.hid (((E0.out.push (.slice ao la.length ca) 24 ⟨_, _, _, rfl⟩ (w.heap.size) (by simp)).push (.slice bo lb.length cb) 24 ⟨_, _, _, rfl⟩ (w.heap.size + 1) (by simp)))
  refine (awake_c _).mono ?_
  rintro e w1 ⟨rfl, hb⟩
  have E2 : Hid (EnvB w [(w.heap.size + 1, .slice bo lb.length cb), (w.heap.size, .slice ao la.length ca)] [(.slice bo lb.length cb, lb), (.slice ao la.length ca, la)] _) := Lib.hid ((E1.out.below hb))
  clear E1 E0 hb
  obtain ⟨p1, f1, -, -, -⟩ := E2.out.box 1 rfl
  obtain ⟨p2, f2, -, -, -⟩ := E2.out.box 0 rfl
  go_wp2_with fail
  refine (few2_f _ _ _ (la) _ _ _ (lb) 6 _ (E2.out.sl 1 rfl) (E2.out.sl 0 rfl) hf.out _ (by simp)).mono ?_
  rintro e w2 ⟨rfl, hb⟩
  have E3 : Hid (EnvB w [(w.heap.size + 1, .slice bo lb.length cb), (w.heap.size, .slice ao la.length ca)] [(.slice bo lb.length cb, lb), (.slice ao la.length ca, la)] _) := Lib.hid ((E2.out.below hb))
  clear p1 f1 p2 f2 E2 hb
  go_wp2_with fail
  refine (awake_c _).mono ?_
  rintro e w3 ⟨rfl, hb⟩
  have E4 : Hid (EnvB w [(w.heap.size + 1, .slice bo lb.length cb), (w.heap.size, .slice ao la.length ca)] [(.slice bo lb.length cb, lb), (.slice ao la.length ca, la)] _) := Lib.hid ((E3.out.below hb))
  clear E3 hb
  have hfin := Lib.hid E4.out.1
  go_wp2
  go_ret
  exact ⟨rfl, hfin.out⟩
set_option maxRecDepth 100000 in
set_option maxHeartbeats 1000000 in
theorem Gcd_bad1 (ao : Option Addr) (ca : Nat) (bo : Option Addr) (cb : Nat) (la lb : List Nat)  (w : World) (ha : Sl w (.slice ao la.length ca) la) (hb : Sl w (.slice bo lb.length cb) lb) (hf0 : la.length ≤ 6 ∧ lb.length ≤ 6) (hg0 : fstc lb [la] = 1) (hv0 : vld la = false) :
    Calls Try.prog 6 #[.agg #[.slice ao la.length ca], .agg #[.slice bo lb.length cb]] w fun e w' => e = .returned (.bool true) ∧ Below w.heap.size w w' := by
  have hf := Lib.hid hf0
  have hg := Lib.hid hg0
  have hv := Lib.hid hv0
  clear hf0 hg0 hv0
  have E0 : Hid (EnvB w [] [(.slice bo lb.length cb, lb), (.slice ao la.length ca, la)] w) := Lib.hid (((EnvB.start w).num ha).num hb)
  clear ha hb
  go_enter Try.func6, Try.ntmps6
  go_wp2_with fail
  have E1 : Hid (EnvB w [(w.heap.size + 1, .slice bo lb.length cb), (w.heap.size, .slice ao la.length ca)] [(.slice bo lb.length cb, lb), (.slice ao la.length ca, la)] _) := Lib.hid (((E0.out.push (.slice ao la.length ca) 24 ⟨_, _, _, rfl⟩ (w.heap.size) (by simp)).push (.slice bo lb.length cb) 24 ⟨_, _, _, rfl⟩ (w.heap.size + 1) (by simp)))
  refine (awake_c _).mono ?_
  rintro e w1 ⟨rfl, hb⟩
  have E2 : Hid (EnvB w [(w.heap.size + 1, .slice bo lb.length cb), (w.heap.size, .slice ao la.length ca)] [(.slice bo lb.length cb, lb), (.slice ao la.length ca, la)] _) := Lib.hid ((E1.out.below hb))
  clear E1 E0 hb
  obtain ⟨p1, f1, -, -, -⟩ := E2.out.box 1 rfl
  obtain ⟨p2, f2, -, -, -⟩ := E2.out.box 0 rfl
  go_wp2_with fail
  refine (few2_t _ _ _ (la) _ _ _ (lb) 6 _ (E2.out.sl 1 rfl) (E2.out.sl 0 rfl) hf.out _ (by simp)).mono ?_
  rintro e w2 ⟨rfl, hb⟩
  have E3 : Hid (EnvB w [(w.heap.size + 1, .slice bo lb.length cb), (w.heap.size, .slice ao la.length ca)] [(.slice bo lb.length cb, lb), (.slice ao la.length ca, la)] _) := Lib.hid ((E2.out.below hb))
  clear p1 f1 p2 f2 E2 hb
  obtain ⟨p3, f3, -, -, -⟩ := E3.out.box 1 rfl
  obtain ⟨p4, f4, -, -, -⟩ := E3.out.box 0 rfl
  go_wp2_with fail
  refine (gcd_z (Or.inl hv.out) (E3.out.sl 1 rfl) (E3.out.sl 0 rfl)).mono ?_
  rintro e w3 ⟨⟨xa, xk, rfl⟩, hb⟩
  have E4 : Hid (EnvB w [(w.heap.size + 1, .slice bo lb.length cb), (w.heap.size, .slice ao la.length ca)] [(.slice bo lb.length cb, lb), (.slice ao la.length ca, la)] _) := Lib.hid ((E3.out.below hb))
  clear p3 f3 p4 f4 E3 hb
  have E5 : Hid (EnvB w [(w3.heap.size, .slice xa 0 xk), (w.heap.size + 1, .slice bo lb.length cb), (w.heap.size, .slice ao la.length ca)] [(.slice bo lb.length cb, lb), (.slice ao la.length ca, la)] _) := Lib.hid ((E4.out.push (.slice xa 0 xk) 24 ⟨_, _, _, rfl⟩ (w3.heap.size) (by simp)))
  obtain ⟨p5, f5, -, -, -⟩ := E5.out.box 2 rfl
  obtain ⟨p6, f6, -, -, -⟩ := E5.out.box 1 rfl
  go_wp2_with fail
  refine (inv_z hg.out (by decide) (E5.out.sl 1 rfl) (E5.out.sl 0 rfl)).mono ?_
  rintro e w4 ⟨⟨ya, yk, rfl⟩, hb⟩
  have E6 : Hid (EnvB w [(w3.heap.size, .slice xa 0 xk), (w.heap.size + 1, .slice bo lb.length cb), (w.heap.size, .slice ao la.length ca)] [(.slice bo lb.length cb, lb), (.slice ao la.length ca, la)] _) := Lib.hid ((E5.out.below hb))
  clear p5 f5 p6 f6 E5 E4 hb
  have E7 : Hid (EnvB w [(w4.heap.size, .slice ya 0 yk), (w3.heap.size, .slice xa 0 xk), (w.heap.size + 1, .slice bo lb.length cb), (w.heap.size, .slice ao la.length ca)] [(.slice bo lb.length cb, lb), (.slice ao la.length ca, la)] _) := Lib.hid ((E6.out.push (.slice ya 0 yk) 24 ⟨_, _, _, rfl⟩ (w4.heap.size) (by simp)))
  obtain ⟨p7, f7, -, -, -⟩ := E7.out.box 3 rfl
  go_wp2_with fail
  refine (rValid_of hv.out (E7.out.sl 1 rfl)).mono ?_
  rintro e w5 ⟨rfl, hb⟩
  have E8 : Hid (EnvB w [(w4.heap.size, .slice ya 0 yk), (w3.heap.size, .slice xa 0 xk), (w.heap.size + 1, .slice bo lb.length cb), (w.heap.size, .slice ao la.length ca)] [(.slice bo lb.length cb, lb), (.slice ao la.length ca, la)] _) := Lib.hid ((E7.out.below hb))
  clear p7 f7 E7 E6 hb
  obtain ⟨p8, f8, -, -, -⟩ := E8.out.box 1 rfl
  obtain ⟨p9, f9, -, -, -⟩ := E8.out.box 0 rfl
  have hfin := Lib.hid E8.out.1
  go_wp2
  go_ret
  exact ⟨rfl, hfin.out⟩
set_option maxRecDepth 100000 in
set_option maxHeartbeats 1000000 in
theorem Gcd_bad2 (ao : Option Addr) (ca : Nat) (bo : Option Addr) (cb : Nat) (la lb : List Nat)  (w : World) (ha : Sl w (.slice ao la.length ca) la) (hb : Sl w (.slice bo lb.length cb) lb) (hf0 : la.length ≤ 6 ∧ lb.length ≤ 6) (hg0 : fstc lb [la] = 1) (hu0 : vld la = true) (hv0 : vld lb = false) :
    Calls Try.prog 6 #[.agg #[.slice ao la.length ca], .agg #[.slice bo lb.length cb]] w fun e w' => e = .returned (.bool true) ∧ Below w.heap.size w w' := by
  have hf := Lib.hid hf0
  have hg := Lib.hid hg0
  have hu := Lib.hid hu0
  have hv := Lib.hid hv0
  clear hf0 hg0 hu0 hv0
  have E0 : Hid (EnvB w [] [(.slice bo lb.length cb, lb), (.slice ao la.length ca, la)] w) := Lib.hid (((EnvB.start w).num ha).num hb)
  clear ha hb
  go_enter Try.func6, Try.ntmps6
  go_wp2_with fail
  have E1 : Hid (EnvB w [(w.heap.size + 1, .slice bo lb.length cb), (w.heap.size, .slice ao la.length ca)] [(.slice bo lb.length cb, lb), (.slice ao la.length ca, la)] _) := Lib.hid (((E0.out.push (.slice ao la.length ca) 24 ⟨_, _, _, rfl⟩ (w.heap.size) (by simp)).push (.slice bo lb.length cb) 24 ⟨_, _, _, rfl⟩ (w.heap.size + 1) (by simp)))
  refine (awake_c _).mono ?_
  rintro e w1 ⟨rfl, hb⟩
  have E2 : Hid (EnvB w [(w.heap.size + 1, .slice bo lb.length cb), (w.heap.size, .slice ao la.length ca)] [(.slice bo lb.length cb, lb), (.slice ao la.length ca, la)] _) := Lib.hid ((E1.out.below hb))
  clear E1 E0 hb
  obtain ⟨p1, f1, -, -, -⟩ := E2.out.box 1 rfl
  obtain ⟨p2, f2, -, -, -⟩ := E2.out.box 0 rfl
  go_wp2_with fail
  refine (few2_t _ _ _ (la) _ _ _ (lb) 6 _ (E2.out.sl 1 rfl) (E2.out.sl 0 rfl) hf.out _ (by simp)).mono ?_
  rintro e w2 ⟨rfl, hb⟩
  have E3 : Hid (EnvB w [(w.heap.size + 1, .slice bo lb.length cb), (w.heap.size, .slice ao la.length ca)] [(.slice bo lb.length cb, lb), (.slice ao la.length ca, la)] _) := Lib.hid ((E2.out.below hb))
  clear p1 f1 p2 f2 E2 hb
  obtain ⟨p3, f3, -, -, -⟩ := E3.out.box 1 rfl
  obtain ⟨p4, f4, -, -, -⟩ := E3.out.box 0 rfl
  go_wp2_with fail
  refine (gcd_z (Or.inr hv.out) (E3.out.sl 1 rfl) (E3.out.sl 0 rfl)).mono ?_
  rintro e w3 ⟨⟨xa, xk, rfl⟩, hb⟩
  have E4 : Hid (EnvB w [(w.heap.size + 1, .slice bo lb.length cb), (w.heap.size, .slice ao la.length ca)] [(.slice bo lb.length cb, lb), (.slice ao la.length ca, la)] _) := Lib.hid ((E3.out.below hb))
  clear p3 f3 p4 f4 E3 hb
  have E5 : Hid (EnvB w [(w3.heap.size, .slice xa 0 xk), (w.heap.size + 1, .slice bo lb.length cb), (w.heap.size, .slice ao la.length ca)] [(.slice bo lb.length cb, lb), (.slice ao la.length ca, la)] _) := Lib.hid ((E4.out.push (.slice xa 0 xk) 24 ⟨_, _, _, rfl⟩ (w3.heap.size) (by simp)))
  obtain ⟨p5, f5, -, -, -⟩ := E5.out.box 2 rfl
  obtain ⟨p6, f6, -, -, -⟩ := E5.out.box 1 rfl
  go_wp2_with fail
  refine (inv_z hg.out (by decide) (E5.out.sl 1 rfl) (E5.out.sl 0 rfl)).mono ?_
  rintro e w4 ⟨⟨ya, yk, rfl⟩, hb⟩
  have E6 : Hid (EnvB w [(w3.heap.size, .slice xa 0 xk), (w.heap.size + 1, .slice bo lb.length cb), (w.heap.size, .slice ao la.length ca)] [(.slice bo lb.length cb, lb), (.slice ao la.length ca, la)] _) := Lib.hid ((E5.out.below hb))
  clear p5 f5 p6 f6 E5 E4 hb
  have E7 : Hid (EnvB w [(w4.heap.size, .slice ya 0 yk), (w3.heap.size, .slice xa 0 xk), (w.heap.size + 1, .slice bo lb.length cb), (w.heap.size, .slice ao la.length ca)] [(.slice bo lb.length cb, lb), (.slice ao la.length ca, la)] _) := Lib.hid ((E6.out.push (.slice ya 0 yk) 24 ⟨_, _, _, rfl⟩ (w4.heap.size) (by simp)))
  obtain ⟨p7, f7, -, -, -⟩ := E7.out.box 3 rfl
  go_wp2_with fail
  refine (rValid_of hu.out (E7.out.sl 1 rfl)).mono ?_
  rintro e w5 ⟨rfl, hb⟩
  have E8 : Hid (EnvB w [(w4.heap.size, .slice ya 0 yk), (w3.heap.size, .slice xa 0 xk), (w.heap.size + 1, .slice bo lb.length cb), (w.heap.size, .slice ao la.length ca)] [(.slice bo lb.length cb, lb), (.slice ao la.length ca, la)] _) := Lib.hid ((E7.out.below hb))
  clear p7 f7 E7 E6 hb
  obtain ⟨p8, f8, -, -, -⟩ := E8.out.box 2 rfl
  go_wp2_with fail
  refine (rValid_of hv.out (E8.out.sl 0 rfl)).mono ?_
  rintro e w6 ⟨rfl, hb⟩
  have E9 : Hid (EnvB w [(w4.heap.size, .slice ya 0 yk), (w3.heap.size, .slice xa 0 xk), (w.heap.size + 1, .slice bo lb.length cb), (w.heap.size, .slice ao la.length ca)] [(.slice bo lb.length cb, lb), (.slice ao la.length ca, la)] _) := Lib.hid ((E8.out.below hb))
  clear p8 f8 E8 hb
  obtain ⟨p9, f9, -, -, -⟩ := E9.out.box 1 rfl
  obtain ⟨p10, f10, -, -, -⟩ := E9.out.box 0 rfl
  have hfin := Lib.hid E9.out.1
  go_wp2
  go_ret
  exact ⟨rfl, hfin.out⟩
set_option maxRecDepth 100000 in
set_option maxHeartbeats 1000000 in
theorem Gcd_e1 (ao : Option Addr) (ca : Nat) (bo : Option Addr) (cb : Nat) (N M : Nat) (r1 : Nat) (w : World) (ha : Nt w (.slice ao (len N) ca) N) (hb : Nt w (.slice bo (len M) cb) M) (hf0 : len N ≤ 6 ∧ len M ≤ 6) (hg0 : fstc (digs M) [digs N] = 1) (hu0 : vld (digs N) = true) (hv0 : vld (digs M) = true) (h10 : Nat.gcd N M = r1) (h50 : len N ≤ 64) (h60 : len M ≤ 64) (h70 : len N ≤ 2000) (h80 : len M ≤ 2000) :
    Calls Try.prog 6 #[.agg #[.slice ao (len N) ca], .agg #[.slice bo (len M) cb]] w fun e w' => e = .returned (.bool true) ∧ Below w.heap.size w w' := by
  have hf := Lib.hid hf0
  have hg := Lib.hid hg0
  have hu := Lib.hid hu0
  have hv := Lib.hid hv0
  have h1 := Lib.hid h10
  have h5 := Lib.hid h50
  have h6 := Lib.hid h60
  have h7 := Lib.hid h70
  have h8 := Lib.hid h80
  clear hf0 hg0 hu0 hv0 h10 h50 h60 h70 h80
  have E0 : Hid (EnvB w [] [(.slice bo (len M) cb, digs M), (.slice ao (len N) ca, digs N)] w) := Lib.hid (((EnvB.start w).numN ha).numN hb)
  clear ha hb
  go_enter Try.func6, Try.ntmps6
  go_wp2_with fail
  have E1 : Hid (EnvB w [(w.heap.size + 1, .slice bo (len M) cb), (w.heap.size, .slice ao (len N) ca)] [(.slice bo (len M) cb, digs M), (.slice ao (len N) ca, digs N)] _) := Lib.hid (((E0.out.push (.slice ao (len N) ca) 24 ⟨_, _, _, rfl⟩ (w.heap.size) (by simp)).push (.slice bo (len M) cb) 24 ⟨_, _, _, rfl⟩ (w.heap.size + 1) (by simp)))
  refine (awake_c _).mono ?_
  rintro e w1 ⟨rfl, hb⟩
  have E2 : Hid (EnvB w [(w.heap.size + 1, .slice bo (len M) cb), (w.heap.size, .slice ao (len N) ca)] [(.slice bo (len M) cb, digs M), (.slice ao (len N) ca, digs N)] _) := Lib.hid ((E1.out.below hb))
  clear E1 E0 hb
  obtain ⟨p1, f1, -, -, -⟩ := E2.out.box 1 rfl
  obtain ⟨p2, f2, -, -, -⟩ := E2.out.box 0 rfl
  go_wp2_with fail
  refine (few2_t _ _ _ (digs N) _ _ _ (digs M) 6 _ (E2.out.nt 1 rfl) (E2.out.nt 0 rfl) hf.out _ (by simp)).mono ?_
  rintro e w2 ⟨rfl, hb⟩
  have E3 : Hid (EnvB w [(w.heap.size + 1, .slice bo (len M) cb), (w.heap.size, .slice ao (len N) ca)] [(.slice bo (len M) cb, digs M), (.slice ao (len N) ca, digs N)] _) := Lib.hid ((E2.out.below hb))
  clear p1 f1 p2 f2 E2 hb
  obtain ⟨p3, f3, -, -, -⟩ := E3.out.box 1 rfl
  obtain ⟨p4, f4, -, -, -⟩ := E3.out.box 0 rfl
  go_wp2_with fail
  refine (gcd_m h1.out h5.out h6.out (E3.out.nt 1 rfl) (E3.out.nt 0 rfl)).mono ?_
  rintro e w3 ⟨⟨xa, xk, rfl, hx⟩, hb⟩
  have E4 : Hid (EnvB w [(w.heap.size + 1, .slice bo (len M) cb), (w.heap.size, .slice ao (len N) ca)] [(.slice xa (len r1) xk, digs r1), (.slice bo (len M) cb, digs M), (.slice ao (len N) ca, digs N)] _) := Lib.hid (((E3.out.below hb).numN (hx.out : Nt _ _ r1)))
  clear p3 f3 p4 f4 E3 hb hx
  have E5 : Hid (EnvB w [(w3.heap.size, .slice xa (len r1) xk), (w.heap.size + 1, .slice bo (len M) cb), (w.heap.size, .slice ao (len N) ca)] [(.slice xa (len r1) xk, digs r1), (.slice bo (len M) cb, digs M), (.slice ao (len N) ca, digs N)] _) := Lib.hid ((E4.out.push (.slice xa (len r1) xk) 24 ⟨_, _, _, rfl⟩ (w3.heap.size) (by simp)))
  obtain ⟨p5, f5, -, -, -⟩ := E5.out.box 2 rfl
  obtain ⟨p6, f6, -, -, -⟩ := E5.out.box 1 rfl
  go_wp2_with fail
  refine (inv_z hg.out (by decide) (E5.out.nt 2 rfl) (E5.out.nt 1 rfl)).mono ?_
  rintro e w4 ⟨⟨ya, yk, rfl⟩, hb⟩
  have E6 : Hid (EnvB w [(w3.heap.size, .slice xa (len r1) xk), (w.heap.size + 1, .slice bo (len M) cb), (w.heap.size, .slice ao (len N) ca)] [(.slice xa (len r1) xk, digs r1), (.slice bo (len M) cb, digs M), (.slice ao (len N) ca, digs N)] _) := Lib.hid ((E5.out.below hb))
  clear p5 f5 p6 f6 E5 E4 hb
  have E7 : Hid (EnvB w [(w4.heap.size, .slice ya 0 yk), (w3.heap.size, .slice xa (len r1) xk), (w.heap.size + 1, .slice bo (len M) cb), (w.heap.size, .slice ao (len N) ca)] [(.slice xa (len r1) xk, digs r1), (.slice bo (len M) cb, digs M), (.slice ao (len N) ca, digs N)] _) := Lib.hid ((E6.out.push (.slice ya 0 yk) 24 ⟨_, _, _, rfl⟩ (w4.heap.size) (by simp)))
  obtain ⟨p7, f7, -, -, -⟩ := E7.out.box 3 rfl
  go_wp2_with fail
  refine (rValid_of hu.out (E7.out.nt 2 rfl)).mono ?_
  rintro e w5 ⟨rfl, hb⟩
  have E8 : Hid (EnvB w [(w4.heap.size, .slice ya 0 yk), (w3.heap.size, .slice xa (len r1) xk), (w.heap.size + 1, .slice bo (len M) cb), (w.heap.size, .slice ao (len N) ca)] [(.slice xa (len r1) xk, digs r1), (.slice bo (len M) cb, digs M), (.slice ao (len N) ca, digs N)] _) := Lib.hid ((E7.out.below hb))
  clear p7 f7 E7 E6 hb
  obtain ⟨p8, f8, -, -, -⟩ := E8.out.box 2 rfl
  go_wp2_with fail
  refine (rValid_of hv.out (E8.out.nt 1 rfl)).mono ?_
  rintro e w6 ⟨rfl, hb⟩
  have E9 : Hid (EnvB w [(w4.heap.size, .slice ya 0 yk), (w3.heap.size, .slice xa (len r1) xk), (w.heap.size + 1, .slice bo (len M) cb), (w.heap.size, .slice ao (len N) ca)] [(.slice xa (len r1) xk, digs r1), (.slice bo (len M) cb, digs M), (.slice ao (len N) ca, digs N)] _) := Lib.hid ((E8.out.below hb))
  clear p8 f8 E8 hb
  go_wp2_with fail
  have bx0 := Lib.hid (E9.out.box 1 rfl)
  have bx1 := Lib.hid (E9.out.box 3 rfl)
  have bx2 := Lib.hid (E9.out.box 2 rfl)
  refine' wp_region_phase (by kernel_rfl) [0, 1, 2, 3, 4, 5, 6, 7, 8, 9] (by kernel_rfl) #[true, true, true, true, true, true, true, true, true, true] (by kernel_rfl) 0 (by kernel_rfl) [PEq (.agg #[.slice xa (len r1) xk]), PEq (.agg #[.slice ao (len N) ca]), PEq (.agg #[.slice bo (len M) cb]), PNum (r1), PEq (.bool true), PEq (.bool false), PEq (.bool false), PEq (.int .i64 0), PEq (.bool false), PEq (.bool false)] (List.forall_mem_cons.2 ⟨PEq.st _, List.forall_mem_cons.2 ⟨PEq.st _, List.forall_mem_cons.2 ⟨PEq.st _, List.forall_mem_cons.2 ⟨PNum.st _, List.forall_mem_cons.2 ⟨PEq.st _, List.forall_mem_cons.2 ⟨PEq.st _, List.forall_mem_cons.2 ⟨PEq.st _, List.forall_mem_cons.2 ⟨PEq.st _, List.forall_mem_cons.2 ⟨PEq.st _, List.forall_mem_cons.2 ⟨PEq.st _, List.forall_mem_nil _⟩⟩⟩⟩⟩⟩⟩⟩⟩⟩) _ ?hFr1 ?stepr1 ?doner1
  case hFr1 => intro x; simp only [frameL, Act.put, List.setIfInBounds_toArray, List.set_cons_zero, List.set_cons_succ, Nat.zero_add, Nat.reduceAdd]; exact rfl
  case stepr1 =>
    refine List.forall_mem_cons.2 ⟨?_, ?_⟩
    · intro xv bv ev WW hB hdp
      refine op_of rfl ?_
      clear hdp
      intro KK hKK
      obtain ⟨z, -, -, -, -⟩ := bx0.out.below hB
      go_simp
      exact act_eq (hKK.out (.agg #[.slice xa (len r1) xk]) _ (Below.refl _ _) rfl) (by first | rfl | simp [upd])
    refine List.forall_mem_cons.2 ⟨?_, ?_⟩
    · intro xv bv ev WW hB hdp
      refine op_of rfl ?_
      clear hdp
      intro KK hKK
      obtain ⟨z, -, -, -, -⟩ := bx1.out.below hB
      go_simp
      exact act_eq (hKK.out (.agg #[.slice ao (len N) ca]) _ (Below.refl _ _) rfl) (by first | rfl | simp [upd])
    refine List.forall_mem_cons.2 ⟨?_, ?_⟩
    · intro xv bv ev WW hB hdp
      refine op_of rfl ?_
      clear hdp
      intro KK hKK
      obtain ⟨z, -, -, -, -⟩ := bx2.out.below hB
      go_simp
      exact act_eq (hKK.out (.agg #[.slice bo (len M) cb]) _ (Below.refl _ _) rfl) (by first | rfl | simp [upd])
    refine List.forall_mem_cons.2 ⟨?_, ?_⟩
    · intro xv bv ev WW hB hdp
      refine op_of rfl ?_
      have ed1 : xv 1 = .agg #[.slice ao (len N) ca] := hdp 1 (by kernel_rfl)
      have ed2 : xv 2 = .agg #[.slice bo (len M) cb] := hdp 2 (by kernel_rfl)
      clear hdp
      intro KK hKK
      go_simp
      refine (rGcd_c h1.out h7.out h8.out ((E9.out.below hB).nt 2 rfl) ((E9.out.below hB).nt 1 rfl)).mono ?_
      rintro e WW' ⟨⟨ua, uk, rfl, hu⟩, hb⟩
      (try dsimp only)
      (try simp only [Act.put, List.setIfInBounds_toArray, List.set_cons_zero, List.set_cons_succ])
      exact act_eq (hKK.out _ _ hb ⟨_, _, rfl, hu⟩) (by first | rfl | simp [upd, ed1, ed2])
    refine List.forall_mem_cons.2 ⟨?_, ?_⟩
    · intro xv bv ev WW hB hdp
      refine op_of rfl ?_
      have ed0 : xv 0 = .agg #[.slice xa (len r1) xk] := hdp 0 (by kernel_rfl)
      obtain ⟨ua, uk, ed3, hu⟩ := (show (PNum (r1)) (xv 3) (bv 3) (ev 3) WW from hdp 3 (by kernel_rfl))
      clear hdp
      intro KK hKK
      go_simp
      refine (same_c (t := true) (by simp) ((E9.out.below hB).nt 0 rfl) hu.out).mono ?_
      rintro e WW' ⟨rfl, hb⟩
      (try dsimp only)
      (try simp only [Act.put, List.setIfInBounds_toArray, List.set_cons_zero, List.set_cons_succ])
      exact act_eq (hKK.out _ _ hb rfl) (by first | rfl | simp [upd, ed0, ed3])
    refine List.forall_mem_cons.2 ⟨?_, ?_⟩
    · intro xv bv ev WW hB hdp
      refine op_of rfl ?_
      have ed4 : xv 4 = .bool true := hdp 4 (by kernel_rfl)
      clear hdp
      intro KK hKK
      go_simp
      exact act_eq (hKK.out _ _ (Below.refl _ _) rfl) (by first | rfl | simp [upd, ed4])
    refine List.forall_mem_cons.2 ⟨?_, ?_⟩
    · intro xv bv ev WW hB hdp
      refine op_of rfl ?_
      have ed5 : xv 5 = .bool false := hdp 5 (by kernel_rfl)
      clear hdp
      intro KK hKK
      go_simp
      exact act_eq (hKK.out _ _ (Below.refl _ _) rfl) (by first | rfl | simp [upd, ed5])
    refine List.forall_mem_cons.2 ⟨?_, ?_⟩
    · intro xv bv ev WW hB hdp
      refine op_of rfl ?_
      have ed6 : xv 6 = .bool false := hdp 6 (by kernel_rfl)
      clear hdp
      intro KK hKK
      refine op_guard (d := 66) rfl rfl (by first | exact congrArg some ed6 | simp [ed6]) ?_
      go_simp
      exact act_eq (hKK.out _ _ (Below.refl _ _) rfl) (by first | rfl | simp [upd, ed6])
    refine List.forall_mem_cons.2 ⟨?_, ?_⟩
    · intro xv bv ev WW hB hdp
      refine op_of rfl ?_
      have ed7 : xv 7 = .int .i64 0 := hdp 7 (by kernel_rfl)
      have ed6 : xv 6 = .bool false := hdp 6 (by kernel_rfl)
      clear hdp
      intro KK hKK
      refine op_guard (d := 66) rfl rfl (by first | exact congrArg some ed6 | simp [ed6]) ?_
      go_simp
      exact act_eq (hKK.out _ _ (Below.refl _ _) rfl) (by first | rfl | simp [upd, ed7, ed6])
    refine List.forall_mem_cons.2 ⟨?_, ?_⟩
    · intro xv bv ev WW hB hdp
      refine op_of rfl ?_
      have ed6 : xv 6 = .bool false := hdp 6 (by kernel_rfl)
      have ed8 : xv 8 = .bool false := hdp 8 (by kernel_rfl)
      clear hdp
      intro KK hKK
      go_simp
      exact act_eq (hKK.out _ _ (Below.refl _ _) rfl) (by first | rfl | simp [upd, ed6, ed8])
    exact List.forall_mem_nil _
  intro xv bv ev w7 hB hR hO
  have ed0 : xv 0 = .agg #[.slice xa (len r1) xk] := hR 0 (by kernel_rfl)
  have ed1 : xv 1 = .agg #[.slice ao (len N) ca] := hR 1 (by kernel_rfl)
  have ed2 : xv 2 = .agg #[.slice bo (len M) cb] := hR 2 (by kernel_rfl)
  obtain ⟨ua, uk, ed3, hu⟩ := (show (PNum (r1)) (xv 3) (bv 3) (ev 3) w7 from hR 3 (by kernel_rfl))
  have ed4 : xv 4 = .bool true := hR 4 (by kernel_rfl)
  have ed5 : xv 5 = .bool false := hR 5 (by kernel_rfl)
  have ed6 : xv 6 = .bool false := hR 6 (by kernel_rfl)
  have ed7 : xv 7 = .int .i64 0 := hR 7 (by kernel_rfl)
  have ed8 : xv 8 = .bool false := hR 8 (by kernel_rfl)
  have ed9 : xv 9 = .bool false := hR 9 (by kernel_rfl)
  simp only [ed0, ed1, ed2, ed3, ed4, ed5, ed6, ed7, ed8, ed9]
  have E10 : Hid (EnvB w [(w4.heap.size, .slice ya 0 yk), (w3.heap.size, .slice xa (len r1) xk), (w.heap.size + 1, .slice bo (len M) cb), (w.heap.size, .slice ao (len N) ca)] [(.slice ua (len r1) uk, digs r1), (.slice xa (len r1) xk, digs r1), (.slice bo (len M) cb, digs M), (.slice ao (len N) ca, digs N)] _) := Lib.hid (((E9.out.below hB).numN (hu.out : Nt _ _ (r1))))
  clear E9 hB hR hO bx0 bx1 bx2 ed0 ed1 ed2 ed3 ed4 ed5 ed6 ed7 ed8 ed9 hu
  refine wpAny_done (by kernel_rfl) ?_ _
  obtain ⟨p9, f9, -, -, -⟩ := E10.out.box 2 rfl
  obtain ⟨p10, f10, -, -, -⟩ := E10.out.box 3 rfl
  go_wp2_with fail
  refine (first1_c _ _ _ (digs N) _ _ _ (digs M) 1 _ hg.out (E10.out.nt 2 rfl) (E10.out.nt 3 rfl) _ (by simp)).mono ?_
  rintro e w8 ⟨rfl, hb⟩
  have E11 : Hid (EnvB w [(w4.heap.size, .slice ya 0 yk), (w3.heap.size, .slice xa (len r1) xk), (w.heap.size + 1, .slice bo (len M) cb), (w.heap.size, .slice ao (len N) ca)] [(.slice ua (len r1) uk, digs r1), (.slice xa (len r1) xk, digs r1), (.slice bo (len M) cb, digs M), (.slice ao (len N) ca, digs N)] _) := Lib.hid ((E10.out.below hb))
  clear p9 f9 p10 f10 E10 hb
  obtain ⟨p11, f11, -, -, -⟩ := E11.out.box 0 rfl
  have hfin := Lib.hid E11.out.1
  go_wp2
  go_ret
  exact ⟨rfl, hfin.out⟩
set_option maxRecDepth 100000 in
set_option maxHeartbeats 1000000 in
theorem Gcd_e2 (ao : Option Addr) (ca : Nat) (bo : Option Addr) (cb : Nat) (N M : Nat) (r1 : Nat) (w : World) (ha : Nt w (.slice ao (len N) ca) N) (hb : Nt w (.slice bo (len M) cb) M) (hf0 : len N ≤ 6 ∧ len M ≤ 6) (hg0 : fstc (digs M) [digs N] = 2) (hu0 : vld (digs N) = true) (hv0 : vld (digs M) = true) (h10 : Nat.gcd N M = r1) (h50 : len N ≤ 64) (h60 : len M ≤ 64) (h70 : len N ≤ 2000) (h80 : len M ≤ 2000) :
    Calls Try.prog 6 #[.agg #[.slice ao (len N) ca], .agg #[.slice bo (len M) cb]] w fun e w' => e = .returned (.bool true) ∧ Below w.heap.size w w' := by
  have hf := Lib.hid hf0
  have hg := Lib.hid hg0
  have hu := Lib.hid hu0
  have hv := Lib.hid hv0
  have h1 := Lib.hid h10
  have h5 := Lib.hid h50
  have h6 := Lib.hid h60
  have h7 := Lib.hid h70
  have h8 := Lib.hid h80
  clear hf0 hg0 hu0 hv0 h10 h50 h60 h70 h80
  have E0 : Hid (EnvB w [] [(.slice bo (len M) cb, digs M), (.slice ao (len N) ca, digs N)] w) := Lib.hid (((EnvB.start w).numN ha).numN hb)
  clear ha hb
  go_enter Try.func6, Try.ntmps6
  go_wp2_with fail
  have E1 : Hid (EnvB w [(w.heap.size + 1, .slice bo (len M) cb), (w.heap.size, .slice ao (len N) ca)] [(.slice bo (len M) cb, digs M), (.slice ao (len N) ca, digs N)] _) := Lib.hid (((E0.out.push (.slice ao (len N) ca) 24 ⟨_, _, _, rfl⟩ (w.heap.size) (by simp)).push (.slice bo (len M) cb) 24 ⟨_, _, _, rfl⟩ (w.heap.size + 1) (by simp)))
  refine (awake_c _).mono ?_
  rintro e w1 ⟨rfl, hb⟩
  have E2 : Hid (EnvB w [(w.heap.size + 1, .slice bo (len M) cb), (w.heap.size, .slice ao (len N) ca)] [(.slice bo (len M) cb, digs M), (.slice ao (len N) ca, digs N)] _) := Lib.hid ((E1.out.below hb))
  clear E1 E0 hb
  obtain ⟨p1, f1, -, -, -⟩ := E2.out.box 1 rfl
  obtain ⟨p2, f2, -, -, -⟩ := E2.out.box 0 rfl
  go_wp2_with fail
  refine (few2_t _ _ _ (digs N) _ _ _ (digs M) 6 _ (E2.out.nt 1 rfl) (E2.out.nt 0 rfl) hf.out _ (by simp)).mono ?_
  rintro e w2 ⟨rfl, hb⟩
  have E3 : Hid (EnvB w [(w.heap.size + 1, .slice bo (len M) cb), (w.heap.size, .slice ao (len N) ca)] [(.slice bo (len M) cb, digs M), (.slice ao (len N) ca, digs N)] _) := Lib.hid ((E2.out.below hb))
  clear p1 f1 p2 f2 E2 hb
  obtain ⟨p3, f3, -, -, -⟩ := E3.out.box 1 rfl
  obtain ⟨p4, f4, -, -, -⟩ := E3.out.box 0 rfl
  go_wp2_with fail
  refine (gcd_m h1.out h5.out h6.out (E3.out.nt 1 rfl) (E3.out.nt 0 rfl)).mono ?_
  rintro e w3 ⟨⟨xa, xk, rfl, hx⟩, hb⟩
  have E4 : Hid (EnvB w [(w.heap.size + 1, .slice bo (len M) cb), (w.heap.size, .slice ao (len N) ca)] [(.slice xa (len r1) xk, digs r1), (.slice bo (len M) cb, digs M), (.slice ao (len N) ca, digs N)] _) := Lib.hid (((E3.out.below hb).numN (hx.out : Nt _ _ r1)))
  clear p3 f3 p4 f4 E3 hb hx
  have E5 : Hid (EnvB w [(w3.heap.size, .slice xa (len r1) xk), (w.heap.size + 1, .slice bo (len M) cb), (w.heap.size, .slice ao (len N) ca)] [(.slice xa (len r1) xk, digs r1), (.slice bo (len M) cb, digs M), (.slice ao (len N) ca, digs N)] _) := Lib.hid ((E4.out.push (.slice xa (len r1) xk) 24 ⟨_, _, _, rfl⟩ (w3.heap.size) (by simp)))
  obtain ⟨p5, f5, -, -, -⟩ := E5.out.box 2 rfl
  obtain ⟨p6, f6, -, -, -⟩ := E5.out.box 1 rfl
  go_wp2_with fail
  refine (inv_z hg.out (by decide) (E5.out.nt 2 rfl) (E5.out.nt 1 rfl)).mono ?_
  rintro e w4 ⟨⟨ya, yk, rfl⟩, hb⟩
  have E6 : Hid (EnvB w [(w3.heap.size, .slice xa (len r1) xk), (w.heap.size + 1, .slice bo (len M) cb), (w.heap.size, .slice ao (len N) ca)] [(.slice xa (len r1) xk, digs r1), (.slice bo (len M) cb, digs M), (.slice ao (len N) ca, digs N)] _) := Lib.hid ((E5.out.below hb))
  clear p5 f5 p6 f6 E5 E4 hb
  have E7 : Hid (EnvB w [(w4.heap.size, .slice ya 0 yk), (w3.heap.size, .slice xa (len r1) xk), (w.heap.size + 1, .slice bo (len M) cb), (w.heap.size, .slice ao (len N) ca)] [(.slice xa (len r1) xk, digs r1), (.slice bo (len M) cb, digs M), (.slice ao (len N) ca, digs N)] _) := Lib.hid ((E6.out.push (.slice ya 0 yk) 24 ⟨_, _, _, rfl⟩ (w4.heap.size) (by simp)))
  obtain ⟨p7, f7, -, -, -⟩ := E7.out.box 3 rfl
  go_wp2_with fail
  refine (rValid_of hu.out (E7.out.nt 2 rfl)).mono ?_
  rintro e w5 ⟨rfl, hb⟩
  have E8 : Hid (EnvB w [(w4.heap.size, .slice ya 0 yk), (w3.heap.size, .slice xa (len r1) xk), (w.heap.size + 1, .slice bo (len M) cb), (w.heap.size, .slice ao (len N) ca)] [(.slice xa (len r1) xk, digs r1), (.slice bo (len M) cb, digs M), (.slice ao (len N) ca, digs N)] _) := Lib.hid ((E7.out.below hb))
  clear p7 f7 E7 E6 hb
  obtain ⟨p8, f8, -, -, -⟩ := E8.out.box 2 rfl
  go_wp2_with fail
  refine (rValid_of hv.out (E8.out.nt 1 rfl)).mono ?_
  rintro e w6 ⟨rfl, hb⟩
  have E9 : Hid (EnvB w [(w4.heap.size, .slice ya 0 yk), (w3.heap.size, .slice xa (len r1) xk), (w.heap.size + 1, .slice bo (len M) cb), (w.heap.size, .slice ao (len N) ca)] [(.slice xa (len r1) xk, digs r1), (.slice bo (len M) cb, digs M), (.slice ao (len N) ca, digs N)] _) := Lib.hid ((E8.out.below hb))
  clear p8 f8 E8 hb
  go_wp2_with fail
  have bx0 := Lib.hid (E9.out.box 1 rfl)
  have bx1 := Lib.hid (E9.out.box 3 rfl)
  have bx2 := Lib.hid (E9.out.box 2 rfl)
  refine' wp_region_phase (by kernel_rfl) [0, 1, 2, 3, 4, 5, 6, 7, 8, 9] (by kernel_rfl) #[true, true, true, true, true, true, true, true, true, true] (by kernel_rfl) 0 (by kernel_rfl) [PEq (.agg #[.slice xa (len r1) xk]), PEq (.agg #[.slice ao (len N) ca]), PEq (.agg #[.slice bo (len M) cb]), PNum (r1), PEq (.bool true), PEq (.bool false), PEq (.bool false), PEq (.int .i64 0), PEq (.bool false), PEq (.bool false)] (List.forall_mem_cons.2 ⟨PEq.st _, List.forall_mem_cons.2 ⟨PEq.st _, List.forall_mem_cons.2 ⟨PEq.st _, List.forall_mem_cons.2 ⟨PNum.st _, List.forall_mem_cons.2 ⟨PEq.st _, List.forall_mem_cons.2 ⟨PEq.st _, List.forall_mem_cons.2 ⟨PEq.st _, List.forall_mem_cons.2 ⟨PEq.st _, List.forall_mem_cons.2 ⟨PEq.st _, List.forall_mem_cons.2 ⟨PEq.st _, List.forall_mem_nil _⟩⟩⟩⟩⟩⟩⟩⟩⟩⟩) _ ?hFr2 ?stepr2 ?doner2
  case hFr2 => intro x; simp only [frameL, Act.put, List.setIfInBounds_toArray, List.set_cons_zero, List.set_cons_succ, Nat.zero_add, Nat.reduceAdd]; exact rfl
  case stepr2 =>
    refine List.forall_mem_cons.2 ⟨?_, ?_⟩
    · intro xv bv ev WW hB hdp
      refine op_of rfl ?_
      clear hdp
      intro KK hKK
      obtain ⟨z, -, -, -, -⟩ := bx0.out.below hB
      go_simp
      exact act_eq (hKK.out (.agg #[.slice xa (len r1) xk]) _ (Below.refl _ _) rfl) (by first | rfl | simp [upd])
    refine List.forall_mem_cons.2 ⟨?_, ?_⟩
    · intro xv bv ev WW hB hdp
      refine op_of rfl ?_
      clear hdp
      intro KK hKK
      obtain ⟨z, -, -, -, -⟩ := bx1.out.below hB
      go_simp
      exact act_eq (hKK.out (.agg #[.slice ao (len N) ca]) _ (Below.refl _ _) rfl) (by first | rfl | simp [upd])
    refine List.forall_mem_cons.2 ⟨?_, ?_⟩
    · intro xv bv ev WW hB hdp
      refine op_of rfl ?_
      clear hdp
      intro KK hKK
      obtain ⟨z, -, -, -, -⟩ := bx2.out.below hB
      go_simp
      exact act_eq (hKK.out (.agg #[.slice bo (len M) cb]) _ (Below.refl _ _) rfl) (by first | rfl | simp [upd])
    refine List.forall_mem_cons.2 ⟨?_, ?_⟩
    · intro xv bv ev WW hB hdp
      refine op_of rfl ?_
      have ed1 : xv 1 = .agg #[.slice ao (len N) ca] := hdp 1 (by kernel_rfl)
      have ed2 : xv 2 = .agg #[.slice bo (len M) cb] := hdp 2 (by kernel_rfl)
      clear hdp
      intro KK hKK
      go_simp
      refine (rGcd_c h1.out h7.out h8.out ((E9.out.below hB).nt 2 rfl) ((E9.out.below hB).nt 1 rfl)).mono ?_
      rintro e WW' ⟨⟨ua, uk, rfl, hu⟩, hb⟩
      (try dsimp only)
      (try simp only [Act.put, List.setIfInBounds_toArray, List.set_cons_zero, List.set_cons_succ])
      exact act_eq (hKK.out _ _ hb ⟨_, _, rfl, hu⟩) (by first | rfl | simp [upd, ed1, ed2])
    refine List.forall_mem_cons.2 ⟨?_, ?_⟩
    · intro xv bv ev WW hB hdp
      refine op_of rfl ?_
      have ed0 : xv 0 = .agg #[.slice xa (len r1) xk] := hdp 0 (by kernel_rfl)
      obtain ⟨ua, uk, ed3, hu⟩ := (show (PNum (r1)) (xv 3) (bv 3) (ev 3) WW from hdp 3 (by kernel_rfl))
      clear hdp
      intro KK hKK
      go_simp
      refine (same_c (t := true) (by simp) ((E9.out.below hB).nt 0 rfl) hu.out).mono ?_
      rintro e WW' ⟨rfl, hb⟩
      (try dsimp only)
      (try simp only [Act.put, List.setIfInBounds_toArray, List.set_cons_zero, List.set_cons_succ])
      exact act_eq (hKK.out _ _ hb rfl) (by first | rfl | simp [upd, ed0, ed3])
    refine List.forall_mem_cons.2 ⟨?_, ?_⟩
    · intro xv bv ev WW hB hdp
      refine op_of rfl ?_
      have ed4 : xv 4 = .bool true := hdp 4 (by kernel_rfl)
      clear hdp
      intro KK hKK
      go_simp
      exact act_eq (hKK.out _ _ (Below.refl _ _) rfl) (by first | rfl | simp [upd, ed4])
    refine List.forall_mem_cons.2 ⟨?_, ?_⟩
    · intro xv bv ev WW hB hdp
      refine op_of rfl ?_
      have ed5 : xv 5 = .bool false := hdp 5 (by kernel_rfl)
      clear hdp
      intro KK hKK
      go_simp
      exact act_eq (hKK.out _ _ (Below.refl _ _) rfl) (by first | rfl | simp [upd, ed5])
    refine List.forall_mem_cons.2 ⟨?_, ?_⟩
    · intro xv bv ev WW hB hdp
      refine op_of rfl ?_
      have ed6 : xv 6 = .bool false := hdp 6 (by kernel_rfl)
      clear hdp
      intro KK hKK
      refine op_guard (d := 66) rfl rfl (by first | exact congrArg some ed6 | simp [ed6]) ?_
      go_simp
      exact act_eq (hKK.out _ _ (Below.refl _ _) rfl) (by first | rfl | simp [upd, ed6])
    refine List.forall_mem_cons.2 ⟨?_, ?_⟩
    · intro xv bv ev WW hB hdp
      refine op_of rfl ?_
      have ed7 : xv 7 = .int .i64 0 := hdp 7 (by kernel_rfl)
      have ed6 : xv 6 = .bool false := hdp 6 (by kernel_rfl)
      clear hdp
      intro KK hKK
      refine op_guard (d := 66) rfl rfl (by first | exact congrArg some ed6 | simp [ed6]) ?_
      go_simp
      exact act_eq (hKK.out _ _ (Below.refl _ _) rfl) (by first | rfl | simp [upd, ed7, ed6])
    refine List.forall_mem_cons.2 ⟨?_, ?_⟩
    · intro xv bv ev WW hB hdp
      refine op_of rfl ?_
      have ed6 : xv 6 = .bool false := hdp 6 (by kernel_rfl)
      have ed8 : xv 8 = .bool false := hdp 8 (by kernel_rfl)
      clear hdp
      intro KK hKK
      go_simp
      exact act_eq (hKK.out _ _ (Below.refl _ _) rfl) (by first | rfl | simp [upd, ed6, ed8])
    exact List.forall_mem_nil _
  intro xv bv ev w7 hB hR hO
  have ed0 : xv 0 = .agg #[.slice xa (len r1) xk] := hR 0 (by kernel_rfl)
  have ed1 : xv 1 = .agg #[.slice ao (len N) ca] := hR 1 (by kernel_rfl)
  have ed2 : xv 2 = .agg #[.slice bo (len M) cb] := hR 2 (by kernel_rfl)
  obtain ⟨ua, uk, ed3, hu⟩ := (show (PNum (r1)) (xv 3) (bv 3) (ev 3) w7 from hR 3 (by kernel_rfl))
  have ed4 : xv 4 = .bool true := hR 4 (by kernel_rfl)
  have ed5 : xv 5 = .bool false := hR 5 (by kernel_rfl)
  have ed6 : xv 6 = .bool false := hR 6 (by kernel_rfl)
  have ed7 : xv 7 = .int .i64 0 := hR 7 (by kernel_rfl)
  have ed8 : xv 8 = .bool false := hR 8 (by kernel_rfl)
  have ed9 : xv 9 = .bool false := hR 9 (by kernel_rfl)
  simp only [ed0, ed1, ed2, ed3, ed4, ed5, ed6, ed7, ed8, ed9]
  have E10 : Hid (EnvB w [(w4.heap.size, .slice ya 0 yk), (w3.heap.size, .slice xa (len r1) xk), (w.heap.size + 1, .slice bo (len M) cb), (w.heap.size, .slice ao (len N) ca)] [(.slice ua (len r1) uk, digs r1), (.slice xa (len r1) xk, digs r1), (.slice bo (len M) cb, digs M), (.slice ao (len N) ca, digs N)] _) := Lib.hid (((E9.out.below hB).numN (hu.out : Nt _ _ (r1))))
  clear E9 hB hR hO bx0 bx1 bx2 ed0 ed1 ed2 ed3 ed4 ed5 ed6 ed7 ed8 ed9 hu
  refine wpAny_done (by kernel_rfl) ?_ _
  obtain ⟨p9, f9, -, -, -⟩ := E10.out.box 2 rfl
  obtain ⟨p10, f10, -, -, -⟩ := E10.out.box 3 rfl
  go_wp2_with fail
  refine (first1_c _ _ _ (digs N) _ _ _ (digs M) 2 _ hg.out (E10.out.nt 2 rfl) (E10.out.nt 3 rfl) _ (by simp)).mono ?_
  rintro e w8 ⟨rfl, hb⟩
  have E11 : Hid (EnvB w [(w4.heap.size, .slice ya 0 yk), (w3.heap.size, .slice xa (len r1) xk), (w.heap.size + 1, .slice bo (len M) cb), (w.heap.size, .slice ao (len N) ca)] [(.slice ua (len r1) uk, digs r1), (.slice xa (len r1) xk, digs r1), (.slice bo (len M) cb, digs M), (.slice ao (len N) ca, digs N)] _) := Lib.hid ((E10.out.below hb))
  clear p9 f9 p10 f10 E10 hb
  obtain ⟨p11, f11, -, -, -⟩ := E11.out.box 0 rfl
  have hfin := Lib.hid E11.out.1
  go_wp2
  go_ret
  exact ⟨rfl, hfin.out⟩
set_option maxRecDepth 100000 in
set_option maxHeartbeats 1000000 in
theorem Gcd_n (ao : Option Addr) (ca : Nat) (bo : Option Addr) (cb : Nat) (N M : Nat) (r1 r2 : Nat) (w : World) (ha : Nt w (.slice ao (len N) ca) N) (hb : Nt w (.slice bo (len M) cb) M) (hf0 : len N ≤ 6 ∧ len M ≤ 6) (hg0 : fstc (digs M) [digs N] = 0) (hn0 : N < M) (hk0 : len M ≤ 32) (hV0 : invV N M = r2) (hu0 : vld (digs N) = true) (hv0 : vld (digs M) = true) (h10 : Nat.gcd N M = r1) (h50 : len N ≤ 64) (h60 : len M ≤ 64) (h70 : len N ≤ 2000) (h80 : len M ≤ 2000) (hi0 : decide (invG N M = 1) = false) :
    Calls Try.prog 6 #[.agg #[.slice ao (len N) ca], .agg #[.slice bo (len M) cb]] w fun e w' => e = .returned (.bool true) ∧ Below w.heap.size w w' := by
  have hf := Lib.hid hf0
  have hg := Lib.hid hg0
  have hn := Lib.hid hn0
  have hk := Lib.hid hk0
  have hV := Lib.hid hV0
  have hu := Lib.hid hu0
  have hv := Lib.hid hv0
  have h1 := Lib.hid h10
  have h5 := Lib.hid h50
  have h6 := Lib.hid h60
  have h7 := Lib.hid h70
  have h8 := Lib.hid h80
  have hi := Lib.hid hi0
  clear hf0 hg0 hn0 hk0 hV0 hu0 hv0 h10 h50 h60 h70 h80 hi0
  have E0 : Hid (EnvB w [] [(.slice bo (len M) cb, digs M), (.slice ao (len N) ca, digs N)] w) := Lib.hid (((EnvB.start w).numN ha).numN hb)
  clear ha hb
  go_enter Try.func6, Try.ntmps6
  go_wp2_with fail
  have E1 : Hid (EnvB w [(w.heap.size + 1, .slice bo (len M) cb), (w.heap.size, .slice ao (len N) ca)] [(.slice bo (len M) cb, digs M), (.slice ao (len N) ca, digs N)] _) := Lib.hid (((E0.out.push (.slice ao (len N) ca) 24 ⟨_, _, _, rfl⟩ (w.heap.size) (by simp)).push (.slice bo (len M) cb) 24 ⟨_, _, _, rfl⟩ (w.heap.size + 1) (by simp)))
  refine (awake_c _).mono ?_
  rintro e w1 ⟨rfl, hb⟩
  have E2 : Hid (EnvB w [(w.heap.size + 1, .slice bo (len M) cb), (w.heap.size, .slice ao (len N) ca)] [(.slice bo (len M) cb, digs M), (.slice ao (len N) ca, digs N)] _) := Lib.hid ((E1.out.below hb))
  clear E1 E0 hb
  obtain ⟨p1, f1, -, -, -⟩ := E2.out.box 1 rfl
  obtain ⟨p2, f2, -, -, -⟩ := E2.out.box 0 rfl
  go_wp2_with fail
  refine (few2_t _ _ _ (digs N) _ _ _ (digs M) 6 _ (E2.out.nt 1 rfl) (E2.out.nt 0 rfl) hf.out _ (by simp)).mono ?_
  rintro e w2 ⟨rfl, hb⟩
  have E3 : Hid (EnvB w [(w.heap.size + 1, .slice bo (len M) cb), (w.heap.size, .slice ao (len N) ca)] [(.slice bo (len M) cb, digs M), (.slice ao (len N) ca, digs N)] _) := Lib.hid ((E2.out.below hb))
  clear p1 f1 p2 f2 E2 hb
  obtain ⟨p3, f3, -, -, -⟩ := E3.out.box 1 rfl
  obtain ⟨p4, f4, -, -, -⟩ := E3.out.box 0 rfl
  go_wp2_with fail
  refine (gcd_m h1.out h5.out h6.out (E3.out.nt 1 rfl) (E3.out.nt 0 rfl)).mono ?_
  rintro e w3 ⟨⟨xa, xk, rfl, hx⟩, hb⟩
  have E4 : Hid (EnvB w [(w.heap.size + 1, .slice bo (len M) cb), (w.heap.size, .slice ao (len N) ca)] [(.slice xa (len r1) xk, digs r1), (.slice bo (len M) cb, digs M), (.slice ao (len N) ca, digs N)] _) := Lib.hid (((E3.out.below hb).numN (hx.out : Nt _ _ r1)))
  clear p3 f3 p4 f4 E3 hb hx
  have E5 : Hid (EnvB w [(w3.heap.size, .slice xa (len r1) xk), (w.heap.size + 1, .slice bo (len M) cb), (w.heap.size, .slice ao (len N) ca)] [(.slice xa (len r1) xk, digs r1), (.slice bo (len M) cb, digs M), (.slice ao (len N) ca, digs N)] _) := Lib.hid ((E4.out.push (.slice xa (len r1) xk) 24 ⟨_, _, _, rfl⟩ (w3.heap.size) (by simp)))
  obtain ⟨p5, f5, -, -, -⟩ := E5.out.box 2 rfl
  obtain ⟨p6, f6, -, -, -⟩ := E5.out.box 1 rfl
  go_wp2_with fail
  refine (inv_n hi.out hn.out hk.out (E5.out.nt 2 rfl) (E5.out.nt 1 rfl)).mono ?_
  rintro e w4 ⟨⟨ya, yk, rfl⟩, hb⟩
  have E6 : Hid (EnvB w [(w3.heap.size, .slice xa (len r1) xk), (w.heap.size + 1, .slice bo (len M) cb), (w.heap.size, .slice ao (len N) ca)] [(.slice xa (len r1) xk, digs r1), (.slice bo (len M) cb, digs M), (.slice ao (len N) ca, digs N)] _) := Lib.hid ((E5.out.below hb))
  clear p5 f5 p6 f6 E5 E4 hb
  have E7 : Hid (EnvB w [(w4.heap.size, .slice ya 0 yk), (w3.heap.size, .slice xa (len r1) xk), (w.heap.size + 1, .slice bo (len M) cb), (w.heap.size, .slice ao (len N) ca)] [(.slice xa (len r1) xk, digs r1), (.slice bo (len M) cb, digs M), (.slice ao (len N) ca, digs N)] _) := Lib.hid ((E6.out.push (.slice ya 0 yk) 24 ⟨_, _, _, rfl⟩ (w4.heap.size) (by simp)))
  obtain ⟨p7, f7, -, -, -⟩ := E7.out.box 3 rfl
  go_wp2_with fail
  refine (rValid_of hu.out (E7.out.nt 2 rfl)).mono ?_
  rintro e w5 ⟨rfl, hb⟩
  have E8 : Hid (EnvB w [(w4.heap.size, .slice ya 0 yk), (w3.heap.size, .slice xa (len r1) xk), (w.heap.size + 1, .slice bo (len M) cb), (w.heap.size, .slice ao (len N) ca)] [(.slice xa (len r1) xk, digs r1), (.slice bo (len M) cb, digs M), (.slice ao (len N) ca, digs N)] _) := Lib.hid ((E7.out.below hb))
  clear p7 f7 E7 E6 hb
  obtain ⟨p8, f8, -, -, -⟩ := E8.out.box 2 rfl
  go_wp2_with fail
  refine (rValid_of hv.out (E8.out.nt 1 rfl)).mono ?_
  rintro e w6 ⟨rfl, hb⟩
  have E9 : Hid (EnvB w [(w4.heap.size, .slice ya 0 yk), (w3.heap.size, .slice xa (len r1) xk), (w.heap.size + 1, .slice bo (len M) cb), (w.heap.size, .slice ao (len N) ca)] [(.slice xa (len r1) xk, digs r1), (.slice bo (len M) cb, digs M), (.slice ao (len N) ca, digs N)] _) := Lib.hid ((E8.out.below hb))
  clear p8 f8 E8 hb
  go_wp2_with fail
  have bx0 := Lib.hid (E9.out.box 1 rfl)
  have bx1 := Lib.hid (E9.out.box 3 rfl)
  have bx2 := Lib.hid (E9.out.box 2 rfl)
  refine' wp_region_phase (by kernel_rfl) [0, 1, 2, 3, 4, 5, 6, 7, 8, 9] (by kernel_rfl) #[true, true, true, true, true, true, true, true, true, true] (by kernel_rfl) 0 (by kernel_rfl) [PEq (.agg #[.slice xa (len r1) xk]), PEq (.agg #[.slice ao (len N) ca]), PEq (.agg #[.slice bo (len M) cb]), PNum (r1), PEq (.bool true), PEq (.bool false), PEq (.bool false), PEq (.int .i64 0), PEq (.bool false), PEq (.bool false)] (List.forall_mem_cons.2 ⟨PEq.st _, List.forall_mem_cons.2 ⟨PEq.st _, List.forall_mem_cons.2 ⟨PEq.st _, List.forall_mem_cons.2 ⟨PNum.st _, List.forall_mem_cons.2 ⟨PEq.st _, List.forall_mem_cons.2 ⟨PEq.st _, List.forall_mem_cons.2 ⟨PEq.st _, List.forall_mem_cons.2 ⟨PEq.st _, List.forall_mem_cons.2 ⟨PEq.st _, List.forall_mem_cons.2 ⟨PEq.st _, List.forall_mem_nil _⟩⟩⟩⟩⟩⟩⟩⟩⟩⟩) _ ?hFr3 ?stepr3 ?doner3
  case hFr3 => intro x; simp only [frameL, Act.put, List.setIfInBounds_toArray, List.set_cons_zero, List.set_cons_succ, Nat.zero_add, Nat.reduceAdd]; exact rfl
  case stepr3 =>
    refine List.forall_mem_cons.2 ⟨?_, ?_⟩
    · intro xv bv ev WW hB hdp
      refine op_of rfl ?_
      clear hdp
      intro KK hKK
      obtain ⟨z, -, -, -, -⟩ := bx0.out.below hB
      go_simp
      exact act_eq (hKK.out (.agg #[.slice xa (len r1) xk]) _ (Below.refl _ _) rfl) (by first | rfl | simp [upd])
    refine List.forall_mem_cons.2 ⟨?_, ?_⟩
    · intro xv bv ev WW hB hdp
      refine op_of rfl ?_
      clear hdp
      intro KK hKK
      obtain ⟨z, -, -, -, -⟩ := bx1.out.below hB
      go_simp
      exact act_eq (hKK.out (.agg #[.slice ao (len N) ca]) _ (Below.refl _ _) rfl) (by first | rfl | simp [upd])
    refine List.forall_mem_cons.2 ⟨?_, ?_⟩
    · intro xv bv ev WW hB hdp
      refine op_of rfl ?_
      clear hdp
      intro KK hKK
      obtain ⟨z, -, -, -, -⟩ := bx2.out.below hB
      go_simp
      exact act_eq (hKK.out (.agg #[.slice bo (len M) cb]) _ (Below.refl _ _) rfl) (by first | rfl | simp [upd])
    refine List.forall_mem_cons.2 ⟨?_, ?_⟩
    · intro xv bv ev WW hB hdp
      refine op_of rfl ?_
      have ed1 : xv 1 = .agg #[.slice ao (len N) ca] := hdp 1 (by kernel_rfl)
      have ed2 : xv 2 = .agg #[.slice bo (len M) cb] := hdp 2 (by kernel_rfl)
      clear hdp
      intro KK hKK
      go_simp
      refine (rGcd_c h1.out h7.out h8.out ((E9.out.below hB).nt 2 rfl) ((E9.out.below hB).nt 1 rfl)).mono ?_
      rintro e WW' ⟨⟨ua, uk, rfl, hu⟩, hb⟩
      (try dsimp only)
      (try simp only [Act.put, List.setIfInBounds_toArray, List.set_cons_zero, List.set_cons_succ])
      exact act_eq (hKK.out _ _ hb ⟨_, _, rfl, hu⟩) (by first | rfl | simp [upd, ed1, ed2])
    refine List.forall_mem_cons.2 ⟨?_, ?_⟩
    · intro xv bv ev WW hB hdp
      refine op_of rfl ?_
      have ed0 : xv 0 = .agg #[.slice xa (len r1) xk] := hdp 0 (by kernel_rfl)
      obtain ⟨ua, uk, ed3, hu⟩ := (show (PNum (r1)) (xv 3) (bv 3) (ev 3) WW from hdp 3 (by kernel_rfl))
      clear hdp
      intro KK hKK
      go_simp
      refine (same_c (t := true) (by simp) ((E9.out.below hB).nt 0 rfl) hu.out).mono ?_
      rintro e WW' ⟨rfl, hb⟩
      (try dsimp only)
      (try simp only [Act.put, List.setIfInBounds_toArray, List.set_cons_zero, List.set_cons_succ])
      exact act_eq (hKK.out _ _ hb rfl) (by first | rfl | simp [upd, ed0, ed3])
    refine List.forall_mem_cons.2 ⟨?_, ?_⟩
    · intro xv bv ev WW hB hdp
      refine op_of rfl ?_
      have ed4 : xv 4 = .bool true := hdp 4 (by kernel_rfl)
      clear hdp
      intro KK hKK
      go_simp
      exact act_eq (hKK.out _ _ (Below.refl _ _) rfl) (by first | rfl | simp [upd, ed4])
    refine List.forall_mem_cons.2 ⟨?_, ?_⟩
    · intro xv bv ev WW hB hdp
      refine op_of rfl ?_
      have ed5 : xv 5 = .bool false := hdp 5 (by kernel_rfl)
      clear hdp
      intro KK hKK
      go_simp
      exact act_eq (hKK.out _ _ (Below.refl _ _) rfl) (by first | rfl | simp [upd, ed5])
    refine List.forall_mem_cons.2 ⟨?_, ?_⟩
    · intro xv bv ev WW hB hdp
      refine op_of rfl ?_
      have ed6 : xv 6 = .bool false := hdp 6 (by kernel_rfl)
      clear hdp
      intro KK hKK
      refine op_guard (d := 66) rfl rfl (by first | exact congrArg some ed6 | simp [ed6]) ?_
      go_simp
      exact act_eq (hKK.out _ _ (Below.refl _ _) rfl) (by first | rfl | simp [upd, ed6])
    refine List.forall_mem_cons.2 ⟨?_, ?_⟩
    · intro xv bv ev WW hB hdp
      refine op_of rfl ?_
      have ed7 : xv 7 = .int .i64 0 := hdp 7 (by kernel_rfl)
      have ed6 : xv 6 = .bool false := hdp 6 (by kernel_rfl)
      clear hdp
      intro KK hKK
      refine op_guard (d := 66) rfl rfl (by first | exact congrArg some ed6 | simp [ed6]) ?_
      go_simp
      exact act_eq (hKK.out _ _ (Below.refl _ _) rfl) (by first | rfl | simp [upd, ed7, ed6])
    refine List.forall_mem_cons.2 ⟨?_, ?_⟩
    · intro xv bv ev WW hB hdp
      refine op_of rfl ?_
      have ed6 : xv 6 = .bool false := hdp 6 (by kernel_rfl)
      have ed8 : xv 8 = .bool false := hdp 8 (by kernel_rfl)
      clear hdp
      intro KK hKK
      go_simp
      exact act_eq (hKK.out _ _ (Below.refl _ _) rfl) (by first | rfl | simp [upd, ed6, ed8])
    exact List.forall_mem_nil _
  intro xv bv ev w7 hB hR hO
  have ed0 : xv 0 = .agg #[.slice xa (len r1) xk] := hR 0 (by kernel_rfl)
  have ed1 : xv 1 = .agg #[.slice ao (len N) ca] := hR 1 (by kernel_rfl)
  have ed2 : xv 2 = .agg #[.slice bo (len M) cb] := hR 2 (by kernel_rfl)
  obtain ⟨ua, uk, ed3, hu⟩ := (show (PNum (r1)) (xv 3) (bv 3) (ev 3) w7 from hR 3 (by kernel_rfl))
  have ed4 : xv 4 = .bool true := hR 4 (by kernel_rfl)
  have ed5 : xv 5 = .bool false := hR 5 (by kernel_rfl)
  have ed6 : xv 6 = .bool false := hR 6 (by kernel_rfl)
  have ed7 : xv 7 = .int .i64 0 := hR 7 (by kernel_rfl)
  have ed8 : xv 8 = .bool false := hR 8 (by kernel_rfl)
  have ed9 : xv 9 = .bool false := hR 9 (by kernel_rfl)
  simp only [ed0, ed1, ed2, ed3, ed4, ed5, ed6, ed7, ed8, ed9]
  have E10 : Hid (EnvB w [(w4.heap.size, .slice ya 0 yk), (w3.heap.size, .slice xa (len r1) xk), (w.heap.size + 1, .slice bo (len M) cb), (w.heap.size, .slice ao (len N) ca)] [(.slice ua (len r1) uk, digs r1), (.slice xa (len r1) xk, digs r1), (.slice bo (len M) cb, digs M), (.slice ao (len N) ca, digs N)] _) := Lib.hid (((E9.out.below hB).numN (hu.out : Nt _ _ (r1))))
  clear E9 hB hR hO bx0 bx1 bx2 ed0 ed1 ed2 ed3 ed4 ed5 ed6 ed7 ed8 ed9 hu
  refine wpAny_done (by kernel_rfl) ?_ _
  obtain ⟨p9, f9, -, -, -⟩ := E10.out.box 2 rfl
  obtain ⟨p10, f10, -, -, -⟩ := E10.out.box 3 rfl
  go_wp2_with fail
  refine (first1_c _ _ _ (digs N) _ _ _ (digs M) 0 _ hg.out (E10.out.nt 2 rfl) (E10.out.nt 3 rfl) _ (by simp)).mono ?_
  rintro e w8 ⟨rfl, hb⟩
  have E11 : Hid (EnvB w [(w4.heap.size, .slice ya 0 yk), (w3.heap.size, .slice xa (len r1) xk), (w.heap.size + 1, .slice bo (len M) cb), (w.heap.size, .slice ao (len N) ca)] [(.slice ua (len r1) uk, digs r1), (.slice xa (len r1) xk, digs r1), (.slice bo (len M) cb, digs M), (.slice ao (len N) ca, digs N)] _) := Lib.hid ((E10.out.below hb))
  clear p9 f9 p10 f10 E10 hb
  obtain ⟨p11, f11, -, -, -⟩ := E11.out.box 3 rfl
  obtain ⟨p12, f12, -, -, -⟩ := E11.out.box 2 rfl
  go_wp2_with fail
  refine (rInv_c hV.out hi.out hn.out h6.out (E11.out.nt 3 rfl) (E11.out.nt 2 rfl)).mono ?_
  rintro e w9 ⟨⟨za, zk, rfl, hz⟩, hb⟩
  have E12 : Hid (EnvB w [(w4.heap.size, .slice ya 0 yk), (w3.heap.size, .slice xa (len r1) xk), (w.heap.size + 1, .slice bo (len M) cb), (w.heap.size, .slice ao (len N) ca)] [(.slice za (len r2) zk, digs r2), (.slice ua (len r1) uk, digs r1), (.slice xa (len r1) xk, digs r1), (.slice bo (len M) cb, digs M), (.slice ao (len N) ca, digs N)] _) := Lib.hid (((E11.out.below hb).numN (hz.out : Nt _ _ r2)))
  clear p11 f11 p12 f12 E11 hb hz
  have E13 : Hid (EnvB w [(w9.heap.size, .slice za (len r2) zk), (w4.heap.size, .slice ya 0 yk), (w3.heap.size, .slice xa (len r1) xk), (w.heap.size + 1, .slice bo (len M) cb), (w.heap.size, .slice ao (len N) ca)] [(.slice za (len r2) zk, digs r2), (.slice ua (len r1) uk, digs r1), (.slice xa (len r1) xk, digs r1), (.slice bo (len M) cb, digs M), (.slice ao (len N) ca, digs N)] _) := Lib.hid ((E12.out.push (.slice za (len r2) zk) 24 ⟨_, _, _, rfl⟩ (w9.heap.size) (by simp)))
  obtain ⟨p13, f13, -, -, -⟩ := E13.out.box 1 rfl
  have hfin := Lib.hid E13.out.1
  go_wp2
  go_ret
  exact ⟨rfl, hfin.out⟩
set_option maxRecDepth 100000 in
set_option maxHeartbeats 1000000 in
theorem Gcd_t (ao : Option Addr) (ca : Nat) (bo : Option Addr) (cb : Nat) (N M : Nat) (r1 r2 : Nat) (w : World) (ha : Nt w (.slice ao (len N) ca) N) (hb : Nt w (.slice bo (len M) cb) M) (hf0 : len N ≤ 6 ∧ len M ≤ 6) (hg0 : fstc (digs M) [digs N] = 0) (hn0 : N < M) (hk0 : len M ≤ 32) (hV0 : invV N M = r2) (hu0 : vld (digs N) = true) (hv0 : vld (digs M) = true) (h10 : Nat.gcd N M = r1) (h50 : len N ≤ 64) (h60 : len M ≤ 64) (h70 : len N ≤ 2000) (h80 : len M ≤ 2000) (hi0 : decide (invG N M = 1) = true) :
    Calls Try.prog 6 #[.agg #[.slice ao (len N) ca], .agg #[.slice bo (len M) cb]] w fun e w' => e = .returned (.bool true) ∧ Below w.heap.size w w' := by
  have hf := Lib.hid hf0
  have hg := Lib.hid hg0
  have hn := Lib.hid hn0
  have hk := Lib.hid hk0
  have hV := Lib.hid hV0
  have hu := Lib.hid hu0
  have hv := Lib.hid hv0
  have h1 := Lib.hid h10
  have h5 := Lib.hid h50
  have h6 := Lib.hid h60
  have h7 := Lib.hid h70
  have h8 := Lib.hid h80
  have hi := Lib.hid hi0
  clear hf0 hg0 hn0 hk0 hV0 hu0 hv0 h10 h50 h60 h70 h80 hi0
  have E0 : Hid (EnvB w [] [(.slice bo (len M) cb, digs M), (.slice ao (len N) ca, digs N)] w) := Lib.hid (((EnvB.start w).numN ha).numN hb)
  clear ha hb
  go_enter Try.func6, Try.ntmps6
  go_wp2_with fail
  have E1 : Hid (EnvB w [(w.heap.size + 1, .slice bo (len M) cb), (w.heap.size, .slice ao (len N) ca)] [(.slice bo (len M) cb, digs M), (.slice ao (len N) ca, digs N)] _) := Lib.hid (((E0.out.push (.slice ao (len N) ca) 24 ⟨_, _, _, rfl⟩ (w.heap.size) (by simp)).push (.slice bo (len M) cb) 24 ⟨_, _, _, rfl⟩ (w.heap.size + 1) (by simp)))
  refine (awake_c _).mono ?_
  rintro e w1 ⟨rfl, hb⟩
  have E2 : Hid (EnvB w [(w.heap.size + 1, .slice bo (len M) cb), (w.heap.size, .slice ao (len N) ca)] [(.slice bo (len M) cb, digs M), (.slice ao (len N) ca, digs N)] _) := Lib.hid ((E1.out.below hb))
  clear E1 E0 hb
  obtain ⟨p1, f1, -, -, -⟩ := E2.out.box 1 rfl
  obtain ⟨p2, f2, -, -, -⟩ := E2.out.box 0 rfl
  go_wp2_with fail
  refine (few2_t _ _ _ (digs N) _ _ _ (digs M) 6 _ (E2.out.nt 1 rfl) (E2.out.nt 0 rfl) hf.out _ (by simp)).mono ?_
  rintro e w2 ⟨rfl, hb⟩
  have E3 : Hid (EnvB w [(w.heap.size + 1, .slice bo (len M) cb), (w.heap.size, .slice ao (len N) ca)] [(.slice bo (len M) cb, digs M), (.slice ao (len N) ca, digs N)] _) := Lib.hid ((E2.out.below hb))
  clear p1 f1 p2 f2 E2 hb
  obtain ⟨p3, f3, -, -, -⟩ := E3.out.box 1 rfl
  obtain ⟨p4, f4, -, -, -⟩ := E3.out.box 0 rfl
  go_wp2_with fail
  refine (gcd_m h1.out h5.out h6.out (E3.out.nt 1 rfl) (E3.out.nt 0 rfl)).mono ?_
  rintro e w3 ⟨⟨xa, xk, rfl, hx⟩, hb⟩
  have E4 : Hid (EnvB w [(w.heap.size + 1, .slice bo (len M) cb), (w.heap.size, .slice ao (len N) ca)] [(.slice xa (len r1) xk, digs r1), (.slice bo (len M) cb, digs M), (.slice ao (len N) ca, digs N)] _) := Lib.hid (((E3.out.below hb).numN (hx.out : Nt _ _ r1)))
  clear p3 f3 p4 f4 E3 hb hx
  have E5 : Hid (EnvB w [(w3.heap.size, .slice xa (len r1) xk), (w.heap.size + 1, .slice bo (len M) cb), (w.heap.size, .slice ao (len N) ca)] [(.slice xa (len r1) xk, digs r1), (.slice bo (len M) cb, digs M), (.slice ao (len N) ca, digs N)] _) := Lib.hid ((E4.out.push (.slice xa (len r1) xk) 24 ⟨_, _, _, rfl⟩ (w3.heap.size) (by simp)))
  obtain ⟨p5, f5, -, -, -⟩ := E5.out.box 2 rfl
  obtain ⟨p6, f6, -, -, -⟩ := E5.out.box 1 rfl
  go_wp2_with fail
  refine (inv_m hV.out hi.out hn.out hk.out (E5.out.nt 2 rfl) (E5.out.nt 1 rfl)).mono ?_
  rintro e w4 ⟨⟨ya, yk, rfl, hy⟩, hb⟩
  have E6 : Hid (EnvB w [(w3.heap.size, .slice xa (len r1) xk), (w.heap.size + 1, .slice bo (len M) cb), (w.heap.size, .slice ao (len N) ca)] [(.slice ya (len r2) yk, digs r2), (.slice xa (len r1) xk, digs r1), (.slice bo (len M) cb, digs M), (.slice ao (len N) ca, digs N)] _) := Lib.hid (((E5.out.below hb).numN (hy.out : Nt _ _ r2)))
  clear p5 f5 p6 f6 E5 E4 hb hy
  have E7 : Hid (EnvB w [(w4.heap.size, .slice ya (len r2) yk), (w3.heap.size, .slice xa (len r1) xk), (w.heap.size + 1, .slice bo (len M) cb), (w.heap.size, .slice ao (len N) ca)] [(.slice ya (len r2) yk, digs r2), (.slice xa (len r1) xk, digs r1), (.slice bo (len M) cb, digs M), (.slice ao (len N) ca, digs N)] _) := Lib.hid ((E6.out.push (.slice ya (len r2) yk) 24 ⟨_, _, _, rfl⟩ (w4.heap.size) (by simp)))
  obtain ⟨p7, f7, -, -, -⟩ := E7.out.box 3 rfl
  go_wp2_with fail
  refine (rValid_of hu.out (E7.out.nt 3 rfl)).mono ?_
  rintro e w5 ⟨rfl, hb⟩
  have E8 : Hid (EnvB w [(w4.heap.size, .slice ya (len r2) yk), (w3.heap.size, .slice xa (len r1) xk), (w.heap.size + 1, .slice bo (len M) cb), (w.heap.size, .slice ao (len N) ca)] [(.slice ya (len r2) yk, digs r2), (.slice xa (len r1) xk, digs r1), (.slice bo (len M) cb, digs M), (.slice ao (len N) ca, digs N)] _) := Lib.hid ((E7.out.below hb))
  clear p7 f7 E7 E6 hb
  obtain ⟨p8, f8, -, -, -⟩ := E8.out.box 2 rfl
  go_wp2_with fail
  refine (rValid_of hv.out (E8.out.nt 2 rfl)).mono ?_
  rintro e w6 ⟨rfl, hb⟩
  have E9 : Hid (EnvB w [(w4.heap.size, .slice ya (len r2) yk), (w3.heap.size, .slice xa (len r1) xk), (w.heap.size + 1, .slice bo (len M) cb), (w.heap.size, .slice ao (len N) ca)] [(.slice ya (len r2) yk, digs r2), (.slice xa (len r1) xk, digs r1), (.slice bo (len M) cb, digs M), (.slice ao (len N) ca, digs N)] _) := Lib.hid ((E8.out.below hb))
  clear p8 f8 E8 hb
  go_wp2_with fail
  have bx0 := Lib.hid (E9.out.box 1 rfl)
  have bx1 := Lib.hid (E9.out.box 3 rfl)
  have bx2 := Lib.hid (E9.out.box 2 rfl)
  refine' wp_region_phase (by kernel_rfl) [0, 1, 2, 3, 4, 5, 6, 7, 8, 9] (by kernel_rfl) #[true, true, true, true, true, true, true, true, true, true] (by kernel_rfl) 0 (by kernel_rfl) [PEq (.agg #[.slice xa (len r1) xk]), PEq (.agg #[.slice ao (len N) ca]), PEq (.agg #[.slice bo (len M) cb]), PNum (r1), PEq (.bool true), PEq (.bool false), PEq (.bool false), PEq (.int .i64 0), PEq (.bool false), PEq (.bool false)] (List.forall_mem_cons.2 ⟨PEq.st _, List.forall_mem_cons.2 ⟨PEq.st _, List.forall_mem_cons.2 ⟨PEq.st _, List.forall_mem_cons.2 ⟨PNum.st _, List.forall_mem_cons.2 ⟨PEq.st _, List.forall_mem_cons.2 ⟨PEq.st _, List.forall_mem_cons.2 ⟨PEq.st _, List.forall_mem_cons.2 ⟨PEq.st _, List.forall_mem_cons.2 ⟨PEq.st _, List.forall_mem_cons.2 ⟨PEq.st _, List.forall_mem_nil _⟩⟩⟩⟩⟩⟩⟩⟩⟩⟩) _ ?hFr4 ?stepr4 ?doner4
  case hFr4 => intro x; simp only [frameL, Act.put, List.setIfInBounds_toArray, List.set_cons_zero, List.set_cons_succ, Nat.zero_add, Nat.reduceAdd]; exact rfl
  case stepr4 =>
    refine List.forall_mem_cons.2 ⟨?_, ?_⟩
    · intro xv bv ev WW hB hdp
      refine op_of rfl ?_
      clear hdp
      intro KK hKK
      obtain ⟨z, -, -, -, -⟩ := bx0.out.below hB
      go_simp
      exact act_eq (hKK.out (.agg #[.slice xa (len r1) xk]) _ (Below.refl _ _) rfl) (by first | rfl | simp [upd])
    refine List.forall_mem_cons.2 ⟨?_, ?_⟩
    · intro xv bv ev WW hB hdp
      refine op_of rfl ?_
      clear hdp
      intro KK hKK
      obtain ⟨z, -, -, -, -⟩ := bx1.out.below hB
      go_simp
      exact act_eq (hKK.out (.agg #[.slice ao (len N) ca]) _ (Below.refl _ _) rfl) (by first | rfl | simp [upd])
    refine List.forall_mem_cons.2 ⟨?_, ?_⟩
    · intro xv bv ev WW hB hdp
      refine op_of rfl ?_
      clear hdp
      intro KK hKK
      obtain ⟨z, -, -, -, -⟩ := bx2.out.below hB
      go_simp
      exact act_eq (hKK.out (.agg #[.slice bo (len M) cb]) _ (Below.refl _ _) rfl) (by first | rfl | simp [upd])
    refine List.forall_mem_cons.2 ⟨?_, ?_⟩
    · intro xv bv ev WW hB hdp
      refine op_of rfl ?_
      have ed1 : xv 1 = .agg #[.slice ao (len N) ca] := hdp 1 (by kernel_rfl)
      have ed2 : xv 2 = .agg #[.slice bo (len M) cb] := hdp 2 (by kernel_rfl)
      clear hdp
      intro KK hKK
      go_simp
      refine (rGcd_c h1.out h7.out h8.out ((E9.out.below hB).nt 3 rfl) ((E9.out.below hB).nt 2 rfl)).mono ?_
      rintro e WW' ⟨⟨ua, uk, rfl, hu⟩, hb⟩
      (try dsimp only)
      (try simp only [Act.put, List.setIfInBounds_toArray, List.set_cons_zero, List.set_cons_succ])
      exact act_eq (hKK.out _ _ hb ⟨_, _, rfl, hu⟩) (by first | rfl | simp [upd, ed1, ed2])
    refine List.forall_mem_cons.2 ⟨?_, ?_⟩
    · intro xv bv ev WW hB hdp
      refine op_of rfl ?_
      have ed0 : xv 0 = .agg #[.slice xa (len r1) xk] := hdp 0 (by kernel_rfl)
      obtain ⟨ua, uk, ed3, hu⟩ := (show (PNum (r1)) (xv 3) (bv 3) (ev 3) WW from hdp 3 (by kernel_rfl))
      clear hdp
      intro KK hKK
      go_simp
      refine (same_c (t := true) (by simp) ((E9.out.below hB).nt 1 rfl) hu.out).mono ?_
      rintro e WW' ⟨rfl, hb⟩
      (try dsimp only)
      (try simp only [Act.put, List.setIfInBounds_toArray, List.set_cons_zero, List.set_cons_succ])
      exact act_eq (hKK.out _ _ hb rfl) (by first | rfl | simp [upd, ed0, ed3])
    refine List.forall_mem_cons.2 ⟨?_, ?_⟩
    · intro xv bv ev WW hB hdp
      refine op_of rfl ?_
      have ed4 : xv 4 = .bool true := hdp 4 (by kernel_rfl)
      clear hdp
      intro KK hKK
      go_simp
      exact act_eq (hKK.out _ _ (Below.refl _ _) rfl) (by first | rfl | simp [upd, ed4])
    refine List.forall_mem_cons.2 ⟨?_, ?_⟩
    · intro xv bv ev WW hB hdp
      refine op_of rfl ?_
      have ed5 : xv 5 = .bool false := hdp 5 (by kernel_rfl)
      clear hdp
      intro KK hKK
      go_simp
      exact act_eq (hKK.out _ _ (Below.refl _ _) rfl) (by first | rfl | simp [upd, ed5])
    refine List.forall_mem_cons.2 ⟨?_, ?_⟩
    · intro xv bv ev WW hB hdp
      refine op_of rfl ?_
      have ed6 : xv 6 = .bool false := hdp 6 (by kernel_rfl)
      clear hdp
      intro KK hKK
      refine op_guard (d := 66) rfl rfl (by first | exact congrArg some ed6 | simp [ed6]) ?_
      go_simp
      exact act_eq (hKK.out _ _ (Below.refl _ _) rfl) (by first | rfl | simp [upd, ed6])
    refine List.forall_mem_cons.2 ⟨?_, ?_⟩
    · intro xv bv ev WW hB hdp
      refine op_of rfl ?_
      have ed7 : xv 7 = .int .i64 0 := hdp 7 (by kernel_rfl)
      have ed6 : xv 6 = .bool false := hdp 6 (by kernel_rfl)
      clear hdp
      intro KK hKK
      refine op_guard (d := 66) rfl rfl (by first | exact congrArg some ed6 | simp [ed6]) ?_
      go_simp
      exact act_eq (hKK.out _ _ (Below.refl _ _) rfl) (by first | rfl | simp [upd, ed7, ed6])
    refine List.forall_mem_cons.2 ⟨?_, ?_⟩
    · intro xv bv ev WW hB hdp
      refine op_of rfl ?_
      have ed6 : xv 6 = .bool false := hdp 6 (by kernel_rfl)
      have ed8 : xv 8 = .bool false := hdp 8 (by kernel_rfl)
      clear hdp
      intro KK hKK
      go_simp
      exact act_eq (hKK.out _ _ (Below.refl _ _) rfl) (by first | rfl | simp [upd, ed6, ed8])
    exact List.forall_mem_nil _
  intro xv bv ev w7 hB hR hO
  have ed0 : xv 0 = .agg #[.slice xa (len r1) xk] := hR 0 (by kernel_rfl)
  have ed1 : xv 1 = .agg #[.slice ao (len N) ca] := hR 1 (by kernel_rfl)
  have ed2 : xv 2 = .agg #[.slice bo (len M) cb] := hR 2 (by kernel_rfl)
  obtain ⟨ua, uk, ed3, hu⟩ := (show (PNum (r1)) (xv 3) (bv 3) (ev 3) w7 from hR 3 (by kernel_rfl))
  have ed4 : xv 4 = .bool true := hR 4 (by kernel_rfl)
  have ed5 : xv 5 = .bool false := hR 5 (by kernel_rfl)
  have ed6 : xv 6 = .bool false := hR 6 (by kernel_rfl)
  have ed7 : xv 7 = .int .i64 0 := hR 7 (by kernel_rfl)
  have ed8 : xv 8 = .bool false := hR 8 (by kernel_rfl)
  have ed9 : xv 9 = .bool false := hR 9 (by kernel_rfl)
  simp only [ed0, ed1, ed2, ed3, ed4, ed5, ed6, ed7, ed8, ed9]
  have E10 : Hid (EnvB w [(w4.heap.size, .slice ya (len r2) yk), (w3.heap.size, .slice xa (len r1) xk), (w.heap.size + 1, .slice bo (len M) cb), (w.heap.size, .slice ao (len N) ca)] [(.slice ua (len r1) uk, digs r1), (.slice ya (len r2) yk, digs r2), (.slice xa (len r1) xk, digs r1), (.slice bo (len M) cb, digs M), (.slice ao (len N) ca, digs N)] _) := Lib.hid (((E9.out.below hB).numN (hu.out : Nt _ _ (r1))))
  clear E9 hB hR hO bx0 bx1 bx2 ed0 ed1 ed2 ed3 ed4 ed5 ed6 ed7 ed8 ed9 hu
  refine wpAny_done (by kernel_rfl) ?_ _
  obtain ⟨p9, f9, -, -, -⟩ := E10.out.box 2 rfl
  obtain ⟨p10, f10, -, -, -⟩ := E10.out.box 3 rfl
  go_wp2_with fail
  refine (first1_c _ _ _ (digs N) _ _ _ (digs M) 0 _ hg.out (E10.out.nt 3 rfl) (E10.out.nt 4 rfl) _ (by simp)).mono ?_
  rintro e w8 ⟨rfl, hb⟩
  have E11 : Hid (EnvB w [(w4.heap.size, .slice ya (len r2) yk), (w3.heap.size, .slice xa (len r1) xk), (w.heap.size + 1, .slice bo (len M) cb), (w.heap.size, .slice ao (len N) ca)] [(.slice ua (len r1) uk, digs r1), (.slice ya (len r2) yk, digs r2), (.slice xa (len r1) xk, digs r1), (.slice bo (len M) cb, digs M), (.slice ao (len N) ca, digs N)] _) := Lib.hid ((E10.out.below hb))
  clear p9 f9 p10 f10 E10 hb
  obtain ⟨p11, f11, -, -, -⟩ := E11.out.box 3 rfl
  obtain ⟨p12, f12, -, -, -⟩ := E11.out.box 2 rfl
  go_wp2_with fail
  refine (rInv_c hV.out hi.out hn.out h6.out (E11.out.nt 4 rfl) (E11.out.nt 3 rfl)).mono ?_
  rintro e w9 ⟨⟨za, zk, rfl, hz⟩, hb⟩
  have E12 : Hid (EnvB w [(w4.heap.size, .slice ya (len r2) yk), (w3.heap.size, .slice xa (len r1) xk), (w.heap.size + 1, .slice bo (len M) cb), (w.heap.size, .slice ao (len N) ca)] [(.slice za (len r2) zk, digs r2), (.slice ua (len r1) uk, digs r1), (.slice ya (len r2) yk, digs r2), (.slice xa (len r1) xk, digs r1), (.slice bo (len M) cb, digs M), (.slice ao (len N) ca, digs N)] _) := Lib.hid (((E11.out.below hb).numN (hz.out : Nt _ _ r2)))
  clear p11 f11 p12 f12 E11 hb hz
  have E13 : Hid (EnvB w [(w9.heap.size, .slice za (len r2) zk), (w4.heap.size, .slice ya (len r2) yk), (w3.heap.size, .slice xa (len r1) xk), (w.heap.size + 1, .slice bo (len M) cb), (w.heap.size, .slice ao (len N) ca)] [(.slice za (len r2) zk, digs r2), (.slice ua (len r1) uk, digs r1), (.slice ya (len r2) yk, digs r2), (.slice xa (len r1) xk, digs r1), (.slice bo (len M) cb, digs M), (.slice ao (len N) ca, digs N)] _) := Lib.hid ((E12.out.push (.slice za (len r2) zk) 24 ⟨_, _, _, rfl⟩ (w9.heap.size) (by simp)))
  obtain ⟨p13, f13, -, -, -⟩ := E13.out.box 1 rfl
  obtain ⟨p14, f14, -, -, -⟩ := E13.out.box 0 rfl
  go_wp2_with fail
  refine (same_c (t := true) (by simp) (E13.out.nt 2 rfl) (E13.out.nt 0 rfl)).mono ?_
  rintro e w10 ⟨rfl, hb⟩
  have E14 : Hid (EnvB w [(w9.heap.size, .slice za (len r2) zk), (w4.heap.size, .slice ya (len r2) yk), (w3.heap.size, .slice xa (len r1) xk), (w.heap.size + 1, .slice bo (len M) cb), (w.heap.size, .slice ao (len N) ca)] [(.slice za (len r2) zk, digs r2), (.slice ua (len r1) uk, digs r1), (.slice ya (len r2) yk, digs r2), (.slice xa (len r1) xk, digs r1), (.slice bo (len M) cb, digs M), (.slice ao (len N) ca, digs N)] _) := Lib.hid ((E13.out.below hb))
  clear p13 f13 p14 f14 E13 E12 hb
  have hfin := Lib.hid E14.out.1
  go_wp2
  go_ret
  exact ⟨rfl, hfin.out⟩
theorem NatmodGcd_walk (a b : Value) (la lb : List Nat) (w : World) (ha : Sl w a la) (hb : Sl w b lb) :
    Calls Try.prog 6 #[.agg #[a], .agg #[b]] w fun e w' => e = .returned (.bool true) ∧ Below w.heap.size w w' := by
  obtain ⟨ao, ca, rfl, _⟩ := ha.open
  obtain ⟨bo, cb, rfl, _⟩ := hb.open
  by_cases hf : la.length ≤ 6 ∧ lb.length ≤ 6
  · cases hv : vld la
    · exact Gcd_bad1 ao ca bo cb la lb w ha hb hf (if_neg (by simp [hv])) hv
    · cases hu : vld lb
      · exact Gcd_bad2 ao ca bo cb la lb w ha hb hf (if_neg (by simp [mdl, hu])) hv hu
      · obtain ⟨N, rfl, _, hN⟩ := nt_of ha hv
        obtain ⟨M, rfl, _, hM⟩ := nt_of hb hu
        have hf' : len N ≤ 6 ∧ len M ≤ 6 := hf
        rcases fst_cases (digs M) [digs N] with h | h | h
        · obtain ⟨h1, h2, h3⟩ := fst_zero h
          have a1 := h3 (digs N) (by simp)
          rw [val_digs, val_digs] at a1
          cases hi : decide (invG N M = 1)
          · exact Gcd_n ao ca bo cb N M _ _ w hN hM hf h a1 (by omega) rfl hv hu rfl (by omega) (by omega) (by omega) (by omega) hi
          · exact Gcd_t ao ca bo cb N M _ _ w hN hM hf h a1 (by omega) rfl hv hu rfl (by omega) (by omega) (by omega) (by omega) hi
        · exact Gcd_e1 ao ca bo cb N M _ w hN hM hf h hv hu rfl (by omega) (by omega) (by omega) (by omega)
        · exact Gcd_e2 ao ca bo cb N M _ w hN hM hf h hv hu rfl (by omega) (by omega) (by omega) (by omega)
  · exact Gcd_big ao ca bo cb la lb w ha hb hf
end Go.Proofs.Ythphmgdmhlimjaa
