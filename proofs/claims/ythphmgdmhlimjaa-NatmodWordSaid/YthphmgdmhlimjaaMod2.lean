/- Package natmod: given, operate, Add, Sub, Mul. -/
import Derived.Test.YthphmgdmhlimjaaMod1
namespace Go.Proofs.Ythphmgdmhlimjaa
open Go.RowKit NatMath
set_option linter.unusedVariables false

set_option maxRecDepth 100000 in
set_option maxHeartbeats 1000000 in
theorem given_w (ao : Option Addr) (ca : Nat) (bo : Option Addr) (cb : Nat) (co : Option Addr) (cc : Nat) (N M K : Nat)  (w : World) (ha : Nt w (.slice ao (len N) ca) N) (hb : Nt w (.slice bo (len M) cb) M) (hc : Nt w (.slice co (len K) cc) K) (hn : N < K) (hm : M < K) (hk : len K ≤ 32) :
    Calls Try.prog 65 #[.agg #[.slice ao (len N) ca], .agg #[.slice bo (len M) cb], .agg #[.slice co (len K) cc]] w fun e w' => e = .returned (.int .i64 0) ∧ Below w.heap.size w w' := by
  have k1 := len_le_of_lt hn hk
  have k2 := len_le_of_lt hm hk
  have CV1 := Lib.hid (fun W ha => @validN (.slice ao (len N) ca) N W (by omega) ha)
  have CV2 := Lib.hid (fun W ha => @validN (.slice bo (len M) cb) M W (by omega) ha)
  have CM := Lib.hid (fun W ha => @modulus_c (.slice co (len K) cc) (digs K) true W (mdl_digs.2 ⟨by omega, hk⟩) ha)
  have CL1 := Lib.hid (fun W ha hb => @less_c (.slice ao (len N) ca) (.slice co (len K) cc) N K true W (decide_eq_true hn) (by omega) (by omega) ha hb)
  have CL2 := Lib.hid (fun W ha hb => @less_c (.slice bo (len M) cb) (.slice co (len K) cc) M K true W (decide_eq_true hm) (by omega) (by omega) ha hb)
  clear hn hm hk k1 k2
  have E0 : Hid (EnvB w [] [(.slice co (len K) cc, digs K), (.slice bo (len M) cb, digs M), (.slice ao (len N) ca, digs N)] w) := Lib.hid ((((EnvB.start w).numN ha).numN hb).numN hc)
  clear ha hb hc
  go_enter Try.func65, Try.ntmps65
  go_wp2_with fail
  have E1 : Hid (EnvB w [(w.heap.size + 1 + 1, .slice co (len K) cc), (w.heap.size + 1, .slice bo (len M) cb), (w.heap.size, .slice ao (len N) ca)] [(.slice co (len K) cc, digs K), (.slice bo (len M) cb, digs M), (.slice ao (len N) ca, digs N)] _) := Lib.hid ((((E0.out.push (.slice ao (len N) ca) 24 ⟨_, _, _, rfl⟩ (w.heap.size) (by simp)).push (.slice bo (len M) cb) 24 ⟨_, _, _, rfl⟩ (w.heap.size + 1) (by simp)).push (.slice co (len K) cc) 24 ⟨_, _, _, rfl⟩ (w.heap.size + 1 + 1) (by simp)))
  refine (CV1.out _ (E1.out.nt 2 rfl)).mono ?_
  rintro e w1 ⟨rfl, hb⟩
  have E2 : Hid (EnvB w [(w.heap.size + 1 + 1, .slice co (len K) cc), (w.heap.size + 1, .slice bo (len M) cb), (w.heap.size, .slice ao (len N) ca)] [(.slice co (len K) cc, digs K), (.slice bo (len M) cb, digs M), (.slice ao (len N) ca, digs N)] _) := Lib.hid ((E1.out.below hb))
  clear E1 E0 hb
  obtain ⟨p1, f1, -, -, -⟩ := E2.out.box 1 rfl
  go_wp2_with fail
  refine (CV2.out _ (E2.out.nt 1 rfl)).mono ?_
  rintro e w2 ⟨rfl, hb⟩
  have E3 : Hid (EnvB w [(w.heap.size + 1 + 1, .slice co (len K) cc), (w.heap.size + 1, .slice bo (len M) cb), (w.heap.size, .slice ao (len N) ca)] [(.slice co (len K) cc, digs K), (.slice bo (len M) cb, digs M), (.slice ao (len N) ca, digs N)] _) := Lib.hid ((E2.out.below hb))
  clear p1 f1 E2 hb
  obtain ⟨p2, f2, -, -, -⟩ := E3.out.box 0 rfl
  go_wp2_with fail
  refine (CM.out _ (E3.out.nt 0 rfl)).mono ?_
  rintro e w3 ⟨rfl, hb⟩
  have E4 : Hid (EnvB w [(w.heap.size + 1 + 1, .slice co (len K) cc), (w.heap.size + 1, .slice bo (len M) cb), (w.heap.size, .slice ao (len N) ca)] [(.slice co (len K) cc, digs K), (.slice bo (len M) cb, digs M), (.slice ao (len N) ca, digs N)] _) := Lib.hid ((E3.out.below hb))
  clear p2 f2 E3 hb
  obtain ⟨p3, f3, -, -, -⟩ := E4.out.box 2 rfl
  obtain ⟨p4, f4, -, -, -⟩ := E4.out.box 0 rfl
  go_wp2_with fail
  refine (CL1.out _ (E4.out.nt 2 rfl) (E4.out.nt 0 rfl)).mono ?_
  rintro e w4 ⟨rfl, hb⟩
  have E5 : Hid (EnvB w [(w.heap.size + 1 + 1, .slice co (len K) cc), (w.heap.size + 1, .slice bo (len M) cb), (w.heap.size, .slice ao (len N) ca)] [(.slice co (len K) cc, digs K), (.slice bo (len M) cb, digs M), (.slice ao (len N) ca, digs N)] _) := Lib.hid ((E4.out.below hb))
  clear p3 f3 p4 f4 E4 hb
  obtain ⟨p5, f5, -, -, -⟩ := E5.out.box 1 rfl
  obtain ⟨p6, f6, -, -, -⟩ := E5.out.box 0 rfl
  go_wp2_with fail
  refine (CL2.out _ (E5.out.nt 1 rfl) (E5.out.nt 0 rfl)).mono ?_
  rintro e w5 ⟨rfl, hb⟩
  have E6 : Hid (EnvB w [(w.heap.size + 1 + 1, .slice co (len K) cc), (w.heap.size + 1, .slice bo (len M) cb), (w.heap.size, .slice ao (len N) ca)] [(.slice co (len K) cc, digs K), (.slice bo (len M) cb, digs M), (.slice ao (len N) ca, digs N)] _) := Lib.hid ((E5.out.below hb))
  clear p5 f5 p6 f6 E5 hb
  have hfin := Lib.hid E6.out.1
  go_wp2
  go_ret
  exact ⟨rfl, hfin.out⟩
set_option maxRecDepth 100000 in
set_option maxHeartbeats 1000000 in
theorem given_r1 (ao : Option Addr) (ca : Nat) (bo : Option Addr) (cb : Nat) (co : Option Addr) (cc : Nat) (N M K : Nat)  (w : World) (ha : Nt w (.slice ao (len N) ca) N) (hb : Nt w (.slice bo (len M) cb) M) (hc : Nt w (.slice co (len K) cc) K) (h1 : len N ≤ 64) (h2 : len M ≤ 64) (h0 : K ≠ 0) (hk : len K ≤ 32) (hn : ¬ N < K) :
    Calls Try.prog 65 #[.agg #[.slice ao (len N) ca], .agg #[.slice bo (len M) cb], .agg #[.slice co (len K) cc]] w fun e w' => e = .returned (.int .i64 2) ∧ Below w.heap.size w w' := by
  have CV1 := Lib.hid (fun W ha => @validN (.slice ao (len N) ca) N W (by omega) ha)
  have CV2 := Lib.hid (fun W ha => @validN (.slice bo (len M) cb) M W (by omega) ha)
  have CM := Lib.hid (fun W ha => @modulus_c (.slice co (len K) cc) (digs K) true W (mdl_digs.2 ⟨h0, hk⟩) ha)
  have CL1 := Lib.hid (fun W ha hb => @less_c (.slice ao (len N) ca) (.slice co (len K) cc) N K false W (decide_eq_false hn) (by omega) (by omega) ha hb)
  clear hn hk h0 h1 h2
  have E0 : Hid (EnvB w [] [(.slice co (len K) cc, digs K), (.slice bo (len M) cb, digs M), (.slice ao (len N) ca, digs N)] w) := Lib.hid ((((EnvB.start w).numN ha).numN hb).numN hc)
  clear ha hb hc
  go_enter Try.func65, Try.ntmps65
  go_wp2_with fail
  have E1 : Hid (EnvB w [(w.heap.size + 1 + 1, .slice co (len K) cc), (w.heap.size + 1, .slice bo (len M) cb), (w.heap.size, .slice ao (len N) ca)] [(.slice co (len K) cc, digs K), (.slice bo (len M) cb, digs M), (.slice ao (len N) ca, digs N)] _) := Lib.hid ((((E0.out.push (.slice ao (len N) ca) 24 ⟨_, _, _, rfl⟩ (w.heap.size) (by simp)).push (.slice bo (len M) cb) 24 ⟨_, _, _, rfl⟩ (w.heap.size + 1) (by simp)).push (.slice co (len K) cc) 24 ⟨_, _, _, rfl⟩ (w.heap.size + 1 + 1) (by simp)))
  refine (CV1.out _ (E1.out.nt 2 rfl)).mono ?_
  rintro e w1 ⟨rfl, hb⟩
  have E2 : Hid (EnvB w [(w.heap.size + 1 + 1, .slice co (len K) cc), (w.heap.size + 1, .slice bo (len M) cb), (w.heap.size, .slice ao (len N) ca)] [(.slice co (len K) cc, digs K), (.slice bo (len M) cb, digs M), (.slice ao (len N) ca, digs N)] _) := Lib.hid ((E1.out.below hb))
  clear E1 E0 hb
  obtain ⟨p1, f1, -, -, -⟩ := E2.out.box 1 rfl
  go_wp2_with fail
  refine (CV2.out _ (E2.out.nt 1 rfl)).mono ?_
  rintro e w2 ⟨rfl, hb⟩
  have E3 : Hid (EnvB w [(w.heap.size + 1 + 1, .slice co (len K) cc), (w.heap.size + 1, .slice bo (len M) cb), (w.heap.size, .slice ao (len N) ca)] [(.slice co (len K) cc, digs K), (.slice bo (len M) cb, digs M), (.slice ao (len N) ca, digs N)] _) := Lib.hid ((E2.out.below hb))
  clear p1 f1 E2 hb
  obtain ⟨p2, f2, -, -, -⟩ := E3.out.box 0 rfl
  go_wp2_with fail
  refine (CM.out _ (E3.out.nt 0 rfl)).mono ?_
  rintro e w3 ⟨rfl, hb⟩
  have E4 : Hid (EnvB w [(w.heap.size + 1 + 1, .slice co (len K) cc), (w.heap.size + 1, .slice bo (len M) cb), (w.heap.size, .slice ao (len N) ca)] [(.slice co (len K) cc, digs K), (.slice bo (len M) cb, digs M), (.slice ao (len N) ca, digs N)] _) := Lib.hid ((E3.out.below hb))
  clear p2 f2 E3 hb
  obtain ⟨p3, f3, -, -, -⟩ := E4.out.box 2 rfl
  obtain ⟨p4, f4, -, -, -⟩ := E4.out.box 0 rfl
  go_wp2_with fail
  refine (CL1.out _ (E4.out.nt 2 rfl) (E4.out.nt 0 rfl)).mono ?_
  rintro e w4 ⟨rfl, hb⟩
  have E5 : Hid (EnvB w [(w.heap.size + 1 + 1, .slice co (len K) cc), (w.heap.size + 1, .slice bo (len M) cb), (w.heap.size, .slice ao (len N) ca)] [(.slice co (len K) cc, digs K), (.slice bo (len M) cb, digs M), (.slice ao (len N) ca, digs N)] _) := Lib.hid ((E4.out.below hb))
  clear p3 f3 p4 f4 E4 hb
  have hfin := Lib.hid E5.out.1
  go_wp2
  go_ret
  exact ⟨rfl, hfin.out⟩
set_option maxRecDepth 100000 in
set_option maxHeartbeats 1000000 in
theorem given_r2 (ao : Option Addr) (ca : Nat) (bo : Option Addr) (cb : Nat) (co : Option Addr) (cc : Nat) (N M K : Nat)  (w : World) (ha : Nt w (.slice ao (len N) ca) N) (hb : Nt w (.slice bo (len M) cb) M) (hc : Nt w (.slice co (len K) cc) K) (h1 : len N ≤ 64) (h2 : len M ≤ 64) (h0 : K ≠ 0) (hk : len K ≤ 32) (hn : N < K) (hm : ¬ M < K) :
    Calls Try.prog 65 #[.agg #[.slice ao (len N) ca], .agg #[.slice bo (len M) cb], .agg #[.slice co (len K) cc]] w fun e w' => e = .returned (.int .i64 2) ∧ Below w.heap.size w w' := by
  have CV1 := Lib.hid (fun W ha => @validN (.slice ao (len N) ca) N W (by omega) ha)
  have CV2 := Lib.hid (fun W ha => @validN (.slice bo (len M) cb) M W (by omega) ha)
  have CM := Lib.hid (fun W ha => @modulus_c (.slice co (len K) cc) (digs K) true W (mdl_digs.2 ⟨h0, hk⟩) ha)
  have CL1 := Lib.hid (fun W ha hb => @less_c (.slice ao (len N) ca) (.slice co (len K) cc) N K true W (decide_eq_true hn) (by omega) (by omega) ha hb)
  have CL2 := Lib.hid (fun W ha hb => @less_c (.slice bo (len M) cb) (.slice co (len K) cc) M K false W (decide_eq_false hm) (by omega) (by omega) ha hb)
  clear hn hk h0 h1 h2 hm
  have E0 : Hid (EnvB w [] [(.slice co (len K) cc, digs K), (.slice bo (len M) cb, digs M), (.slice ao (len N) ca, digs N)] w) := Lib.hid ((((EnvB.start w).numN ha).numN hb).numN hc)
  clear ha hb hc
  go_enter Try.func65, Try.ntmps65
  go_wp2_with fail
  have E1 : Hid (EnvB w [(w.heap.size + 1 + 1, .slice co (len K) cc), (w.heap.size + 1, .slice bo (len M) cb), (w.heap.size, .slice ao (len N) ca)] [(.slice co (len K) cc, digs K), (.slice bo (len M) cb, digs M), (.slice ao (len N) ca, digs N)] _) := Lib.hid ((((E0.out.push (.slice ao (len N) ca) 24 ⟨_, _, _, rfl⟩ (w.heap.size) (by simp)).push (.slice bo (len M) cb) 24 ⟨_, _, _, rfl⟩ (w.heap.size + 1) (by simp)).push (.slice co (len K) cc) 24 ⟨_, _, _, rfl⟩ (w.heap.size + 1 + 1) (by simp)))
  refine (CV1.out _ (E1.out.nt 2 rfl)).mono ?_
  rintro e w1 ⟨rfl, hb⟩
  have E2 : Hid (EnvB w [(w.heap.size + 1 + 1, .slice co (len K) cc), (w.heap.size + 1, .slice bo (len M) cb), (w.heap.size, .slice ao (len N) ca)] [(.slice co (len K) cc, digs K), (.slice bo (len M) cb, digs M), (.slice ao (len N) ca, digs N)] _) := Lib.hid ((E1.out.below hb))
  clear E1 E0 hb
  obtain ⟨p1, f1, -, -, -⟩ := E2.out.box 1 rfl
  go_wp2_with fail
  refine (CV2.out _ (E2.out.nt 1 rfl)).mono ?_
  rintro e w2 ⟨rfl, hb⟩
  have E3 : Hid (EnvB w [(w.heap.size + 1 + 1, .slice co (len K) cc), (w.heap.size + 1, .slice bo (len M) cb), (w.heap.size, .slice ao (len N) ca)] [(.slice co (len K) cc, digs K), (.slice bo (len M) cb, digs M), (.slice ao (len N) ca, digs N)] _) := Lib.hid ((E2.out.below hb))
  clear p1 f1 E2 hb
  obtain ⟨p2, f2, -, -, -⟩ := E3.out.box 0 rfl
  go_wp2_with fail
  refine (CM.out _ (E3.out.nt 0 rfl)).mono ?_
  rintro e w3 ⟨rfl, hb⟩
  have E4 : Hid (EnvB w [(w.heap.size + 1 + 1, .slice co (len K) cc), (w.heap.size + 1, .slice bo (len M) cb), (w.heap.size, .slice ao (len N) ca)] [(.slice co (len K) cc, digs K), (.slice bo (len M) cb, digs M), (.slice ao (len N) ca, digs N)] _) := Lib.hid ((E3.out.below hb))
  clear p2 f2 E3 hb
  obtain ⟨p3, f3, -, -, -⟩ := E4.out.box 2 rfl
  obtain ⟨p4, f4, -, -, -⟩ := E4.out.box 0 rfl
  go_wp2_with fail
  refine (CL1.out _ (E4.out.nt 2 rfl) (E4.out.nt 0 rfl)).mono ?_
  rintro e w4 ⟨rfl, hb⟩
  have E5 : Hid (EnvB w [(w.heap.size + 1 + 1, .slice co (len K) cc), (w.heap.size + 1, .slice bo (len M) cb), (w.heap.size, .slice ao (len N) ca)] [(.slice co (len K) cc, digs K), (.slice bo (len M) cb, digs M), (.slice ao (len N) ca, digs N)] _) := Lib.hid ((E4.out.below hb))
  clear p3 f3 p4 f4 E4 hb
  obtain ⟨p5, f5, -, -, -⟩ := E5.out.box 1 rfl
  obtain ⟨p6, f6, -, -, -⟩ := E5.out.box 0 rfl
  go_wp2_with fail
  refine (CL2.out _ (E5.out.nt 1 rfl) (E5.out.nt 0 rfl)).mono ?_
  rintro e w5 ⟨rfl, hb⟩
  have E6 : Hid (EnvB w [(w.heap.size + 1 + 1, .slice co (len K) cc), (w.heap.size + 1, .slice bo (len M) cb), (w.heap.size, .slice ao (len N) ca)] [(.slice co (len K) cc, digs K), (.slice bo (len M) cb, digs M), (.slice ao (len N) ca, digs N)] _) := Lib.hid ((E5.out.below hb))
  clear p5 f5 p6 f6 E5 hb
  have hfin := Lib.hid E6.out.1
  go_wp2
  go_ret
  exact ⟨rfl, hfin.out⟩
set_option maxRecDepth 100000 in
set_option maxHeartbeats 1000000 in
theorem given_a1 (ao : Option Addr) (ca : Nat) (bo : Option Addr) (cb : Nat) (co : Option Addr) (cc : Nat) (la lb lc : List Nat)  (w : World) (ha : Sl w (.slice ao la.length ca) la) (hb : Sl w (.slice bo lb.length cb) lb) (hc : Sl w (.slice co lc.length cc) lc) (hv : vld la = false) :
    Calls Try.prog 65 #[.agg #[.slice ao la.length ca], .agg #[.slice bo lb.length cb], .agg #[.slice co lc.length cc]] w fun e w' => e = .returned (.int .i64 1) ∧ Below w.heap.size w w' := by
  have CV1 := Lib.hid (fun W ha => @validF (.slice ao la.length ca) W la false hv ha)
  clear hv
  have E0 : Hid (EnvB w [] [(.slice co lc.length cc, lc), (.slice bo lb.length cb, lb), (.slice ao la.length ca, la)] w) := Lib.hid ((((EnvB.start w).num ha).num hb).num hc)
  clear ha hb hc
  generalize la.length = na at *
  generalize lb.length = nb at *
  generalize lc.length = nc at *
  go_enter Try.func65, Try.ntmps65
  go_wp2_with fail
  have E1 : Hid (EnvB w [(w.heap.size + 1 + 1, .slice co nc cc), (w.heap.size + 1, .slice bo nb cb), (w.heap.size, .slice ao na ca)] [(.slice co nc cc, lc), (.slice bo nb cb, lb), (.slice ao na ca, la)] _) := Lib.hid ((((E0.out.push (.slice ao na ca) 24 ⟨_, _, _, rfl⟩ (w.heap.size) (by simp)).push (.slice bo nb cb) 24 ⟨_, _, _, rfl⟩ (w.heap.size + 1) (by simp)).push (.slice co nc cc) 24 ⟨_, _, _, rfl⟩ (w.heap.size + 1 + 1) (by simp)))
  refine (CV1.out _ (E1.out.sl 2 rfl)).mono ?_
  rintro e w1 ⟨rfl, hb⟩
  have E2 : Hid (EnvB w [(w.heap.size + 1 + 1, .slice co nc cc), (w.heap.size + 1, .slice bo nb cb), (w.heap.size, .slice ao na ca)] [(.slice co nc cc, lc), (.slice bo nb cb, lb), (.slice ao na ca, la)] _) := Lib.hid ((E1.out.below hb))
  clear E1 E0 hb
  have hfin := Lib.hid E2.out.1
  go_wp2
  go_ret
  exact ⟨rfl, hfin.out⟩
set_option maxRecDepth 100000 in
set_option maxHeartbeats 1000000 in
theorem given_a2 (ao : Option Addr) (ca : Nat) (bo : Option Addr) (cb : Nat) (co : Option Addr) (cc : Nat) (la lb lc : List Nat)  (w : World) (ha : Sl w (.slice ao la.length ca) la) (hb : Sl w (.slice bo lb.length cb) lb) (hc : Sl w (.slice co lc.length cc) lc) (h1 : vld la = true) (hv : vld lb = false) :
    Calls Try.prog 65 #[.agg #[.slice ao la.length ca], .agg #[.slice bo lb.length cb], .agg #[.slice co lc.length cc]] w fun e w' => e = .returned (.int .i64 1) ∧ Below w.heap.size w w' := by
  have CV1 := Lib.hid (fun W ha => @validF (.slice ao la.length ca) W la true h1 ha)
  have CV2 := Lib.hid (fun W ha => @validF (.slice bo lb.length cb) W lb false hv ha)
  clear hv h1
  have E0 : Hid (EnvB w [] [(.slice co lc.length cc, lc), (.slice bo lb.length cb, lb), (.slice ao la.length ca, la)] w) := Lib.hid ((((EnvB.start w).num ha).num hb).num hc)
  clear ha hb hc
  generalize la.length = na at *
  generalize lb.length = nb at *
  generalize lc.length = nc at *
  go_enter Try.func65, Try.ntmps65
  go_wp2_with fail
  have E1 : Hid (EnvB w [(w.heap.size + 1 + 1, .slice co nc cc), (w.heap.size + 1, .slice bo nb cb), (w.heap.size, .slice ao na ca)] [(.slice co nc cc, lc), (.slice bo nb cb, lb), (.slice ao na ca, la)] _) := Lib.hid ((((E0.out.push (.slice ao na ca) 24 ⟨_, _, _, rfl⟩ (w.heap.size) (by simp)).push (.slice bo nb cb) 24 ⟨_, _, _, rfl⟩ (w.heap.size + 1) (by simp)).push (.slice co nc cc) 24 ⟨_, _, _, rfl⟩ (w.heap.size + 1 + 1) (by simp)))
  refine (CV1.out _ (E1.out.sl 2 rfl)).mono ?_
  rintro e w1 ⟨rfl, hb⟩
  have E2 : Hid (EnvB w [(w.heap.size + 1 + 1, .slice co nc cc), (w.heap.size + 1, .slice bo nb cb), (w.heap.size, .slice ao na ca)] [(.slice co nc cc, lc), (.slice bo nb cb, lb), (.slice ao na ca, la)] _) := Lib.hid ((E1.out.below hb))
  clear E1 E0 hb
  obtain ⟨p1, f1, -, -, -⟩ := E2.out.box 1 rfl
  go_wp2_with fail
  refine (CV2.out _ (E2.out.sl 1 rfl)).mono ?_
  rintro e w2 ⟨rfl, hb⟩
  have E3 : Hid (EnvB w [(w.heap.size + 1 + 1, .slice co nc cc), (w.heap.size + 1, .slice bo nb cb), (w.heap.size, .slice ao na ca)] [(.slice co nc cc, lc), (.slice bo nb cb, lb), (.slice ao na ca, la)] _) := Lib.hid ((E2.out.below hb))
  clear p1 f1 E2 hb
  have hfin := Lib.hid E3.out.1
  go_wp2
  go_ret
  exact ⟨rfl, hfin.out⟩
set_option maxRecDepth 100000 in
set_option maxHeartbeats 1000000 in
theorem given_a3 (ao : Option Addr) (ca : Nat) (bo : Option Addr) (cb : Nat) (co : Option Addr) (cc : Nat) (la lb lc : List Nat)  (w : World) (ha : Sl w (.slice ao la.length ca) la) (hb : Sl w (.slice bo lb.length cb) lb) (hc : Sl w (.slice co lc.length cc) lc) (h1 : vld la = true) (h2 : vld lb = true) (hv : mdl lc = false) :
    Calls Try.prog 65 #[.agg #[.slice ao la.length ca], .agg #[.slice bo lb.length cb], .agg #[.slice co lc.length cc]] w fun e w' => e = .returned (.int .i64 1) ∧ Below w.heap.size w w' := by
  have CV1 := Lib.hid (fun W ha => @validF (.slice ao la.length ca) W la true h1 ha)
  have CV2 := Lib.hid (fun W ha => @validF (.slice bo lb.length cb) W lb true h2 ha)
  have CM := Lib.hid (fun W ha => @modulus_c (.slice co lc.length cc) lc false W hv ha)
  clear hv h1 h2
  have E0 : Hid (EnvB w [] [(.slice co lc.length cc, lc), (.slice bo lb.length cb, lb), (.slice ao la.length ca, la)] w) := Lib.hid ((((EnvB.start w).num ha).num hb).num hc)
  clear ha hb hc
  generalize la.length = na at *
  generalize lb.length = nb at *
  generalize lc.length = nc at *
  go_enter Try.func65, Try.ntmps65
  go_wp2_with fail
  have E1 : Hid (EnvB w [(w.heap.size + 1 + 1, .slice co nc cc), (w.heap.size + 1, .slice bo nb cb), (w.heap.size, .slice ao na ca)] [(.slice co nc cc, lc), (.slice bo nb cb, lb), (.slice ao na ca, la)] _) := Lib.hid ((((E0.out.push (.slice ao na ca) 24 ⟨_, _, _, rfl⟩ (w.heap.size) (by simp)).push (.slice bo nb cb) 24 ⟨_, _, _, rfl⟩ (w.heap.size + 1) (by simp)).push (.slice co nc cc) 24 ⟨_, _, _, rfl⟩ (w.heap.size + 1 + 1) (by simp)))
  refine (CV1.out _ (E1.out.sl 2 rfl)).mono ?_
  rintro e w1 ⟨rfl, hb⟩
  have E2 : Hid (EnvB w [(w.heap.size + 1 + 1, .slice co nc cc), (w.heap.size + 1, .slice bo nb cb), (w.heap.size, .slice ao na ca)] [(.slice co nc cc, lc), (.slice bo nb cb, lb), (.slice ao na ca, la)] _) := Lib.hid ((E1.out.below hb))
  clear E1 E0 hb
  obtain ⟨p1, f1, -, -, -⟩ := E2.out.box 1 rfl
  go_wp2_with fail
  refine (CV2.out _ (E2.out.sl 1 rfl)).mono ?_
  rintro e w2 ⟨rfl, hb⟩
  have E3 : Hid (EnvB w [(w.heap.size + 1 + 1, .slice co nc cc), (w.heap.size + 1, .slice bo nb cb), (w.heap.size, .slice ao na ca)] [(.slice co nc cc, lc), (.slice bo nb cb, lb), (.slice ao na ca, la)] _) := Lib.hid ((E2.out.below hb))
  clear p1 f1 E2 hb
  obtain ⟨p2, f2, -, -, -⟩ := E3.out.box 0 rfl
  go_wp2_with fail
  refine (CM.out _ (E3.out.sl 0 rfl)).mono ?_
  rintro e w3 ⟨rfl, hb⟩
  have E4 : Hid (EnvB w [(w.heap.size + 1 + 1, .slice co nc cc), (w.heap.size + 1, .slice bo nb cb), (w.heap.size, .slice ao na ca)] [(.slice co nc cc, lc), (.slice bo nb cb, lb), (.slice ao na ca, la)] _) := Lib.hid ((E3.out.below hb))
  clear p2 f2 E3 hb
  have hfin := Lib.hid E4.out.1
  go_wp2
  go_ret
  exact ⟨rfl, hfin.out⟩
section
variable {a b c : Value} {N M K r : Nat} {la lb lc : List Nat} {w : World}
theorem given_ok (hn : N < K) (hm : M < K) (hk : len K ≤ 32) (ha : Nt w a N) (hb : Nt w b M) (hc : Nt w c K) :
    Calls Try.prog 65 #[.agg #[a], .agg #[b], .agg #[c]] w fun e w' => e = .returned (.int .i64 0) ∧ Below w.heap.size w w' := by
  obtain ⟨ao, ca, rfl, _⟩ := ha.open
  obtain ⟨bo, cb, rfl, _⟩ := hb.open
  obtain ⟨co, cc, rfl, _⟩ := hc.open
  exact given_w ao ca bo cb co cc N M K w ha hb hc hn hm hk
/-- the code of what is given -/
def gvn (la lb lc : List Nat) : Int := if vld la = true ∧ vld lb = true ∧ mdl lc = true then (if val la < val lc ∧ val lb < val lc then 0 else 2) else 1
theorem given_c {g : Int} (hg : gvn la lb lc = g) (ha : Sl w a la) (hb : Sl w b lb) (hc : Sl w c lc) :
    Calls Try.prog 65 #[.agg #[a], .agg #[b], .agg #[c]] w fun e w' => e = .returned (.int .i64 g) ∧ Below w.heap.size w w' := by
  subst hg
  by_cases h : vld la = true ∧ vld lb = true ∧ mdl lc = true
  · obtain ⟨h1, h2, h3⟩ := h
    have hg : gvn la lb lc = if val la < val lc ∧ val lb < val lc then 0 else 2 := if_pos ⟨h1, h2, h3⟩
    obtain ⟨N, rfl, l1, hN⟩ := nt_of ha h1
    obtain ⟨M, rfl, l2, hM⟩ := nt_of hb h2
    have h4 : vld lc = true := by unfold mdl at h3; simp only [Bool.and_eq_true] at h3; exact h3.1
    obtain ⟨K, rfl, l3, hK⟩ := nt_of hc h4
    rw [val_digs, val_digs, val_digs] at hg
    obtain ⟨k0, k1⟩ := mdl_digs.1 h3
    rw [hg]
    obtain ⟨ao, ca, rfl, _⟩ := hN.open
    obtain ⟨bo, cb, rfl, _⟩ := hM.open
    obtain ⟨co, cc, rfl, _⟩ := hK.open
    by_cases hn : N < K
    · by_cases hm : M < K
      · rw [if_pos ⟨hn, hm⟩]; exact given_w ao ca bo cb co cc N M K w hN hM hK hn hm k1
      · rw [if_neg (fun h => hm h.2)]; exact given_r2 ao ca bo cb co cc N M K w hN hM hK l1 l2 k0 k1 hn hm
    · rw [if_neg (fun h => hn h.1)]; exact given_r1 ao ca bo cb co cc N M K w hN hM hK l1 l2 k0 k1 hn
  · have hg : gvn la lb lc = 1 := if_neg h
    rw [hg]
    obtain ⟨ao, ca, rfl, _⟩ := ha.open
    obtain ⟨bo, cb, rfl, _⟩ := hb.open
    obtain ⟨co, cc, rfl, _⟩ := hc.open
    cases h1 : vld la
    · exact given_a1 ao ca bo cb co cc la lb lc w ha hb hc h1
    · cases h2 : vld lb
      · exact given_a2 ao ca bo cb co cc la lb lc w ha hb hc h1 h2
      · cases h3 : mdl lc
        · exact given_a3 ao ca bo cb co cc la lb lc w ha hb hc h1 h2 h3
        · exact absurd ⟨h1, h2, h3⟩ h
end

set_option maxRecDepth 100000 in
set_option maxHeartbeats 1000000 in
theorem operate_bad (ao : Option Addr) (ca : Nat) (bo : Option Addr) (cb : Nat) (co : Option Addr) (cc : Nat) (la lb lc : List Nat) (fv : Value) (g : Int) (w : World) (ha : Sl w (.slice ao la.length ca) la) (hb : Sl w (.slice bo lb.length cb) lb) (hc : Sl w (.slice co lc.length cc) lc) (hg : gvn la lb lc = g) (h0 : g ≠ 0) :
    Calls Try.prog 61 #[.agg #[.slice ao la.length ca], .agg #[.slice bo lb.length cb], .agg #[.slice co lc.length cc], fv] w fun e w' => ResN 0 g e w' ∧ Below w.heap.size w w' := by
  have CG := Lib.hid (fun W ha hb hc => @given_c (.slice ao la.length ca) (.slice bo lb.length cb) (.slice co lc.length cc) la lb lc W g hg ha hb hc)
  have ht : (g != 0) = true := by simp; exact h0
  clear hg h0
  have E0 : Hid (EnvB w [] [(.slice co lc.length cc, lc), (.slice bo lb.length cb, lb), (.slice ao la.length ca, la)] w) := Lib.hid ((((EnvB.start w).num ha).num hb).num hc)
  clear ha hb hc
  generalize la.length = na at *
  generalize lb.length = nb at *
  generalize lc.length = nc at *
  go_enter Try.func61, Try.ntmps61
  go_wp2_with fail
  have E1 : Hid (EnvB w [(w.heap.size + 1 + 1 + 1, .slice none 0 0), (w.heap.size + 1 + 1, .slice co nc cc), (w.heap.size + 1, .slice bo nb cb), (w.heap.size, .slice ao na ca)] [(.slice co nc cc, lc), (.slice bo nb cb, lb), (.slice ao na ca, la)] _) := Lib.hid (((((E0.out.push (.slice ao na ca) 24 ⟨_, _, _, rfl⟩ (w.heap.size) (by simp)).push (.slice bo nb cb) 24 ⟨_, _, _, rfl⟩ (w.heap.size + 1) (by simp)).push (.slice co nc cc) 24 ⟨_, _, _, rfl⟩ (w.heap.size + 1 + 1) (by simp)).push (.slice none 0 0) 24 ⟨_, _, _, rfl⟩ (w.heap.size + 1 + 1 + 1) (by simp)))
  refine (CG.out _ (E1.out.sl 2 rfl) (E1.out.sl 1 rfl) (E1.out.sl 0 rfl)).mono ?_
  rintro e w1 ⟨rfl, hb⟩
  have E2 : Hid (EnvB w [(w.heap.size + 1 + 1 + 1, .slice none 0 0), (w.heap.size + 1 + 1, .slice co nc cc), (w.heap.size + 1, .slice bo nb cb), (w.heap.size, .slice ao na ca)] [(.slice co nc cc, lc), (.slice bo nb cb, lb), (.slice ao na ca, la)] _) := Lib.hid ((E1.out.below hb))
  clear E1 E0 hb
  obtain ⟨p1, f1, -, -, -⟩ := E2.out.box 0 rfl
  have E3 : Hid (EnvB w [(w.heap.size + 1 + 1 + 1, .slice none 0 0), (w.heap.size + 1 + 1, .slice co nc cc), (w.heap.size + 1, .slice bo nb cb), (w.heap.size, .slice ao na ca)] [(.slice co nc cc, lc), (.slice bo nb cb, lb), (.slice ao na ca, la)] _) := Lib.hid ((E2.out.set 0 (.slice none 0 0) rfl ⟨_, _, _, rfl⟩))
  have hfin := Lib.hid E3.out
  obtain ⟨rc, -, -, -, -⟩ := E3.out.box 0 rfl
  go_wp2
  exact bodyPost_ret (v := .tuple #[.agg #[.slice none 0 0], .int .i64 g]) (by simp [results, Try.results61, go_sem, rc]) rfl ⟨ResN.zero _ _, hfin.out.1⟩
set_option maxRecDepth 100000 in
set_option maxHeartbeats 1000000 in
theorem operate_add (ao : Option Addr) (ca : Nat) (bo : Option Addr) (cb : Nat) (co : Option Addr) (cc : Nat) (N M K : Nat) (r : Nat) (w : World) (ha : Nt w (.slice ao (len N) ca) N) (hb : Nt w (.slice bo (len M) cb) M) (hc : Nt w (.slice co (len K) cc) K) (hr : (N + M) % K = r) (hn : N < K) (hm : M < K) (hk : len K ≤ 32) :
    Calls Try.prog 61 #[.agg #[.slice ao (len N) ca], .agg #[.slice bo (len M) cb], .agg #[.slice co (len K) cc], .func (.func 62) #[] #[]] w fun e w' => ResN r 0 e w' ∧ Below w.heap.size w w' := by
  have CG := Lib.hid (fun W ha hb hc => @given_ok (.slice ao (len N) ca) (.slice bo (len M) cb) (.slice co (len K) cc) N M K W hn hm hk ha hb hc)
  have CO := Lib.hid (fun W ha hb hc => @add_c (.slice ao (len N) ca) (.slice bo (len M) cb) (.slice co (len K) cc) N M K r W hr hn hm hk ha hb hc)
  clear hr hn hm hk
  have E0 : Hid (EnvB w [] [(.slice co (len K) cc, digs K), (.slice bo (len M) cb, digs M), (.slice ao (len N) ca, digs N)] w) := Lib.hid ((((EnvB.start w).numN ha).numN hb).numN hc)
  clear ha hb hc
  go_enter Try.func61, Try.ntmps61
  go_wp2_with fail
  have E1 : Hid (EnvB w [(w.heap.size + 1 + 1 + 1, .slice none 0 0), (w.heap.size + 1 + 1, .slice co (len K) cc), (w.heap.size + 1, .slice bo (len M) cb), (w.heap.size, .slice ao (len N) ca)] [(.slice co (len K) cc, digs K), (.slice bo (len M) cb, digs M), (.slice ao (len N) ca, digs N)] _) := Lib.hid (((((E0.out.push (.slice ao (len N) ca) 24 ⟨_, _, _, rfl⟩ (w.heap.size) (by simp)).push (.slice bo (len M) cb) 24 ⟨_, _, _, rfl⟩ (w.heap.size + 1) (by simp)).push (.slice co (len K) cc) 24 ⟨_, _, _, rfl⟩ (w.heap.size + 1 + 1) (by simp)).push (.slice none 0 0) 24 ⟨_, _, _, rfl⟩ (w.heap.size + 1 + 1 + 1) (by simp)))
  refine (CG.out _ (E1.out.nt 2 rfl) (E1.out.nt 1 rfl) (E1.out.nt 0 rfl)).mono ?_
  rintro e w1 ⟨rfl, hb⟩
  have E2 : Hid (EnvB w [(w.heap.size + 1 + 1 + 1, .slice none 0 0), (w.heap.size + 1 + 1, .slice co (len K) cc), (w.heap.size + 1, .slice bo (len M) cb), (w.heap.size, .slice ao (len N) ca)] [(.slice co (len K) cc, digs K), (.slice bo (len M) cb, digs M), (.slice ao (len N) ca, digs N)] _) := Lib.hid ((E1.out.below hb))
  clear E1 E0 hb
  obtain ⟨p1, f1, -, -, -⟩ := E2.out.box 3 rfl
  obtain ⟨p2, f2, -, -, -⟩ := E2.out.box 2 rfl
  obtain ⟨p3, f3, -, -, -⟩ := E2.out.box 1 rfl
  go_wp2_with fail
  refine (CO.out _ (E2.out.nt 2 rfl) (E2.out.nt 1 rfl) (E2.out.nt 0 rfl)).mono ?_
  rintro e w2 ⟨⟨ra, rk, rfl, hr⟩, hb⟩
  have E3 : Hid (EnvB w [(w.heap.size + 1 + 1 + 1, .slice none 0 0), (w.heap.size + 1 + 1, .slice co (len K) cc), (w.heap.size + 1, .slice bo (len M) cb), (w.heap.size, .slice ao (len N) ca)] [(.slice ra (len r) rk, digs r), (.slice co (len K) cc, digs K), (.slice bo (len M) cb, digs M), (.slice ao (len N) ca, digs N)] _) := Lib.hid (((E2.out.below hb).numN (hr.out : Nt _ _ r)))
  clear p1 f1 p2 f2 p3 f3 E2 hb hr
  obtain ⟨p4, f4, -, -, -⟩ := E3.out.box 0 rfl
  have E4 : Hid (EnvB w [(w.heap.size + 1 + 1 + 1, .slice ra (len r) rk), (w.heap.size + 1 + 1, .slice co (len K) cc), (w.heap.size + 1, .slice bo (len M) cb), (w.heap.size, .slice ao (len N) ca)] [(.slice ra (len r) rk, digs r), (.slice co (len K) cc, digs K), (.slice bo (len M) cb, digs M), (.slice ao (len N) ca, digs N)] _) := Lib.hid ((E3.out.set 0 (.slice ra (len r) rk) rfl ⟨_, _, _, rfl⟩))
  have hfin := Lib.hid E4.out
  obtain ⟨rc, -, -, -, -⟩ := E4.out.box 0 rfl
  go_wp2
  exact bodyPost_ret (v := .tuple #[.agg #[.slice ra (len r) rk], .int .i64 0]) (by simp [results, Try.results61, go_sem, rc]) rfl ⟨⟨_, _, rfl, Lib.hid (hfin.out.nt 0 rfl)⟩, hfin.out.1⟩
set_option maxRecDepth 100000 in
set_option maxHeartbeats 1000000 in
theorem Add_w (ao : Option Addr) (ca : Nat) (bo : Option Addr) (cb : Nat) (co : Option Addr) (cc : Nat) (N M K : Nat) (r : Nat) (w : World) (ha : Nt w (.slice ao (len N) ca) N) (hb : Nt w (.slice bo (len M) cb) M) (hc : Nt w (.slice co (len K) cc) K) (hr : (N + M) % K = r) (hn : N < K) (hm : M < K) (hk : len K ≤ 32) :
    Calls Try.prog 23 #[.agg #[.slice ao (len N) ca], .agg #[.slice bo (len M) cb], .agg #[.slice co (len K) cc]] w fun e w' => ResN r 0 e w' ∧ Below w.heap.size w w' := by
  have CO := Lib.hid (fun W ha hb hc => operate_add ao ca bo cb co cc N M K r W ha hb hc hr hn hm hk)
  clear hr hn hm hk
  have E0 : Hid (EnvB w [] [(.slice co (len K) cc, digs K), (.slice bo (len M) cb, digs M), (.slice ao (len N) ca, digs N)] w) := Lib.hid ((((EnvB.start w).numN ha).numN hb).numN hc)
  clear ha hb hc
  go_enter Try.func23, Try.ntmps23
  go_wp2_with fail
  have E1 : Hid (EnvB w [(w.heap.size + 1 + 1 + 1, .slice none 0 0), (w.heap.size + 1 + 1, .slice co (len K) cc), (w.heap.size + 1, .slice bo (len M) cb), (w.heap.size, .slice ao (len N) ca)] [(.slice co (len K) cc, digs K), (.slice bo (len M) cb, digs M), (.slice ao (len N) ca, digs N)] _) := Lib.hid (((((E0.out.push (.slice ao (len N) ca) 24 ⟨_, _, _, rfl⟩ (w.heap.size) (by simp)).push (.slice bo (len M) cb) 24 ⟨_, _, _, rfl⟩ (w.heap.size + 1) (by simp)).push (.slice co (len K) cc) 24 ⟨_, _, _, rfl⟩ (w.heap.size + 1 + 1) (by simp)).push (.slice none 0 0) 24 ⟨_, _, _, rfl⟩ (w.heap.size + 1 + 1 + 1) (by simp)))
  refine (CO.out _ (E1.out.nt 2 rfl) (E1.out.nt 1 rfl) (E1.out.nt 0 rfl)).mono ?_
  rintro e w1 ⟨⟨ra, rk, rfl, hr⟩, hb⟩
  have E2 : Hid (EnvB w [(w.heap.size + 1 + 1 + 1, .slice none 0 0), (w.heap.size + 1 + 1, .slice co (len K) cc), (w.heap.size + 1, .slice bo (len M) cb), (w.heap.size, .slice ao (len N) ca)] [(.slice ra (len r) rk, digs r), (.slice co (len K) cc, digs K), (.slice bo (len M) cb, digs M), (.slice ao (len N) ca, digs N)] _) := Lib.hid (((E1.out.below hb).numN (hr.out : Nt _ _ r)))
  clear E1 E0 hb hr
  obtain ⟨p1, f1, -, -, -⟩ := E2.out.box 0 rfl
  have E3 : Hid (EnvB w [(w.heap.size + 1 + 1 + 1, .slice ra (len r) rk), (w.heap.size + 1 + 1, .slice co (len K) cc), (w.heap.size + 1, .slice bo (len M) cb), (w.heap.size, .slice ao (len N) ca)] [(.slice ra (len r) rk, digs r), (.slice co (len K) cc, digs K), (.slice bo (len M) cb, digs M), (.slice ao (len N) ca, digs N)] _) := Lib.hid ((E2.out.set 0 (.slice ra (len r) rk) rfl ⟨_, _, _, rfl⟩))
  have hfin := Lib.hid E3.out
  obtain ⟨rc, -, -, -, -⟩ := E3.out.box 0 rfl
  go_wp2
  exact bodyPost_ret (v := .tuple #[.agg #[.slice ra (len r) rk], .int .i64 0]) (by simp [results, Try.results23, go_sem, rc]) rfl ⟨⟨_, _, rfl, Lib.hid (hfin.out.nt 0 rfl)⟩, hfin.out.1⟩
set_option maxRecDepth 100000 in
set_option maxHeartbeats 1000000 in
theorem AddM_bad (ao : Option Addr) (ca : Nat) (bo : Option Addr) (cb : Nat) (co : Option Addr) (cc : Nat) (la lb lc : List Nat) (g : Int) (w : World) (ha : Sl w (.slice ao la.length ca) la) (hb : Sl w (.slice bo lb.length cb) lb) (hc : Sl w (.slice co lc.length cc) lc) (hg : gvn la lb lc = g) (h0 : g ≠ 0) :
    Calls Try.prog 23 #[.agg #[.slice ao la.length ca], .agg #[.slice bo lb.length cb], .agg #[.slice co lc.length cc]] w fun e w' => ResN 0 g e w' ∧ Below w.heap.size w w' := by
  have CO := Lib.hid (fun (fv : Value) W ha hb hc => operate_bad ao ca bo cb co cc la lb lc fv g W ha hb hc hg h0)
  clear hg h0
  have E0 : Hid (EnvB w [] [(.slice co lc.length cc, lc), (.slice bo lb.length cb, lb), (.slice ao la.length ca, la)] w) := Lib.hid ((((EnvB.start w).num ha).num hb).num hc)
  clear ha hb hc
  generalize la.length = na at *
  generalize lb.length = nb at *
  generalize lc.length = nc at *
  go_enter Try.func23, Try.ntmps23
  go_wp2_with fail
  have E1 : Hid (EnvB w [(w.heap.size + 1 + 1 + 1, .slice none 0 0), (w.heap.size + 1 + 1, .slice co nc cc), (w.heap.size + 1, .slice bo nb cb), (w.heap.size, .slice ao na ca)] [(.slice co nc cc, lc), (.slice bo nb cb, lb), (.slice ao na ca, la)] _) := Lib.hid (((((E0.out.push (.slice ao na ca) 24 ⟨_, _, _, rfl⟩ (w.heap.size) (by simp)).push (.slice bo nb cb) 24 ⟨_, _, _, rfl⟩ (w.heap.size + 1) (by simp)).push (.slice co nc cc) 24 ⟨_, _, _, rfl⟩ (w.heap.size + 1 + 1) (by simp)).push (.slice none 0 0) 24 ⟨_, _, _, rfl⟩ (w.heap.size + 1 + 1 + 1) (by simp)))
  refine (CO.out _ _ (E1.out.sl 2 rfl) (E1.out.sl 1 rfl) (E1.out.sl 0 rfl)).mono ?_
  rintro e w1 ⟨⟨za, zk, rfl, hz⟩, hb⟩
  have E2 : Hid (EnvB w [(w.heap.size + 1 + 1 + 1, .slice none 0 0), (w.heap.size + 1 + 1, .slice co nc cc), (w.heap.size + 1, .slice bo nb cb), (w.heap.size, .slice ao na ca)] [(.slice za (len 0) zk, digs 0), (.slice co nc cc, lc), (.slice bo nb cb, lb), (.slice ao na ca, la)] _) := Lib.hid (((E1.out.below hb).numN (hz.out : Nt _ _ 0)))
  clear E1 E0 hb hz
  obtain ⟨p1, f1, -, -, -⟩ := E2.out.box 0 rfl
  have E3 : Hid (EnvB w [(w.heap.size + 1 + 1 + 1, .slice za (len 0) zk), (w.heap.size + 1 + 1, .slice co nc cc), (w.heap.size + 1, .slice bo nb cb), (w.heap.size, .slice ao na ca)] [(.slice za (len 0) zk, digs 0), (.slice co nc cc, lc), (.slice bo nb cb, lb), (.slice ao na ca, la)] _) := Lib.hid ((E2.out.set 0 (.slice za (len 0) zk) rfl ⟨_, _, _, rfl⟩))
  have hfin := Lib.hid E3.out
  obtain ⟨rc, -, -, -, -⟩ := E3.out.box 0 rfl
  go_wp2
  exact bodyPost_ret (v := .tuple #[.agg #[.slice za (len 0) zk], .int .i64 g]) (by simp [results, Try.results23, go_sem, rc]) rfl ⟨⟨_, _, rfl, Lib.hid (hfin.out.nt 0 rfl)⟩, hfin.out.1⟩
theorem Add_m {a b c : Value} {N M K r : Nat} {w : World} (hr : (N + M) % K = r) (hn : N < K) (hm : M < K) (hk : len K ≤ 32) (ha : Nt w a N) (hb : Nt w b M) (hc : Nt w c K) :
    Calls Try.prog 23 #[.agg #[a], .agg #[b], .agg #[c]] w fun e w' => ResN r 0 e w' ∧ Below w.heap.size w w' := by
  obtain ⟨ao, ca, rfl, _⟩ := ha.open
  obtain ⟨bo, cb, rfl, _⟩ := hb.open
  obtain ⟨co, cc, rfl, _⟩ := hc.open
  exact Add_w ao ca bo cb co cc N M K r w ha hb hc hr hn hm hk
theorem Add_e {a b c : Value} {la lb lc : List Nat} {g : Int} {w : World} (hg : gvn la lb lc = g) (h0 : g ≠ 0) (ha : Sl w a la) (hb : Sl w b lb) (hc : Sl w c lc) :
    Calls Try.prog 23 #[.agg #[a], .agg #[b], .agg #[c]] w fun e w' => ResN 0 g e w' ∧ Below w.heap.size w w' := by
  obtain ⟨ao, ca, rfl, _⟩ := ha.open
  obtain ⟨bo, cb, rfl, _⟩ := hb.open
  obtain ⟨co, cc, rfl, _⟩ := hc.open
  exact AddM_bad ao ca bo cb co cc la lb lc g w ha hb hc hg h0

set_option maxRecDepth 100000 in
set_option maxHeartbeats 1000000 in
theorem operate_sub (ao : Option Addr) (ca : Nat) (bo : Option Addr) (cb : Nat) (co : Option Addr) (cc : Nat) (N M K : Nat) (r : Nat) (w : World) (ha : Nt w (.slice ao (len N) ca) N) (hb : Nt w (.slice bo (len M) cb) M) (hc : Nt w (.slice co (len K) cc) K) (hr : subm N M K = r) (hn : N < K) (hm : M < K) (hk : len K ≤ 32) :
    Calls Try.prog 61 #[.agg #[.slice ao (len N) ca], .agg #[.slice bo (len M) cb], .agg #[.slice co (len K) cc], .func (.func 55) #[] #[]] w fun e w' => ResN r 0 e w' ∧ Below w.heap.size w w' := by
  have CG := Lib.hid (fun W ha hb hc => @given_ok (.slice ao (len N) ca) (.slice bo (len M) cb) (.slice co (len K) cc) N M K W hn hm hk ha hb hc)
  have CO := Lib.hid (fun W ha hb hc => @sub_c (.slice ao (len N) ca) (.slice bo (len M) cb) (.slice co (len K) cc) N M K r W hr hn hm hk ha hb hc)
  clear hr hn hm hk
  have E0 : Hid (EnvB w [] [(.slice co (len K) cc, digs K), (.slice bo (len M) cb, digs M), (.slice ao (len N) ca, digs N)] w) := Lib.hid ((((EnvB.start w).numN ha).numN hb).numN hc)
  clear ha hb hc
  go_enter Try.func61, Try.ntmps61
  go_wp2_with fail
  have E1 : Hid (EnvB w [(w.heap.size + 1 + 1 + 1, .slice none 0 0), (w.heap.size + 1 + 1, .slice co (len K) cc), (w.heap.size + 1, .slice bo (len M) cb), (w.heap.size, .slice ao (len N) ca)] [(.slice co (len K) cc, digs K), (.slice bo (len M) cb, digs M), (.slice ao (len N) ca, digs N)] _) := Lib.hid (((((E0.out.push (.slice ao (len N) ca) 24 ⟨_, _, _, rfl⟩ (w.heap.size) (by simp)).push (.slice bo (len M) cb) 24 ⟨_, _, _, rfl⟩ (w.heap.size + 1) (by simp)).push (.slice co (len K) cc) 24 ⟨_, _, _, rfl⟩ (w.heap.size + 1 + 1) (by simp)).push (.slice none 0 0) 24 ⟨_, _, _, rfl⟩ (w.heap.size + 1 + 1 + 1) (by simp)))
  refine (CG.out _ (E1.out.nt 2 rfl) (E1.out.nt 1 rfl) (E1.out.nt 0 rfl)).mono ?_
  rintro e w1 ⟨rfl, hb⟩
  have E2 : Hid (EnvB w [(w.heap.size + 1 + 1 + 1, .slice none 0 0), (w.heap.size + 1 + 1, .slice co (len K) cc), (w.heap.size + 1, .slice bo (len M) cb), (w.heap.size, .slice ao (len N) ca)] [(.slice co (len K) cc, digs K), (.slice bo (len M) cb, digs M), (.slice ao (len N) ca, digs N)] _) := Lib.hid ((E1.out.below hb))
  clear E1 E0 hb
  obtain ⟨p1, f1, -, -, -⟩ := E2.out.box 3 rfl
  obtain ⟨p2, f2, -, -, -⟩ := E2.out.box 2 rfl
  obtain ⟨p3, f3, -, -, -⟩ := E2.out.box 1 rfl
  go_wp2_with fail
  refine (CO.out _ (E2.out.nt 2 rfl) (E2.out.nt 1 rfl) (E2.out.nt 0 rfl)).mono ?_
  rintro e w2 ⟨⟨ra, rk, rfl, hr⟩, hb⟩
  have E3 : Hid (EnvB w [(w.heap.size + 1 + 1 + 1, .slice none 0 0), (w.heap.size + 1 + 1, .slice co (len K) cc), (w.heap.size + 1, .slice bo (len M) cb), (w.heap.size, .slice ao (len N) ca)] [(.slice ra (len r) rk, digs r), (.slice co (len K) cc, digs K), (.slice bo (len M) cb, digs M), (.slice ao (len N) ca, digs N)] _) := Lib.hid (((E2.out.below hb).numN (hr.out : Nt _ _ r)))
  clear p1 f1 p2 f2 p3 f3 E2 hb hr
  obtain ⟨p4, f4, -, -, -⟩ := E3.out.box 0 rfl
  have E4 : Hid (EnvB w [(w.heap.size + 1 + 1 + 1, .slice ra (len r) rk), (w.heap.size + 1 + 1, .slice co (len K) cc), (w.heap.size + 1, .slice bo (len M) cb), (w.heap.size, .slice ao (len N) ca)] [(.slice ra (len r) rk, digs r), (.slice co (len K) cc, digs K), (.slice bo (len M) cb, digs M), (.slice ao (len N) ca, digs N)] _) := Lib.hid ((E3.out.set 0 (.slice ra (len r) rk) rfl ⟨_, _, _, rfl⟩))
  have hfin := Lib.hid E4.out
  obtain ⟨rc, -, -, -, -⟩ := E4.out.box 0 rfl
  go_wp2
  exact bodyPost_ret (v := .tuple #[.agg #[.slice ra (len r) rk], .int .i64 0]) (by simp [results, Try.results61, go_sem, rc]) rfl ⟨⟨_, _, rfl, Lib.hid (hfin.out.nt 0 rfl)⟩, hfin.out.1⟩
set_option maxRecDepth 100000 in
set_option maxHeartbeats 1000000 in
theorem Sub_w (ao : Option Addr) (ca : Nat) (bo : Option Addr) (cb : Nat) (co : Option Addr) (cc : Nat) (N M K : Nat) (r : Nat) (w : World) (ha : Nt w (.slice ao (len N) ca) N) (hb : Nt w (.slice bo (len M) cb) M) (hc : Nt w (.slice co (len K) cc) K) (hr : subm N M K = r) (hn : N < K) (hm : M < K) (hk : len K ≤ 32) :
    Calls Try.prog 24 #[.agg #[.slice ao (len N) ca], .agg #[.slice bo (len M) cb], .agg #[.slice co (len K) cc]] w fun e w' => ResN r 0 e w' ∧ Below w.heap.size w w' := by
  have CO := Lib.hid (fun W ha hb hc => operate_sub ao ca bo cb co cc N M K r W ha hb hc hr hn hm hk)
  clear hr hn hm hk
  have E0 : Hid (EnvB w [] [(.slice co (len K) cc, digs K), (.slice bo (len M) cb, digs M), (.slice ao (len N) ca, digs N)] w) := Lib.hid ((((EnvB.start w).numN ha).numN hb).numN hc)
  clear ha hb hc
  go_enter Try.func24, Try.ntmps24
  go_wp2_with fail
  have E1 : Hid (EnvB w [(w.heap.size + 1 + 1 + 1, .slice none 0 0), (w.heap.size + 1 + 1, .slice co (len K) cc), (w.heap.size + 1, .slice bo (len M) cb), (w.heap.size, .slice ao (len N) ca)] [(.slice co (len K) cc, digs K), (.slice bo (len M) cb, digs M), (.slice ao (len N) ca, digs N)] _) := Lib.hid (((((E0.out.push (.slice ao (len N) ca) 24 ⟨_, _, _, rfl⟩ (w.heap.size) (by simp)).push (.slice bo (len M) cb) 24 ⟨_, _, _, rfl⟩ (w.heap.size + 1) (by simp)).push (.slice co (len K) cc) 24 ⟨_, _, _, rfl⟩ (w.heap.size + 1 + 1) (by simp)).push (.slice none 0 0) 24 ⟨_, _, _, rfl⟩ (w.heap.size + 1 + 1 + 1) (by simp)))
  refine (CO.out _ (E1.out.nt 2 rfl) (E1.out.nt 1 rfl) (E1.out.nt 0 rfl)).mono ?_
  rintro e w1 ⟨⟨ra, rk, rfl, hr⟩, hb⟩
  have E2 : Hid (EnvB w [(w.heap.size + 1 + 1 + 1, .slice none 0 0), (w.heap.size + 1 + 1, .slice co (len K) cc), (w.heap.size + 1, .slice bo (len M) cb), (w.heap.size, .slice ao (len N) ca)] [(.slice ra (len r) rk, digs r), (.slice co (len K) cc, digs K), (.slice bo (len M) cb, digs M), (.slice ao (len N) ca, digs N)] _) := Lib.hid (((E1.out.below hb).numN (hr.out : Nt _ _ r)))
  clear E1 E0 hb hr
  obtain ⟨p1, f1, -, -, -⟩ := E2.out.box 0 rfl
  have E3 : Hid (EnvB w [(w.heap.size + 1 + 1 + 1, .slice ra (len r) rk), (w.heap.size + 1 + 1, .slice co (len K) cc), (w.heap.size + 1, .slice bo (len M) cb), (w.heap.size, .slice ao (len N) ca)] [(.slice ra (len r) rk, digs r), (.slice co (len K) cc, digs K), (.slice bo (len M) cb, digs M), (.slice ao (len N) ca, digs N)] _) := Lib.hid ((E2.out.set 0 (.slice ra (len r) rk) rfl ⟨_, _, _, rfl⟩))
  have hfin := Lib.hid E3.out
  obtain ⟨rc, -, -, -, -⟩ := E3.out.box 0 rfl
  go_wp2
  exact bodyPost_ret (v := .tuple #[.agg #[.slice ra (len r) rk], .int .i64 0]) (by simp [results, Try.results24, go_sem, rc]) rfl ⟨⟨_, _, rfl, Lib.hid (hfin.out.nt 0 rfl)⟩, hfin.out.1⟩
set_option maxRecDepth 100000 in
set_option maxHeartbeats 1000000 in
theorem SubM_bad (ao : Option Addr) (ca : Nat) (bo : Option Addr) (cb : Nat) (co : Option Addr) (cc : Nat) (la lb lc : List Nat) (g : Int) (w : World) (ha : Sl w (.slice ao la.length ca) la) (hb : Sl w (.slice bo lb.length cb) lb) (hc : Sl w (.slice co lc.length cc) lc) (hg : gvn la lb lc = g) (h0 : g ≠ 0) :
    Calls Try.prog 24 #[.agg #[.slice ao la.length ca], .agg #[.slice bo lb.length cb], .agg #[.slice co lc.length cc]] w fun e w' => ResN 0 g e w' ∧ Below w.heap.size w w' := by
  have CO := Lib.hid (fun (fv : Value) W ha hb hc => operate_bad ao ca bo cb co cc la lb lc fv g W ha hb hc hg h0)
  clear hg h0
  have E0 : Hid (EnvB w [] [(.slice co lc.length cc, lc), (.slice bo lb.length cb, lb), (.slice ao la.length ca, la)] w) := Lib.hid ((((EnvB.start w).num ha).num hb).num hc)
  clear ha hb hc
  generalize la.length = na at *
  generalize lb.length = nb at *
  generalize lc.length = nc at *
  go_enter Try.func24, Try.ntmps24
  go_wp2_with fail
  have E1 : Hid (EnvB w [(w.heap.size + 1 + 1 + 1, .slice none 0 0), (w.heap.size + 1 + 1, .slice co nc cc), (w.heap.size + 1, .slice bo nb cb), (w.heap.size, .slice ao na ca)] [(.slice co nc cc, lc), (.slice bo nb cb, lb), (.slice ao na ca, la)] _) := Lib.hid (((((E0.out.push (.slice ao na ca) 24 ⟨_, _, _, rfl⟩ (w.heap.size) (by simp)).push (.slice bo nb cb) 24 ⟨_, _, _, rfl⟩ (w.heap.size + 1) (by simp)).push (.slice co nc cc) 24 ⟨_, _, _, rfl⟩ (w.heap.size + 1 + 1) (by simp)).push (.slice none 0 0) 24 ⟨_, _, _, rfl⟩ (w.heap.size + 1 + 1 + 1) (by simp)))
  refine (CO.out _ _ (E1.out.sl 2 rfl) (E1.out.sl 1 rfl) (E1.out.sl 0 rfl)).mono ?_
  rintro e w1 ⟨⟨za, zk, rfl, hz⟩, hb⟩
  have E2 : Hid (EnvB w [(w.heap.size + 1 + 1 + 1, .slice none 0 0), (w.heap.size + 1 + 1, .slice co nc cc), (w.heap.size + 1, .slice bo nb cb), (w.heap.size, .slice ao na ca)] [(.slice za (len 0) zk, digs 0), (.slice co nc cc, lc), (.slice bo nb cb, lb), (.slice ao na ca, la)] _) := Lib.hid (((E1.out.below hb).numN (hz.out : Nt _ _ 0)))
  clear E1 E0 hb hz
  obtain ⟨p1, f1, -, -, -⟩ := E2.out.box 0 rfl
  have E3 : Hid (EnvB w [(w.heap.size + 1 + 1 + 1, .slice za (len 0) zk), (w.heap.size + 1 + 1, .slice co nc cc), (w.heap.size + 1, .slice bo nb cb), (w.heap.size, .slice ao na ca)] [(.slice za (len 0) zk, digs 0), (.slice co nc cc, lc), (.slice bo nb cb, lb), (.slice ao na ca, la)] _) := Lib.hid ((E2.out.set 0 (.slice za (len 0) zk) rfl ⟨_, _, _, rfl⟩))
  have hfin := Lib.hid E3.out
  obtain ⟨rc, -, -, -, -⟩ := E3.out.box 0 rfl
  go_wp2
  exact bodyPost_ret (v := .tuple #[.agg #[.slice za (len 0) zk], .int .i64 g]) (by simp [results, Try.results24, go_sem, rc]) rfl ⟨⟨_, _, rfl, Lib.hid (hfin.out.nt 0 rfl)⟩, hfin.out.1⟩
theorem Sub_m {a b c : Value} {N M K r : Nat} {w : World} (hr : subm N M K = r) (hn : N < K) (hm : M < K) (hk : len K ≤ 32) (ha : Nt w a N) (hb : Nt w b M) (hc : Nt w c K) :
    Calls Try.prog 24 #[.agg #[a], .agg #[b], .agg #[c]] w fun e w' => ResN r 0 e w' ∧ Below w.heap.size w w' := by
  obtain ⟨ao, ca, rfl, _⟩ := ha.open
  obtain ⟨bo, cb, rfl, _⟩ := hb.open
  obtain ⟨co, cc, rfl, _⟩ := hc.open
  exact Sub_w ao ca bo cb co cc N M K r w ha hb hc hr hn hm hk
theorem Sub_e {a b c : Value} {la lb lc : List Nat} {g : Int} {w : World} (hg : gvn la lb lc = g) (h0 : g ≠ 0) (ha : Sl w a la) (hb : Sl w b lb) (hc : Sl w c lc) :
    Calls Try.prog 24 #[.agg #[a], .agg #[b], .agg #[c]] w fun e w' => ResN 0 g e w' ∧ Below w.heap.size w w' := by
  obtain ⟨ao, ca, rfl, _⟩ := ha.open
  obtain ⟨bo, cb, rfl, _⟩ := hb.open
  obtain ⟨co, cc, rfl, _⟩ := hc.open
  exact SubM_bad ao ca bo cb co cc la lb lc g w ha hb hc hg h0

set_option maxRecDepth 100000 in
set_option maxHeartbeats 1000000 in
theorem operate_mul (ao : Option Addr) (ca : Nat) (bo : Option Addr) (cb : Nat) (co : Option Addr) (cc : Nat) (N M K : Nat) (r : Nat) (w : World) (ha : Nt w (.slice ao (len N) ca) N) (hb : Nt w (.slice bo (len M) cb) M) (hc : Nt w (.slice co (len K) cc) K) (hr : N * M % K = r) (hn : N < K) (hm : M < K) (hk : len K ≤ 32) :
    Calls Try.prog 61 #[.agg #[.slice ao (len N) ca], .agg #[.slice bo (len M) cb], .agg #[.slice co (len K) cc], .func (.func 54) #[] #[]] w fun e w' => ResN r 0 e w' ∧ Below w.heap.size w w' := by
  have CG := Lib.hid (fun W ha hb hc => @given_ok (.slice ao (len N) ca) (.slice bo (len M) cb) (.slice co (len K) cc) N M K W hn hm hk ha hb hc)
  have CO := Lib.hid (fun W ha hb hc => @mul_c (.slice ao (len N) ca) (.slice bo (len M) cb) (.slice co (len K) cc) N M K r W hr hn hm hk ha hb hc)
  clear hr hn hm hk
  have E0 : Hid (EnvB w [] [(.slice co (len K) cc, digs K), (.slice bo (len M) cb, digs M), (.slice ao (len N) ca, digs N)] w) := Lib.hid ((((EnvB.start w).numN ha).numN hb).numN hc)
  clear ha hb hc
  go_enter Try.func61, Try.ntmps61
  go_wp2_with fail
  have E1 : Hid (EnvB w [(w.heap.size + 1 + 1 + 1, .slice none 0 0), (w.heap.size + 1 + 1, .slice co (len K) cc), (w.heap.size + 1, .slice bo (len M) cb), (w.heap.size, .slice ao (len N) ca)] [(.slice co (len K) cc, digs K), (.slice bo (len M) cb, digs M), (.slice ao (len N) ca, digs N)] _) := Lib.hid (((((E0.out.push (.slice ao (len N) ca) 24 ⟨_, _, _, rfl⟩ (w.heap.size) (by simp)).push (.slice bo (len M) cb) 24 ⟨_, _, _, rfl⟩ (w.heap.size + 1) (by simp)).push (.slice co (len K) cc) 24 ⟨_, _, _, rfl⟩ (w.heap.size + 1 + 1) (by simp)).push (.slice none 0 0) 24 ⟨_, _, _, rfl⟩ (w.heap.size + 1 + 1 + 1) (by simp)))
  refine (CG.out _ (E1.out.nt 2 rfl) (E1.out.nt 1 rfl) (E1.out.nt 0 rfl)).mono ?_
  rintro e w1 ⟨rfl, hb⟩
  have E2 : Hid (EnvB w [(w.heap.size + 1 + 1 + 1, .slice none 0 0), (w.heap.size + 1 + 1, .slice co (len K) cc), (w.heap.size + 1, .slice bo (len M) cb), (w.heap.size, .slice ao (len N) ca)] [(.slice co (len K) cc, digs K), (.slice bo (len M) cb, digs M), (.slice ao (len N) ca, digs N)] _) := Lib.hid ((E1.out.below hb))
  clear E1 E0 hb
  obtain ⟨p1, f1, -, -, -⟩ := E2.out.box 3 rfl
  obtain ⟨p2, f2, -, -, -⟩ := E2.out.box 2 rfl
  obtain ⟨p3, f3, -, -, -⟩ := E2.out.box 1 rfl
  go_wp2_with fail
  refine (CO.out _ (E2.out.nt 2 rfl) (E2.out.nt 1 rfl) (E2.out.nt 0 rfl)).mono ?_
  rintro e w2 ⟨⟨ra, rk, rfl, hr⟩, hb⟩
  have E3 : Hid (EnvB w [(w.heap.size + 1 + 1 + 1, .slice none 0 0), (w.heap.size + 1 + 1, .slice co (len K) cc), (w.heap.size + 1, .slice bo (len M) cb), (w.heap.size, .slice ao (len N) ca)] [(.slice ra (len r) rk, digs r), (.slice co (len K) cc, digs K), (.slice bo (len M) cb, digs M), (.slice ao (len N) ca, digs N)] _) := Lib.hid (((E2.out.below hb).numN (hr.out : Nt _ _ r)))
  clear p1 f1 p2 f2 p3 f3 E2 hb hr
  obtain ⟨p4, f4, -, -, -⟩ := E3.out.box 0 rfl
  have E4 : Hid (EnvB w [(w.heap.size + 1 + 1 + 1, .slice ra (len r) rk), (w.heap.size + 1 + 1, .slice co (len K) cc), (w.heap.size + 1, .slice bo (len M) cb), (w.heap.size, .slice ao (len N) ca)] [(.slice ra (len r) rk, digs r), (.slice co (len K) cc, digs K), (.slice bo (len M) cb, digs M), (.slice ao (len N) ca, digs N)] _) := Lib.hid ((E3.out.set 0 (.slice ra (len r) rk) rfl ⟨_, _, _, rfl⟩))
  have hfin := Lib.hid E4.out
  obtain ⟨rc, -, -, -, -⟩ := E4.out.box 0 rfl
  go_wp2
  exact bodyPost_ret (v := .tuple #[.agg #[.slice ra (len r) rk], .int .i64 0]) (by simp [results, Try.results61, go_sem, rc]) rfl ⟨⟨_, _, rfl, Lib.hid (hfin.out.nt 0 rfl)⟩, hfin.out.1⟩
set_option maxRecDepth 100000 in
set_option maxHeartbeats 1000000 in
theorem Mul_w (ao : Option Addr) (ca : Nat) (bo : Option Addr) (cb : Nat) (co : Option Addr) (cc : Nat) (N M K : Nat) (r : Nat) (w : World) (ha : Nt w (.slice ao (len N) ca) N) (hb : Nt w (.slice bo (len M) cb) M) (hc : Nt w (.slice co (len K) cc) K) (hr : N * M % K = r) (hn : N < K) (hm : M < K) (hk : len K ≤ 32) :
    Calls Try.prog 28 #[.agg #[.slice ao (len N) ca], .agg #[.slice bo (len M) cb], .agg #[.slice co (len K) cc]] w fun e w' => ResN r 0 e w' ∧ Below w.heap.size w w' := by
  have CO := Lib.hid (fun W ha hb hc => operate_mul ao ca bo cb co cc N M K r W ha hb hc hr hn hm hk)
  clear hr hn hm hk
  have E0 : Hid (EnvB w [] [(.slice co (len K) cc, digs K), (.slice bo (len M) cb, digs M), (.slice ao (len N) ca, digs N)] w) := Lib.hid ((((EnvB.start w).numN ha).numN hb).numN hc)
  clear ha hb hc
  go_enter Try.func28, Try.ntmps28
  go_wp2_with fail
  have E1 : Hid (EnvB w [(w.heap.size + 1 + 1 + 1, .slice none 0 0), (w.heap.size + 1 + 1, .slice co (len K) cc), (w.heap.size + 1, .slice bo (len M) cb), (w.heap.size, .slice ao (len N) ca)] [(.slice co (len K) cc, digs K), (.slice bo (len M) cb, digs M), (.slice ao (len N) ca, digs N)] _) := Lib.hid (((((E0.out.push (.slice ao (len N) ca) 24 ⟨_, _, _, rfl⟩ (w.heap.size) (by simp)).push (.slice bo (len M) cb) 24 ⟨_, _, _, rfl⟩ (w.heap.size + 1) (by simp)).push (.slice co (len K) cc) 24 ⟨_, _, _, rfl⟩ (w.heap.size + 1 + 1) (by simp)).push (.slice none 0 0) 24 ⟨_, _, _, rfl⟩ (w.heap.size + 1 + 1 + 1) (by simp)))
  refine (CO.out _ (E1.out.nt 2 rfl) (E1.out.nt 1 rfl) (E1.out.nt 0 rfl)).mono ?_
  rintro e w1 ⟨⟨ra, rk, rfl, hr⟩, hb⟩
  have E2 : Hid (EnvB w [(w.heap.size + 1 + 1 + 1, .slice none 0 0), (w.heap.size + 1 + 1, .slice co (len K) cc), (w.heap.size + 1, .slice bo (len M) cb), (w.heap.size, .slice ao (len N) ca)] [(.slice ra (len r) rk, digs r), (.slice co (len K) cc, digs K), (.slice bo (len M) cb, digs M), (.slice ao (len N) ca, digs N)] _) := Lib.hid (((E1.out.below hb).numN (hr.out : Nt _ _ r)))
  clear E1 E0 hb hr
  obtain ⟨p1, f1, -, -, -⟩ := E2.out.box 0 rfl
  have E3 : Hid (EnvB w [(w.heap.size + 1 + 1 + 1, .slice ra (len r) rk), (w.heap.size + 1 + 1, .slice co (len K) cc), (w.heap.size + 1, .slice bo (len M) cb), (w.heap.size, .slice ao (len N) ca)] [(.slice ra (len r) rk, digs r), (.slice co (len K) cc, digs K), (.slice bo (len M) cb, digs M), (.slice ao (len N) ca, digs N)] _) := Lib.hid ((E2.out.set 0 (.slice ra (len r) rk) rfl ⟨_, _, _, rfl⟩))
  have hfin := Lib.hid E3.out
  obtain ⟨rc, -, -, -, -⟩ := E3.out.box 0 rfl
  go_wp2
  exact bodyPost_ret (v := .tuple #[.agg #[.slice ra (len r) rk], .int .i64 0]) (by simp [results, Try.results28, go_sem, rc]) rfl ⟨⟨_, _, rfl, Lib.hid (hfin.out.nt 0 rfl)⟩, hfin.out.1⟩
set_option maxRecDepth 100000 in
set_option maxHeartbeats 1000000 in
theorem MulM_bad (ao : Option Addr) (ca : Nat) (bo : Option Addr) (cb : Nat) (co : Option Addr) (cc : Nat) (la lb lc : List Nat) (g : Int) (w : World) (ha : Sl w (.slice ao la.length ca) la) (hb : Sl w (.slice bo lb.length cb) lb) (hc : Sl w (.slice co lc.length cc) lc) (hg : gvn la lb lc = g) (h0 : g ≠ 0) :
    Calls Try.prog 28 #[.agg #[.slice ao la.length ca], .agg #[.slice bo lb.length cb], .agg #[.slice co lc.length cc]] w fun e w' => ResN 0 g e w' ∧ Below w.heap.size w w' := by
  have CO := Lib.hid (fun (fv : Value) W ha hb hc => operate_bad ao ca bo cb co cc la lb lc fv g W ha hb hc hg h0)
  clear hg h0
  have E0 : Hid (EnvB w [] [(.slice co lc.length cc, lc), (.slice bo lb.length cb, lb), (.slice ao la.length ca, la)] w) := Lib.hid ((((EnvB.start w).num ha).num hb).num hc)
  clear ha hb hc
  generalize la.length = na at *
  generalize lb.length = nb at *
  generalize lc.length = nc at *
  go_enter Try.func28, Try.ntmps28
  go_wp2_with fail
  have E1 : Hid (EnvB w [(w.heap.size + 1 + 1 + 1, .slice none 0 0), (w.heap.size + 1 + 1, .slice co nc cc), (w.heap.size + 1, .slice bo nb cb), (w.heap.size, .slice ao na ca)] [(.slice co nc cc, lc), (.slice bo nb cb, lb), (.slice ao na ca, la)] _) := Lib.hid (((((E0.out.push (.slice ao na ca) 24 ⟨_, _, _, rfl⟩ (w.heap.size) (by simp)).push (.slice bo nb cb) 24 ⟨_, _, _, rfl⟩ (w.heap.size + 1) (by simp)).push (.slice co nc cc) 24 ⟨_, _, _, rfl⟩ (w.heap.size + 1 + 1) (by simp)).push (.slice none 0 0) 24 ⟨_, _, _, rfl⟩ (w.heap.size + 1 + 1 + 1) (by simp)))
  refine (CO.out _ _ (E1.out.sl 2 rfl) (E1.out.sl 1 rfl) (E1.out.sl 0 rfl)).mono ?_
  rintro e w1 ⟨⟨za, zk, rfl, hz⟩, hb⟩
  have E2 : Hid (EnvB w [(w.heap.size + 1 + 1 + 1, .slice none 0 0), (w.heap.size + 1 + 1, .slice co nc cc), (w.heap.size + 1, .slice bo nb cb), (w.heap.size, .slice ao na ca)] [(.slice za (len 0) zk, digs 0), (.slice co nc cc, lc), (.slice bo nb cb, lb), (.slice ao na ca, la)] _) := Lib.hid (((E1.out.below hb).numN (hz.out : Nt _ _ 0)))
  clear E1 E0 hb hz
  obtain ⟨p1, f1, -, -, -⟩ := E2.out.box 0 rfl
  have E3 : Hid (EnvB w [(w.heap.size + 1 + 1 + 1, .slice za (len 0) zk), (w.heap.size + 1 + 1, .slice co nc cc), (w.heap.size + 1, .slice bo nb cb), (w.heap.size, .slice ao na ca)] [(.slice za (len 0) zk, digs 0), (.slice co nc cc, lc), (.slice bo nb cb, lb), (.slice ao na ca, la)] _) := Lib.hid ((E2.out.set 0 (.slice za (len 0) zk) rfl ⟨_, _, _, rfl⟩))
  have hfin := Lib.hid E3.out
  obtain ⟨rc, -, -, -, -⟩ := E3.out.box 0 rfl
  go_wp2
  exact bodyPost_ret (v := .tuple #[.agg #[.slice za (len 0) zk], .int .i64 g]) (by simp [results, Try.results28, go_sem, rc]) rfl ⟨⟨_, _, rfl, Lib.hid (hfin.out.nt 0 rfl)⟩, hfin.out.1⟩
theorem Mul_m {a b c : Value} {N M K r : Nat} {w : World} (hr : N * M % K = r) (hn : N < K) (hm : M < K) (hk : len K ≤ 32) (ha : Nt w a N) (hb : Nt w b M) (hc : Nt w c K) :
    Calls Try.prog 28 #[.agg #[a], .agg #[b], .agg #[c]] w fun e w' => ResN r 0 e w' ∧ Below w.heap.size w w' := by
  obtain ⟨ao, ca, rfl, _⟩ := ha.open
  obtain ⟨bo, cb, rfl, _⟩ := hb.open
  obtain ⟨co, cc, rfl, _⟩ := hc.open
  exact Mul_w ao ca bo cb co cc N M K r w ha hb hc hr hn hm hk
theorem Mul_e {a b c : Value} {la lb lc : List Nat} {g : Int} {w : World} (hg : gvn la lb lc = g) (h0 : g ≠ 0) (ha : Sl w a la) (hb : Sl w b lb) (hc : Sl w c lc) :
    Calls Try.prog 28 #[.agg #[a], .agg #[b], .agg #[c]] w fun e w' => ResN 0 g e w' ∧ Below w.heap.size w w' := by
  obtain ⟨ao, ca, rfl, _⟩ := ha.open
  obtain ⟨bo, cb, rfl, _⟩ := hb.open
  obtain ⟨co, cc, rfl, _⟩ := hc.open
  exact MulM_bad ao ca bo cb co cc la lb lc g w ha hb hc hg h0

end Go.Proofs.Ythphmgdmhlimjaa
