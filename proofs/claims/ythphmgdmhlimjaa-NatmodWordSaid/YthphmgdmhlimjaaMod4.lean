/- Package natmod: the errors of Gcd and Pow, Inverse, Crt. -/
import Derived.Test.YthphmgdmhlimjaaMod3
namespace Go.Proofs.Ythphmgdmhlimjaa
open Go.RowKit NatMath
set_option linter.unusedVariables false

set_option maxRecDepth 100000 in
set_option maxHeartbeats 1000000 in
theorem Gcd_b1 (ao : Option Addr) (ca : Nat) (bo : Option Addr) (cb : Nat) (la lb : List Nat)  (w : World) (ha : Sl w (.slice ao la.length ca) la) (hb : Sl w (.slice bo lb.length cb) lb) (hv : vld la = false) :
    Calls Try.prog 29 #[.agg #[.slice ao la.length ca], .agg #[.slice bo lb.length cb]] w fun e w' => ResN 0 1 e w' ∧ Below w.heap.size w w' := by
  have CV1 := Lib.hid (fun W ha => @validF (.slice ao la.length ca) W la false hv ha)
  clear hv
  have E0 : Hid (EnvB w [] [(.slice bo lb.length cb, lb), (.slice ao la.length ca, la)] w) := Lib.hid (((EnvB.start w).num ha).num hb)
  clear ha hb
  generalize la.length = nla at *
  generalize lb.length = nlb at *
  go_enter Try.func29, Try.ntmps29
  go_wp2_with fail
  have E1 : Hid (EnvB w [(w.heap.size + 1 + 1, .slice none 0 0), (w.heap.size + 1, .slice bo nlb cb), (w.heap.size, .slice ao nla ca)] [(.slice bo nlb cb, lb), (.slice ao nla ca, la)] _) := Lib.hid ((((E0.out.push (.slice ao nla ca) 24 ⟨_, _, _, rfl⟩ (w.heap.size) (by simp)).push (.slice bo nlb cb) 24 ⟨_, _, _, rfl⟩ (w.heap.size + 1) (by simp)).push (.slice none 0 0) 24 ⟨_, _, _, rfl⟩ (w.heap.size + 1 + 1) (by simp)))
  refine (CV1.out _ (E1.out.sl 1 rfl)).mono ?_
  rintro e w1 ⟨rfl, hb⟩
  have E2 : Hid (EnvB w [(w.heap.size + 1 + 1, .slice none 0 0), (w.heap.size + 1, .slice bo nlb cb), (w.heap.size, .slice ao nla ca)] [(.slice bo nlb cb, lb), (.slice ao nla ca, la)] _) := Lib.hid ((E1.out.below hb))
  clear E1 E0 hb
  obtain ⟨p1, f1, -, -, -⟩ := E2.out.box 0 rfl
  have E3 : Hid (EnvB w [(w.heap.size + 1 + 1, .slice none 0 0), (w.heap.size + 1, .slice bo nlb cb), (w.heap.size, .slice ao nla ca)] [(.slice bo nlb cb, lb), (.slice ao nla ca, la)] _) := Lib.hid ((E2.out.set 0 (.slice none 0 0) rfl ⟨_, _, _, rfl⟩))
  have hfin := Lib.hid E3.out
  obtain ⟨rc, -, -, -, -⟩ := E3.out.box 0 rfl
  go_wp2
  exact bodyPost_ret (v := .tuple #[.agg #[.slice none 0 0], .int .i64 1]) (by simp [results, Try.results29, go_sem, rc]) rfl ⟨ResN.zero _ _, hfin.out.1⟩
set_option maxRecDepth 100000 in
set_option maxHeartbeats 1000000 in
theorem Gcd_b2 (ao : Option Addr) (ca : Nat) (bo : Option Addr) (cb : Nat) (la lb : List Nat)  (w : World) (ha : Sl w (.slice ao la.length ca) la) (hb : Sl w (.slice bo lb.length cb) lb) (h1 : vld la = true) (hv : vld lb = false) :
    Calls Try.prog 29 #[.agg #[.slice ao la.length ca], .agg #[.slice bo lb.length cb]] w fun e w' => ResN 0 1 e w' ∧ Below w.heap.size w w' := by
  have CV1 := Lib.hid (fun W ha => @validF (.slice ao la.length ca) W la true h1 ha)
  have CV2 := Lib.hid (fun W ha => @validF (.slice bo lb.length cb) W lb false hv ha)
  clear hv h1
  have E0 : Hid (EnvB w [] [(.slice bo lb.length cb, lb), (.slice ao la.length ca, la)] w) := Lib.hid (((EnvB.start w).num ha).num hb)
  clear ha hb
  generalize la.length = nla at *
  generalize lb.length = nlb at *
  go_enter Try.func29, Try.ntmps29
  go_wp2_with fail
  have E1 : Hid (EnvB w [(w.heap.size + 1 + 1, .slice none 0 0), (w.heap.size + 1, .slice bo nlb cb), (w.heap.size, .slice ao nla ca)] [(.slice bo nlb cb, lb), (.slice ao nla ca, la)] _) := Lib.hid ((((E0.out.push (.slice ao nla ca) 24 ⟨_, _, _, rfl⟩ (w.heap.size) (by simp)).push (.slice bo nlb cb) 24 ⟨_, _, _, rfl⟩ (w.heap.size + 1) (by simp)).push (.slice none 0 0) 24 ⟨_, _, _, rfl⟩ (w.heap.size + 1 + 1) (by simp)))
  refine (CV1.out _ (E1.out.sl 1 rfl)).mono ?_
  rintro e w1 ⟨rfl, hb⟩
  have E2 : Hid (EnvB w [(w.heap.size + 1 + 1, .slice none 0 0), (w.heap.size + 1, .slice bo nlb cb), (w.heap.size, .slice ao nla ca)] [(.slice bo nlb cb, lb), (.slice ao nla ca, la)] _) := Lib.hid ((E1.out.below hb))
  clear E1 E0 hb
  obtain ⟨p1, f1, -, -, -⟩ := E2.out.box 1 rfl
  go_wp2_with fail
  refine (CV2.out _ (E2.out.sl 0 rfl)).mono ?_
  rintro e w2 ⟨rfl, hb⟩
  have E3 : Hid (EnvB w [(w.heap.size + 1 + 1, .slice none 0 0), (w.heap.size + 1, .slice bo nlb cb), (w.heap.size, .slice ao nla ca)] [(.slice bo nlb cb, lb), (.slice ao nla ca, la)] _) := Lib.hid ((E2.out.below hb))
  clear p1 f1 E2 hb
  obtain ⟨p2, f2, -, -, -⟩ := E3.out.box 0 rfl
  have E4 : Hid (EnvB w [(w.heap.size + 1 + 1, .slice none 0 0), (w.heap.size + 1, .slice bo nlb cb), (w.heap.size, .slice ao nla ca)] [(.slice bo nlb cb, lb), (.slice ao nla ca, la)] _) := Lib.hid ((E3.out.set 0 (.slice none 0 0) rfl ⟨_, _, _, rfl⟩))
  have hfin := Lib.hid E4.out
  obtain ⟨rc, -, -, -, -⟩ := E4.out.box 0 rfl
  go_wp2
  exact bodyPost_ret (v := .tuple #[.agg #[.slice none 0 0], .int .i64 1]) (by simp [results, Try.results29, go_sem, rc]) rfl ⟨ResN.zero _ _, hfin.out.1⟩
set_option maxRecDepth 100000 in
set_option maxHeartbeats 1000000 in
theorem Pow_b1 (ao : Option Addr) (ca : Nat) (bo : Option Addr) (cb : Nat) (co : Option Addr) (cc : Nat) (la le lm : List Nat)  (w : World) (ha : Sl w (.slice ao la.length ca) la) (hb : Sl w (.slice bo le.length cb) le) (hc : Sl w (.slice co lm.length cc) lm) (hv : vld le = false) :
    Calls Try.prog 36 #[.agg #[.slice ao la.length ca], .agg #[.slice bo le.length cb], .agg #[.slice co lm.length cc]] w fun e w' => ResN 0 1 e w' ∧ Below w.heap.size w w' := by
  have CV := Lib.hid (fun W ha => @validF (.slice bo le.length cb) W le false hv ha)
  clear hv
  have E0 : Hid (EnvB w [] [(.slice co lm.length cc, lm), (.slice bo le.length cb, le), (.slice ao la.length ca, la)] w) := Lib.hid ((((EnvB.start w).num ha).num hb).num hc)
  clear ha hb hc
  generalize la.length = nla at *
  generalize le.length = nle at *
  generalize lm.length = nlm at *
  go_enter Try.func36, Try.ntmps36
  go_wp2_with fail
  have E1 : Hid (EnvB w [(w.heap.size + 1 + 1 + 1, .slice none 0 0), (w.heap.size + 1 + 1, .slice co nlm cc), (w.heap.size + 1, .slice bo nle cb), (w.heap.size, .slice ao nla ca)] [(.slice co nlm cc, lm), (.slice bo nle cb, le), (.slice ao nla ca, la)] _) := Lib.hid (((((E0.out.push (.slice ao nla ca) 24 ⟨_, _, _, rfl⟩ (w.heap.size) (by simp)).push (.slice bo nle cb) 24 ⟨_, _, _, rfl⟩ (w.heap.size + 1) (by simp)).push (.slice co nlm cc) 24 ⟨_, _, _, rfl⟩ (w.heap.size + 1 + 1) (by simp)).push (.slice none 0 0) 24 ⟨_, _, _, rfl⟩ (w.heap.size + 1 + 1 + 1) (by simp)))
  refine (CV.out _ (E1.out.sl 1 rfl)).mono ?_
  rintro e w1 ⟨rfl, hb⟩
  have E2 : Hid (EnvB w [(w.heap.size + 1 + 1 + 1, .slice none 0 0), (w.heap.size + 1 + 1, .slice co nlm cc), (w.heap.size + 1, .slice bo nle cb), (w.heap.size, .slice ao nla ca)] [(.slice co nlm cc, lm), (.slice bo nle cb, le), (.slice ao nla ca, la)] _) := Lib.hid ((E1.out.below hb))
  clear E1 E0 hb
  obtain ⟨p1, f1, -, -, -⟩ := E2.out.box 0 rfl
  have E3 : Hid (EnvB w [(w.heap.size + 1 + 1 + 1, .slice none 0 0), (w.heap.size + 1 + 1, .slice co nlm cc), (w.heap.size + 1, .slice bo nle cb), (w.heap.size, .slice ao nla ca)] [(.slice co nlm cc, lm), (.slice bo nle cb, le), (.slice ao nla ca, la)] _) := Lib.hid ((E2.out.set 0 (.slice none 0 0) rfl ⟨_, _, _, rfl⟩))
  have hfin := Lib.hid E3.out
  obtain ⟨rc, -, -, -, -⟩ := E3.out.box 0 rfl
  go_wp2
  exact bodyPost_ret (v := .tuple #[.agg #[.slice none 0 0], .int .i64 1]) (by simp [results, Try.results36, go_sem, rc]) rfl ⟨ResN.zero _ _, hfin.out.1⟩
set_option maxRecDepth 100000 in
set_option maxHeartbeats 1000000 in
theorem Pow_b2 (ao : Option Addr) (ca : Nat) (bo : Option Addr) (cb : Nat) (co : Option Addr) (cc : Nat) (la le lm : List Nat) (g : Int) (w : World) (ha : Sl w (.slice ao la.length ca) la) (hb : Sl w (.slice bo le.length cb) le) (hc : Sl w (.slice co lm.length cc) lm) (hv : vld le = true) (hg : gvn la la lm = g) (h0 : g ≠ 0) :
    Calls Try.prog 36 #[.agg #[.slice ao la.length ca], .agg #[.slice bo le.length cb], .agg #[.slice co lm.length cc]] w fun e w' => ResN 0 g e w' ∧ Below w.heap.size w w' := by
  have CV := Lib.hid (fun W ha => @validF (.slice bo le.length cb) W le true hv ha)
  have CG := Lib.hid (fun W ha hb hc => @given_c (.slice ao la.length ca) (.slice ao la.length ca) (.slice co lm.length cc) la la lm W g hg ha hb hc)
  have ht : (g != 0) = true := by simp; exact h0
  clear hv hg h0
  have E0 : Hid (EnvB w [] [(.slice co lm.length cc, lm), (.slice bo le.length cb, le), (.slice ao la.length ca, la)] w) := Lib.hid ((((EnvB.start w).num ha).num hb).num hc)
  clear ha hb hc
  generalize la.length = nla at *
  generalize le.length = nle at *
  generalize lm.length = nlm at *
  go_enter Try.func36, Try.ntmps36
  go_wp2_with fail
  have E1 : Hid (EnvB w [(w.heap.size + 1 + 1 + 1, .slice none 0 0), (w.heap.size + 1 + 1, .slice co nlm cc), (w.heap.size + 1, .slice bo nle cb), (w.heap.size, .slice ao nla ca)] [(.slice co nlm cc, lm), (.slice bo nle cb, le), (.slice ao nla ca, la)] _) := Lib.hid (((((E0.out.push (.slice ao nla ca) 24 ⟨_, _, _, rfl⟩ (w.heap.size) (by simp)).push (.slice bo nle cb) 24 ⟨_, _, _, rfl⟩ (w.heap.size + 1) (by simp)).push (.slice co nlm cc) 24 ⟨_, _, _, rfl⟩ (w.heap.size + 1 + 1) (by simp)).push (.slice none 0 0) 24 ⟨_, _, _, rfl⟩ (w.heap.size + 1 + 1 + 1) (by simp)))
  refine (CV.out _ (E1.out.sl 1 rfl)).mono ?_
  rintro e w1 ⟨rfl, hb⟩
  have E2 : Hid (EnvB w [(w.heap.size + 1 + 1 + 1, .slice none 0 0), (w.heap.size + 1 + 1, .slice co nlm cc), (w.heap.size + 1, .slice bo nle cb), (w.heap.size, .slice ao nla ca)] [(.slice co nlm cc, lm), (.slice bo nle cb, le), (.slice ao nla ca, la)] _) := Lib.hid ((E1.out.below hb))
  clear E1 E0 hb
  obtain ⟨p1, f1, -, -, -⟩ := E2.out.box 3 rfl
  obtain ⟨p2, f2, -, -, -⟩ := E2.out.box 1 rfl
  go_wp2_with fail
  refine (CG.out _ (E2.out.sl 2 rfl) (E2.out.sl 2 rfl) (E2.out.sl 0 rfl)).mono ?_
  rintro e w2 ⟨rfl, hb⟩
  have E3 : Hid (EnvB w [(w.heap.size + 1 + 1 + 1, .slice none 0 0), (w.heap.size + 1 + 1, .slice co nlm cc), (w.heap.size + 1, .slice bo nle cb), (w.heap.size, .slice ao nla ca)] [(.slice co nlm cc, lm), (.slice bo nle cb, le), (.slice ao nla ca, la)] _) := Lib.hid ((E2.out.below hb))
  clear p1 f1 p2 f2 E2 hb
  obtain ⟨p3, f3, -, -, -⟩ := E3.out.box 0 rfl
  have E4 : Hid (EnvB w [(w.heap.size + 1 + 1 + 1, .slice none 0 0), (w.heap.size + 1 + 1, .slice co nlm cc), (w.heap.size + 1, .slice bo nle cb), (w.heap.size, .slice ao nla ca)] [(.slice co nlm cc, lm), (.slice bo nle cb, le), (.slice ao nla ca, la)] _) := Lib.hid ((E3.out.set 0 (.slice none 0 0) rfl ⟨_, _, _, rfl⟩))
  have hfin := Lib.hid E4.out
  obtain ⟨rc, -, -, -, -⟩ := E4.out.box 0 rfl
  go_wp2
  exact bodyPost_ret (v := .tuple #[.agg #[.slice none 0 0], .int .i64 g]) (by simp [results, Try.results36, go_sem, rc]) rfl ⟨ResN.zero _ _, hfin.out.1⟩
set_option maxRecDepth 100000 in
set_option maxHeartbeats 1000000 in
theorem Inverse_b (ao : Option Addr) (ca : Nat) (bo : Option Addr) (cb : Nat) (la lm : List Nat) (g : Int) (w : World) (ha : Sl w (.slice ao la.length ca) la) (hb : Sl w (.slice bo lm.length cb) lm) (hg : gvn la la lm = g) (h0 : g ≠ 0) :
    Calls Try.prog 30 #[.agg #[.slice ao la.length ca], .agg #[.slice bo lm.length cb]] w fun e w' => ResN 0 g e w' ∧ Below w.heap.size w w' := by
  have CG := Lib.hid (fun W ha hb hc => @given_c (.slice ao la.length ca) (.slice ao la.length ca) (.slice bo lm.length cb) la la lm W g hg ha hb hc)
  have ht : (g != 0) = true := by simp; exact h0
  clear hg h0
  have E0 : Hid (EnvB w [] [(.slice bo lm.length cb, lm), (.slice ao la.length ca, la)] w) := Lib.hid (((EnvB.start w).num ha).num hb)
  clear ha hb
  generalize la.length = nla at *
  generalize lm.length = nlm at *
  go_enter Try.func30, Try.ntmps30
  go_wp2_with fail
  have E1 : Hid (EnvB w [(w.heap.size + 1 + 1, .slice none 0 0), (w.heap.size + 1, .slice bo nlm cb), (w.heap.size, .slice ao nla ca)] [(.slice bo nlm cb, lm), (.slice ao nla ca, la)] _) := Lib.hid ((((E0.out.push (.slice ao nla ca) 24 ⟨_, _, _, rfl⟩ (w.heap.size) (by simp)).push (.slice bo nlm cb) 24 ⟨_, _, _, rfl⟩ (w.heap.size + 1) (by simp)).push (.slice none 0 0) 24 ⟨_, _, _, rfl⟩ (w.heap.size + 1 + 1) (by simp)))
  refine (CG.out _ (E1.out.sl 1 rfl) (E1.out.sl 1 rfl) (E1.out.sl 0 rfl)).mono ?_
  rintro e w1 ⟨rfl, hb⟩
  have E2 : Hid (EnvB w [(w.heap.size + 1 + 1, .slice none 0 0), (w.heap.size + 1, .slice bo nlm cb), (w.heap.size, .slice ao nla ca)] [(.slice bo nlm cb, lm), (.slice ao nla ca, la)] _) := Lib.hid ((E1.out.below hb))
  clear E1 E0 hb
  obtain ⟨p1, f1, -, -, -⟩ := E2.out.box 0 rfl
  have E3 : Hid (EnvB w [(w.heap.size + 1 + 1, .slice none 0 0), (w.heap.size + 1, .slice bo nlm cb), (w.heap.size, .slice ao nla ca)] [(.slice bo nlm cb, lm), (.slice ao nla ca, la)] _) := Lib.hid ((E2.out.set 0 (.slice none 0 0) rfl ⟨_, _, _, rfl⟩))
  have hfin := Lib.hid E3.out
  obtain ⟨rc, -, -, -, -⟩ := E3.out.box 0 rfl
  go_wp2
  exact bodyPost_ret (v := .tuple #[.agg #[.slice none 0 0], .int .i64 g]) (by simp [results, Try.results30, go_sem, rc]) rfl ⟨ResN.zero _ _, hfin.out.1⟩
set_option maxRecDepth 100000 in
set_option maxHeartbeats 1000000 in
theorem Inverse_t (ao : Option Addr) (ca : Nat) (bo : Option Addr) (cb : Nat) (N K : Nat) (V : Nat) (w : World) (ha : Nt w (.slice ao (len N) ca) N) (hb : Nt w (.slice bo (len K) cb) K) (hV : invV N K = V) (ht : decide (invG N K = 1) = true) (hn : N < K) (hk : len K ≤ 32) :
    Calls Try.prog 30 #[.agg #[.slice ao (len N) ca], .agg #[.slice bo (len K) cb]] w fun e w' => ResN V 0 e w' ∧ Below w.heap.size w w' := by
  have CG := Lib.hid (fun W ha hb hc => @given_ok (.slice ao (len N) ca) (.slice ao (len N) ca) (.slice bo (len K) cb) N N K W hn hn hk ha hb hc)
  have CI := Lib.hid (fun W ha hb => inverse_w ao ca bo cb N K V true W ha hb hV ht hn hk)
  clear hV ht hn hk
  have E0 : Hid (EnvB w [] [(.slice bo (len K) cb, digs K), (.slice ao (len N) ca, digs N)] w) := Lib.hid (((EnvB.start w).numN ha).numN hb)
  clear ha hb
  go_enter Try.func30, Try.ntmps30
  go_wp2_with fail
  have E1 : Hid (EnvB w [(w.heap.size + 1 + 1, .slice none 0 0), (w.heap.size + 1, .slice bo (len K) cb), (w.heap.size, .slice ao (len N) ca)] [(.slice bo (len K) cb, digs K), (.slice ao (len N) ca, digs N)] _) := Lib.hid ((((E0.out.push (.slice ao (len N) ca) 24 ⟨_, _, _, rfl⟩ (w.heap.size) (by simp)).push (.slice bo (len K) cb) 24 ⟨_, _, _, rfl⟩ (w.heap.size + 1) (by simp)).push (.slice none 0 0) 24 ⟨_, _, _, rfl⟩ (w.heap.size + 1 + 1) (by simp)))
  refine (CG.out _ (E1.out.nt 1 rfl) (E1.out.nt 1 rfl) (E1.out.nt 0 rfl)).mono ?_
  rintro e w1 ⟨rfl, hb⟩
  have E2 : Hid (EnvB w [(w.heap.size + 1 + 1, .slice none 0 0), (w.heap.size + 1, .slice bo (len K) cb), (w.heap.size, .slice ao (len N) ca)] [(.slice bo (len K) cb, digs K), (.slice ao (len N) ca, digs N)] _) := Lib.hid ((E1.out.below hb))
  clear E1 E0 hb
  obtain ⟨p1, f1, -, -, -⟩ := E2.out.box 2 rfl
  obtain ⟨p2, f2, -, -, -⟩ := E2.out.box 1 rfl
  go_wp2_with fail
  refine (CI.out _ (E2.out.nt 1 rfl) (E2.out.nt 0 rfl)).mono ?_
  rintro e w2 ⟨⟨va, vk, rfl, hv⟩, hb⟩
  have E3 : Hid (EnvB w [(w.heap.size + 1 + 1, .slice none 0 0), (w.heap.size + 1, .slice bo (len K) cb), (w.heap.size, .slice ao (len N) ca)] [(.slice va (len V) vk, digs V), (.slice bo (len K) cb, digs K), (.slice ao (len N) ca, digs N)] _) := Lib.hid (((E2.out.below hb).numN (hv.out : Nt _ _ V)))
  clear p1 f1 p2 f2 E2 hb hv
  have E4 : Hid (EnvB w [(w2.heap.size, .slice va (len V) vk), (w.heap.size + 1 + 1, .slice none 0 0), (w.heap.size + 1, .slice bo (len K) cb), (w.heap.size, .slice ao (len N) ca)] [(.slice va (len V) vk, digs V), (.slice bo (len K) cb, digs K), (.slice ao (len N) ca, digs N)] _) := Lib.hid ((E3.out.push (.slice va (len V) vk) 24 ⟨_, _, _, rfl⟩ (w2.heap.size) (by simp)))
  obtain ⟨p3, f3, -, -, -⟩ := E4.out.box 1 rfl
  have E5 : Hid (EnvB w [(w2.heap.size, .slice va (len V) vk), (w.heap.size + 1 + 1, .slice va (len V) vk), (w.heap.size + 1, .slice bo (len K) cb), (w.heap.size, .slice ao (len N) ca)] [(.slice va (len V) vk, digs V), (.slice bo (len K) cb, digs K), (.slice ao (len N) ca, digs N)] _) := Lib.hid ((E4.out.set 1 (.slice va (len V) vk) rfl ⟨_, _, _, rfl⟩))
  have hfin := Lib.hid E5.out
  obtain ⟨rc, -, -, -, -⟩ := E5.out.box 1 rfl
  go_wp2
  exact bodyPost_ret (v := .tuple #[.agg #[.slice va (len V) vk], .int .i64 0]) (by simp [results, Try.results30, go_sem, rc]) rfl ⟨⟨_, _, rfl, Lib.hid (hfin.out.nt 0 rfl)⟩, hfin.out.1⟩
set_option maxRecDepth 100000 in
set_option maxHeartbeats 1000000 in
theorem Inverse_f (ao : Option Addr) (ca : Nat) (bo : Option Addr) (cb : Nat) (N K : Nat) (V : Nat) (w : World) (ha : Nt w (.slice ao (len N) ca) N) (hb : Nt w (.slice bo (len K) cb) K) (hV : invV N K = V) (ht : decide (invG N K = 1) = false) (hn : N < K) (hk : len K ≤ 32) :
    Calls Try.prog 30 #[.agg #[.slice ao (len N) ca], .agg #[.slice bo (len K) cb]] w fun e w' => ResN 0 10 e w' ∧ Below w.heap.size w w' := by
  have CG := Lib.hid (fun W ha hb hc => @given_ok (.slice ao (len N) ca) (.slice ao (len N) ca) (.slice bo (len K) cb) N N K W hn hn hk ha hb hc)
  have CI := Lib.hid (fun W ha hb => inverse_w ao ca bo cb N K V false W ha hb hV ht hn hk)
  clear hV ht hn hk
  have E0 : Hid (EnvB w [] [(.slice bo (len K) cb, digs K), (.slice ao (len N) ca, digs N)] w) := Lib.hid (((EnvB.start w).numN ha).numN hb)
  clear ha hb
  go_enter Try.func30, Try.ntmps30
  go_wp2_with fail
  have E1 : Hid (EnvB w [(w.heap.size + 1 + 1, .slice none 0 0), (w.heap.size + 1, .slice bo (len K) cb), (w.heap.size, .slice ao (len N) ca)] [(.slice bo (len K) cb, digs K), (.slice ao (len N) ca, digs N)] _) := Lib.hid ((((E0.out.push (.slice ao (len N) ca) 24 ⟨_, _, _, rfl⟩ (w.heap.size) (by simp)).push (.slice bo (len K) cb) 24 ⟨_, _, _, rfl⟩ (w.heap.size + 1) (by simp)).push (.slice none 0 0) 24 ⟨_, _, _, rfl⟩ (w.heap.size + 1 + 1) (by simp)))
  refine (CG.out _ (E1.out.nt 1 rfl) (E1.out.nt 1 rfl) (E1.out.nt 0 rfl)).mono ?_
  rintro e w1 ⟨rfl, hb⟩
  have E2 : Hid (EnvB w [(w.heap.size + 1 + 1, .slice none 0 0), (w.heap.size + 1, .slice bo (len K) cb), (w.heap.size, .slice ao (len N) ca)] [(.slice bo (len K) cb, digs K), (.slice ao (len N) ca, digs N)] _) := Lib.hid ((E1.out.below hb))
  clear E1 E0 hb
  obtain ⟨p1, f1, -, -, -⟩ := E2.out.box 2 rfl
  obtain ⟨p2, f2, -, -, -⟩ := E2.out.box 1 rfl
  go_wp2_with fail
  refine (CI.out _ (E2.out.nt 1 rfl) (E2.out.nt 0 rfl)).mono ?_
  rintro e w2 ⟨⟨va, vk, rfl, hv⟩, hb⟩
  have E3 : Hid (EnvB w [(w.heap.size + 1 + 1, .slice none 0 0), (w.heap.size + 1, .slice bo (len K) cb), (w.heap.size, .slice ao (len N) ca)] [(.slice va (len V) vk, digs V), (.slice bo (len K) cb, digs K), (.slice ao (len N) ca, digs N)] _) := Lib.hid (((E2.out.below hb).numN (hv.out : Nt _ _ V)))
  clear p1 f1 p2 f2 E2 hb hv
  have E4 : Hid (EnvB w [(w2.heap.size, .slice va (len V) vk), (w.heap.size + 1 + 1, .slice none 0 0), (w.heap.size + 1, .slice bo (len K) cb), (w.heap.size, .slice ao (len N) ca)] [(.slice va (len V) vk, digs V), (.slice bo (len K) cb, digs K), (.slice ao (len N) ca, digs N)] _) := Lib.hid ((E3.out.push (.slice va (len V) vk) 24 ⟨_, _, _, rfl⟩ (w2.heap.size) (by simp)))
  obtain ⟨p3, f3, -, -, -⟩ := E4.out.box 1 rfl
  have E5 : Hid (EnvB w [(w2.heap.size, .slice va (len V) vk), (w.heap.size + 1 + 1, .slice none 0 0), (w.heap.size + 1, .slice bo (len K) cb), (w.heap.size, .slice ao (len N) ca)] [(.slice va (len V) vk, digs V), (.slice bo (len K) cb, digs K), (.slice ao (len N) ca, digs N)] _) := Lib.hid ((E4.out.set 1 (.slice none 0 0) rfl ⟨_, _, _, rfl⟩))
  have hfin := Lib.hid E5.out
  obtain ⟨rc, -, -, -, -⟩ := E5.out.box 1 rfl
  go_wp2
  exact bodyPost_ret (v := .tuple #[.agg #[.slice none 0 0], .int .i64 10]) (by simp [results, Try.results30, go_sem, rc]) rfl ⟨ResN.zero _ _, hfin.out.1⟩
set_option maxRecDepth 100000 in
set_option maxHeartbeats 1000000 in
theorem Crt_b1 (ao : Option Addr) (ca : Nat) (bo : Option Addr) (cb : Nat) (co : Option Addr) (cc : Nat) (dq : Option Addr) (cd : Nat) (la lp lb lq : List Nat)  (w : World) (ha : Sl w (.slice ao la.length ca) la) (hb : Sl w (.slice bo lp.length cb) lp) (hc : Sl w (.slice co lb.length cc) lb) (hd : Sl w (.slice dq lq.length cd) lq) (k0 : vld la = false)  :
    Calls Try.prog 14 #[.agg #[.slice ao la.length ca], .agg #[.slice bo lp.length cb], .agg #[.slice co lb.length cc], .agg #[.slice dq lq.length cd]] w fun e w' => ResN 0 1 e w' ∧ Below w.heap.size w w' := by
  have CV1 := Lib.hid (fun W ha => @validF (.slice ao la.length ca) W la false k0 ha)
  clear k0
  have E0 : Hid (EnvB w [] [(.slice dq lq.length cd, lq), (.slice co lb.length cc, lb), (.slice bo lp.length cb, lp), (.slice ao la.length ca, la)] w) := Lib.hid (((((EnvB.start w).num ha).num hb).num hc).num hd)
  clear ha hb hc hd
  generalize la.length = nla at *
  generalize lp.length = nlp at *
  generalize lb.length = nlb at *
  generalize lq.length = nlq at *
  go_enter Try.func14, Try.ntmps14
  go_wp2_with fail
  have E1 : Hid (EnvB w [(w.heap.size + 1 + 1 + 1 + 1, .slice none 0 0), (w.heap.size + 1 + 1 + 1, .slice dq nlq cd), (w.heap.size + 1 + 1, .slice co nlb cc), (w.heap.size + 1, .slice bo nlp cb), (w.heap.size, .slice ao nla ca)] [(.slice dq nlq cd, lq), (.slice co nlb cc, lb), (.slice bo nlp cb, lp), (.slice ao nla ca, la)] _) := Lib.hid ((((((E0.out.push (.slice ao nla ca) 24 ⟨_, _, _, rfl⟩ (w.heap.size) (by simp)).push (.slice bo nlp cb) 24 ⟨_, _, _, rfl⟩ (w.heap.size + 1) (by simp)).push (.slice co nlb cc) 24 ⟨_, _, _, rfl⟩ (w.heap.size + 1 + 1) (by simp)).push (.slice dq nlq cd) 24 ⟨_, _, _, rfl⟩ (w.heap.size + 1 + 1 + 1) (by simp)).push (.slice none 0 0) 24 ⟨_, _, _, rfl⟩ (w.heap.size + 1 + 1 + 1 + 1) (by simp)))
  refine (CV1.out _ (E1.out.sl 3 rfl)).mono ?_
  rintro e w1 ⟨rfl, hb⟩
  have E2 : Hid (EnvB w [(w.heap.size + 1 + 1 + 1 + 1, .slice none 0 0), (w.heap.size + 1 + 1 + 1, .slice dq nlq cd), (w.heap.size + 1 + 1, .slice co nlb cc), (w.heap.size + 1, .slice bo nlp cb), (w.heap.size, .slice ao nla ca)] [(.slice dq nlq cd, lq), (.slice co nlb cc, lb), (.slice bo nlp cb, lp), (.slice ao nla ca, la)] _) := Lib.hid ((E1.out.below hb))
  clear E1 E0 hb
  obtain ⟨p1, f1, -, -, -⟩ := E2.out.box 0 rfl
  have E3 : Hid (EnvB w [(w.heap.size + 1 + 1 + 1 + 1, .slice none 0 0), (w.heap.size + 1 + 1 + 1, .slice dq nlq cd), (w.heap.size + 1 + 1, .slice co nlb cc), (w.heap.size + 1, .slice bo nlp cb), (w.heap.size, .slice ao nla ca)] [(.slice dq nlq cd, lq), (.slice co nlb cc, lb), (.slice bo nlp cb, lp), (.slice ao nla ca, la)] _) := Lib.hid ((E2.out.set 0 (.slice none 0 0) rfl ⟨_, _, _, rfl⟩))
  have hfin := Lib.hid E3.out
  obtain ⟨rc, -, -, -, -⟩ := E3.out.box 0 rfl
  go_wp2
  exact bodyPost_ret (v := .tuple #[.agg #[.slice none 0 0], .int .i64 1]) (by simp [results, Try.results14, go_sem, rc]) rfl ⟨ResN.zero _ _, hfin.out.1⟩
set_option maxRecDepth 100000 in
set_option maxHeartbeats 1000000 in
theorem Crt_b2 (ao : Option Addr) (ca : Nat) (bo : Option Addr) (cb : Nat) (co : Option Addr) (cc : Nat) (dq : Option Addr) (cd : Nat) (la lp lb lq : List Nat)  (w : World) (ha : Sl w (.slice ao la.length ca) la) (hb : Sl w (.slice bo lp.length cb) lp) (hc : Sl w (.slice co lb.length cc) lb) (hd : Sl w (.slice dq lq.length cd) lq) (k0 : vld la = true) (k1 : vld lb = false)  :
    Calls Try.prog 14 #[.agg #[.slice ao la.length ca], .agg #[.slice bo lp.length cb], .agg #[.slice co lb.length cc], .agg #[.slice dq lq.length cd]] w fun e w' => ResN 0 1 e w' ∧ Below w.heap.size w w' := by
  have CV1 := Lib.hid (fun W ha => @validF (.slice ao la.length ca) W la true k0 ha)
  have CV2 := Lib.hid (fun W ha => @validF (.slice co lb.length cc) W lb false k1 ha)
  clear k0 k1
  have E0 : Hid (EnvB w [] [(.slice dq lq.length cd, lq), (.slice co lb.length cc, lb), (.slice bo lp.length cb, lp), (.slice ao la.length ca, la)] w) := Lib.hid (((((EnvB.start w).num ha).num hb).num hc).num hd)
  clear ha hb hc hd
  generalize la.length = nla at *
  generalize lp.length = nlp at *
  generalize lb.length = nlb at *
  generalize lq.length = nlq at *
  go_enter Try.func14, Try.ntmps14
  go_wp2_with fail
  have E1 : Hid (EnvB w [(w.heap.size + 1 + 1 + 1 + 1, .slice none 0 0), (w.heap.size + 1 + 1 + 1, .slice dq nlq cd), (w.heap.size + 1 + 1, .slice co nlb cc), (w.heap.size + 1, .slice bo nlp cb), (w.heap.size, .slice ao nla ca)] [(.slice dq nlq cd, lq), (.slice co nlb cc, lb), (.slice bo nlp cb, lp), (.slice ao nla ca, la)] _) := Lib.hid ((((((E0.out.push (.slice ao nla ca) 24 ⟨_, _, _, rfl⟩ (w.heap.size) (by simp)).push (.slice bo nlp cb) 24 ⟨_, _, _, rfl⟩ (w.heap.size + 1) (by simp)).push (.slice co nlb cc) 24 ⟨_, _, _, rfl⟩ (w.heap.size + 1 + 1) (by simp)).push (.slice dq nlq cd) 24 ⟨_, _, _, rfl⟩ (w.heap.size + 1 + 1 + 1) (by simp)).push (.slice none 0 0) 24 ⟨_, _, _, rfl⟩ (w.heap.size + 1 + 1 + 1 + 1) (by simp)))
  refine (CV1.out _ (E1.out.sl 3 rfl)).mono ?_
  rintro e w1 ⟨rfl, hb⟩
  have E2 : Hid (EnvB w [(w.heap.size + 1 + 1 + 1 + 1, .slice none 0 0), (w.heap.size + 1 + 1 + 1, .slice dq nlq cd), (w.heap.size + 1 + 1, .slice co nlb cc), (w.heap.size + 1, .slice bo nlp cb), (w.heap.size, .slice ao nla ca)] [(.slice dq nlq cd, lq), (.slice co nlb cc, lb), (.slice bo nlp cb, lp), (.slice ao nla ca, la)] _) := Lib.hid ((E1.out.below hb))
  clear E1 E0 hb
  obtain ⟨p1, f1, -, -, -⟩ := E2.out.box 2 rfl
  go_wp2_with fail
  refine (CV2.out _ (E2.out.sl 1 rfl)).mono ?_
  rintro e w2 ⟨rfl, hb⟩
  have E3 : Hid (EnvB w [(w.heap.size + 1 + 1 + 1 + 1, .slice none 0 0), (w.heap.size + 1 + 1 + 1, .slice dq nlq cd), (w.heap.size + 1 + 1, .slice co nlb cc), (w.heap.size + 1, .slice bo nlp cb), (w.heap.size, .slice ao nla ca)] [(.slice dq nlq cd, lq), (.slice co nlb cc, lb), (.slice bo nlp cb, lp), (.slice ao nla ca, la)] _) := Lib.hid ((E2.out.below hb))
  clear p1 f1 E2 hb
  obtain ⟨p2, f2, -, -, -⟩ := E3.out.box 0 rfl
  have E4 : Hid (EnvB w [(w.heap.size + 1 + 1 + 1 + 1, .slice none 0 0), (w.heap.size + 1 + 1 + 1, .slice dq nlq cd), (w.heap.size + 1 + 1, .slice co nlb cc), (w.heap.size + 1, .slice bo nlp cb), (w.heap.size, .slice ao nla ca)] [(.slice dq nlq cd, lq), (.slice co nlb cc, lb), (.slice bo nlp cb, lp), (.slice ao nla ca, la)] _) := Lib.hid ((E3.out.set 0 (.slice none 0 0) rfl ⟨_, _, _, rfl⟩))
  have hfin := Lib.hid E4.out
  obtain ⟨rc, -, -, -, -⟩ := E4.out.box 0 rfl
  go_wp2
  exact bodyPost_ret (v := .tuple #[.agg #[.slice none 0 0], .int .i64 1]) (by simp [results, Try.results14, go_sem, rc]) rfl ⟨ResN.zero _ _, hfin.out.1⟩
set_option maxRecDepth 100000 in
set_option maxHeartbeats 1000000 in
theorem Crt_b3 (ao : Option Addr) (ca : Nat) (bo : Option Addr) (cb : Nat) (co : Option Addr) (cc : Nat) (dq : Option Addr) (cd : Nat) (la lp lb lq : List Nat)  (w : World) (ha : Sl w (.slice ao la.length ca) la) (hb : Sl w (.slice bo lp.length cb) lp) (hc : Sl w (.slice co lb.length cc) lb) (hd : Sl w (.slice dq lq.length cd) lq) (k0 : vld la = true) (k1 : vld lb = true) (k2 : mdl lp = false)  :
    Calls Try.prog 14 #[.agg #[.slice ao la.length ca], .agg #[.slice bo lp.length cb], .agg #[.slice co lb.length cc], .agg #[.slice dq lq.length cd]] w fun e w' => ResN 0 1 e w' ∧ Below w.heap.size w w' := by
  have CV1 := Lib.hid (fun W ha => @validF (.slice ao la.length ca) W la true k0 ha)
  have CV2 := Lib.hid (fun W ha => @validF (.slice co lb.length cc) W lb true k1 ha)
  have CM1 := Lib.hid (fun W ha => @modulus_c (.slice bo lp.length cb) lp false W k2 ha)
  clear k0 k1 k2
  have E0 : Hid (EnvB w [] [(.slice dq lq.length cd, lq), (.slice co lb.length cc, lb), (.slice bo lp.length cb, lp), (.slice ao la.length ca, la)] w) := Lib.hid (((((EnvB.start w).num ha).num hb).num hc).num hd)
  clear ha hb hc hd
  generalize la.length = nla at *
  generalize lp.length = nlp at *
  generalize lb.length = nlb at *
  generalize lq.length = nlq at *
  go_enter Try.func14, Try.ntmps14
  go_wp2_with fail
  have E1 : Hid (EnvB w [(w.heap.size + 1 + 1 + 1 + 1, .slice none 0 0), (w.heap.size + 1 + 1 + 1, .slice dq nlq cd), (w.heap.size + 1 + 1, .slice co nlb cc), (w.heap.size + 1, .slice bo nlp cb), (w.heap.size, .slice ao nla ca)] [(.slice dq nlq cd, lq), (.slice co nlb cc, lb), (.slice bo nlp cb, lp), (.slice ao nla ca, la)] _) := Lib.hid ((((((E0.out.push (.slice ao nla ca) 24 ⟨_, _, _, rfl⟩ (w.heap.size) (by simp)).push (.slice bo nlp cb) 24 ⟨_, _, _, rfl⟩ (w.heap.size + 1) (by simp)).push (.slice co nlb cc) 24 ⟨_, _, _, rfl⟩ (w.heap.size + 1 + 1) (by simp)).push (.slice dq nlq cd) 24 ⟨_, _, _, rfl⟩ (w.heap.size + 1 + 1 + 1) (by simp)).push (.slice none 0 0) 24 ⟨_, _, _, rfl⟩ (w.heap.size + 1 + 1 + 1 + 1) (by simp)))
  refine (CV1.out _ (E1.out.sl 3 rfl)).mono ?_
  rintro e w1 ⟨rfl, hb⟩
  have E2 : Hid (EnvB w [(w.heap.size + 1 + 1 + 1 + 1, .slice none 0 0), (w.heap.size + 1 + 1 + 1, .slice dq nlq cd), (w.heap.size + 1 + 1, .slice co nlb cc), (w.heap.size + 1, .slice bo nlp cb), (w.heap.size, .slice ao nla ca)] [(.slice dq nlq cd, lq), (.slice co nlb cc, lb), (.slice bo nlp cb, lp), (.slice ao nla ca, la)] _) := Lib.hid ((E1.out.below hb))
  clear E1 E0 hb
  obtain ⟨p1, f1, -, -, -⟩ := E2.out.box 2 rfl
  go_wp2_with fail
  refine (CV2.out _ (E2.out.sl 1 rfl)).mono ?_
  rintro e w2 ⟨rfl, hb⟩
  have E3 : Hid (EnvB w [(w.heap.size + 1 + 1 + 1 + 1, .slice none 0 0), (w.heap.size + 1 + 1 + 1, .slice dq nlq cd), (w.heap.size + 1 + 1, .slice co nlb cc), (w.heap.size + 1, .slice bo nlp cb), (w.heap.size, .slice ao nla ca)] [(.slice dq nlq cd, lq), (.slice co nlb cc, lb), (.slice bo nlp cb, lp), (.slice ao nla ca, la)] _) := Lib.hid ((E2.out.below hb))
  clear p1 f1 E2 hb
  obtain ⟨p2, f2, -, -, -⟩ := E3.out.box 3 rfl
  go_wp2_with fail
  refine (CM1.out _ (E3.out.sl 2 rfl)).mono ?_
  rintro e w3 ⟨rfl, hb⟩
  have E4 : Hid (EnvB w [(w.heap.size + 1 + 1 + 1 + 1, .slice none 0 0), (w.heap.size + 1 + 1 + 1, .slice dq nlq cd), (w.heap.size + 1 + 1, .slice co nlb cc), (w.heap.size + 1, .slice bo nlp cb), (w.heap.size, .slice ao nla ca)] [(.slice dq nlq cd, lq), (.slice co nlb cc, lb), (.slice bo nlp cb, lp), (.slice ao nla ca, la)] _) := Lib.hid ((E3.out.below hb))
  clear p2 f2 E3 hb
  obtain ⟨p3, f3, -, -, -⟩ := E4.out.box 0 rfl
  have E5 : Hid (EnvB w [(w.heap.size + 1 + 1 + 1 + 1, .slice none 0 0), (w.heap.size + 1 + 1 + 1, .slice dq nlq cd), (w.heap.size + 1 + 1, .slice co nlb cc), (w.heap.size + 1, .slice bo nlp cb), (w.heap.size, .slice ao nla ca)] [(.slice dq nlq cd, lq), (.slice co nlb cc, lb), (.slice bo nlp cb, lp), (.slice ao nla ca, la)] _) := Lib.hid ((E4.out.set 0 (.slice none 0 0) rfl ⟨_, _, _, rfl⟩))
  have hfin := Lib.hid E5.out
  obtain ⟨rc, -, -, -, -⟩ := E5.out.box 0 rfl
  go_wp2
  exact bodyPost_ret (v := .tuple #[.agg #[.slice none 0 0], .int .i64 1]) (by simp [results, Try.results14, go_sem, rc]) rfl ⟨ResN.zero _ _, hfin.out.1⟩
set_option maxRecDepth 100000 in
set_option maxHeartbeats 1000000 in
theorem Crt_b4 (ao : Option Addr) (ca : Nat) (bo : Option Addr) (cb : Nat) (co : Option Addr) (cc : Nat) (dq : Option Addr) (cd : Nat) (la lp lb lq : List Nat)  (w : World) (ha : Sl w (.slice ao la.length ca) la) (hb : Sl w (.slice bo lp.length cb) lp) (hc : Sl w (.slice co lb.length cc) lb) (hd : Sl w (.slice dq lq.length cd) lq) (k0 : vld la = true) (k1 : vld lb = true) (k2 : mdl lp = true) (k3 : mdl lq = false)  :
    Calls Try.prog 14 #[.agg #[.slice ao la.length ca], .agg #[.slice bo lp.length cb], .agg #[.slice co lb.length cc], .agg #[.slice dq lq.length cd]] w fun e w' => ResN 0 1 e w' ∧ Below w.heap.size w w' := by
  have CV1 := Lib.hid (fun W ha => @validF (.slice ao la.length ca) W la true k0 ha)
  have CV2 := Lib.hid (fun W ha => @validF (.slice co lb.length cc) W lb true k1 ha)
  have CM1 := Lib.hid (fun W ha => @modulus_c (.slice bo lp.length cb) lp true W k2 ha)
  have CM2 := Lib.hid (fun W ha => @modulus_c (.slice dq lq.length cd) lq false W k3 ha)
  clear k0 k1 k2 k3
  have E0 : Hid (EnvB w [] [(.slice dq lq.length cd, lq), (.slice co lb.length cc, lb), (.slice bo lp.length cb, lp), (.slice ao la.length ca, la)] w) := Lib.hid (((((EnvB.start w).num ha).num hb).num hc).num hd)
  clear ha hb hc hd
  generalize la.length = nla at *
  generalize lp.length = nlp at *
  generalize lb.length = nlb at *
  generalize lq.length = nlq at *
  go_enter Try.func14, Try.ntmps14
  go_wp2_with fail
  have E1 : Hid (EnvB w [(w.heap.size + 1 + 1 + 1 + 1, .slice none 0 0), (w.heap.size + 1 + 1 + 1, .slice dq nlq cd), (w.heap.size + 1 + 1, .slice co nlb cc), (w.heap.size + 1, .slice bo nlp cb), (w.heap.size, .slice ao nla ca)] [(.slice dq nlq cd, lq), (.slice co nlb cc, lb), (.slice bo nlp cb, lp), (.slice ao nla ca, la)] _) := Lib.hid ((((((E0.out.push (.slice ao nla ca) 24 ⟨_, _, _, rfl⟩ (w.heap.size) (by simp)).push (.slice bo nlp cb) 24 ⟨_, _, _, rfl⟩ (w.heap.size + 1) (by simp)).push (.slice co nlb cc) 24 ⟨_, _, _, rfl⟩ (w.heap.size + 1 + 1) (by simp)).push (.slice dq nlq cd) 24 ⟨_, _, _, rfl⟩ (w.heap.size + 1 + 1 + 1) (by simp)).push (.slice none 0 0) 24 ⟨_, _, _, rfl⟩ (w.heap.size + 1 + 1 + 1 + 1) (by simp)))
  refine (CV1.out _ (E1.out.sl 3 rfl)).mono ?_
  rintro e w1 ⟨rfl, hb⟩
  have E2 : Hid (EnvB w [(w.heap.size + 1 + 1 + 1 + 1, .slice none 0 0), (w.heap.size + 1 + 1 + 1, .slice dq nlq cd), (w.heap.size + 1 + 1, .slice co nlb cc), (w.heap.size + 1, .slice bo nlp cb), (w.heap.size, .slice ao nla ca)] [(.slice dq nlq cd, lq), (.slice co nlb cc, lb), (.slice bo nlp cb, lp), (.slice ao nla ca, la)] _) := Lib.hid ((E1.out.below hb))
  clear E1 E0 hb
  obtain ⟨p1, f1, -, -, -⟩ := E2.out.box 2 rfl
  go_wp2_with fail
  refine (CV2.out _ (E2.out.sl 1 rfl)).mono ?_
  rintro e w2 ⟨rfl, hb⟩
  have E3 : Hid (EnvB w [(w.heap.size + 1 + 1 + 1 + 1, .slice none 0 0), (w.heap.size + 1 + 1 + 1, .slice dq nlq cd), (w.heap.size + 1 + 1, .slice co nlb cc), (w.heap.size + 1, .slice bo nlp cb), (w.heap.size, .slice ao nla ca)] [(.slice dq nlq cd, lq), (.slice co nlb cc, lb), (.slice bo nlp cb, lp), (.slice ao nla ca, la)] _) := Lib.hid ((E2.out.below hb))
  clear p1 f1 E2 hb
  obtain ⟨p2, f2, -, -, -⟩ := E3.out.box 3 rfl
  go_wp2_with fail
  refine (CM1.out _ (E3.out.sl 2 rfl)).mono ?_
  rintro e w3 ⟨rfl, hb⟩
  have E4 : Hid (EnvB w [(w.heap.size + 1 + 1 + 1 + 1, .slice none 0 0), (w.heap.size + 1 + 1 + 1, .slice dq nlq cd), (w.heap.size + 1 + 1, .slice co nlb cc), (w.heap.size + 1, .slice bo nlp cb), (w.heap.size, .slice ao nla ca)] [(.slice dq nlq cd, lq), (.slice co nlb cc, lb), (.slice bo nlp cb, lp), (.slice ao nla ca, la)] _) := Lib.hid ((E3.out.below hb))
  clear p2 f2 E3 hb
  obtain ⟨p3, f3, -, -, -⟩ := E4.out.box 1 rfl
  go_wp2_with fail
  refine (CM2.out _ (E4.out.sl 0 rfl)).mono ?_
  rintro e w4 ⟨rfl, hb⟩
  have E5 : Hid (EnvB w [(w.heap.size + 1 + 1 + 1 + 1, .slice none 0 0), (w.heap.size + 1 + 1 + 1, .slice dq nlq cd), (w.heap.size + 1 + 1, .slice co nlb cc), (w.heap.size + 1, .slice bo nlp cb), (w.heap.size, .slice ao nla ca)] [(.slice dq nlq cd, lq), (.slice co nlb cc, lb), (.slice bo nlp cb, lp), (.slice ao nla ca, la)] _) := Lib.hid ((E4.out.below hb))
  clear p3 f3 E4 hb
  obtain ⟨p4, f4, -, -, -⟩ := E5.out.box 0 rfl
  have E6 : Hid (EnvB w [(w.heap.size + 1 + 1 + 1 + 1, .slice none 0 0), (w.heap.size + 1 + 1 + 1, .slice dq nlq cd), (w.heap.size + 1 + 1, .slice co nlb cc), (w.heap.size + 1, .slice bo nlp cb), (w.heap.size, .slice ao nla ca)] [(.slice dq nlq cd, lq), (.slice co nlb cc, lb), (.slice bo nlp cb, lp), (.slice ao nla ca, la)] _) := Lib.hid ((E5.out.set 0 (.slice none 0 0) rfl ⟨_, _, _, rfl⟩))
  have hfin := Lib.hid E6.out
  obtain ⟨rc, -, -, -, -⟩ := E6.out.box 0 rfl
  go_wp2
  exact bodyPost_ret (v := .tuple #[.agg #[.slice none 0 0], .int .i64 1]) (by simp [results, Try.results14, go_sem, rc]) rfl ⟨ResN.zero _ _, hfin.out.1⟩
set_option maxRecDepth 100000 in
set_option maxHeartbeats 1000000 in
theorem Crt_r1 (ao : Option Addr) (ca : Nat) (bo : Option Addr) (cb : Nat) (co : Option Addr) (cc : Nat) (dq : Option Addr) (cd : Nat) (A P B Q : Nat)  (w : World) (ha : Nt w (.slice ao (len A) ca) A) (hb : Nt w (.slice bo (len P) cb) P) (hc : Nt w (.slice co (len B) cc) B) (hd : Nt w (.slice dq (len Q) cd) Q) (h1 : len A ≤ 64) (h2 : len B ≤ 64) (p0 : P ≠ 0) (hp : len P ≤ 32) (q0 : Q ≠ 0) (hq : len Q ≤ 32) (ha1 : ¬ A < P) :
    Calls Try.prog 14 #[.agg #[.slice ao (len A) ca], .agg #[.slice bo (len P) cb], .agg #[.slice co (len B) cc], .agg #[.slice dq (len Q) cd]] w fun e w' => ResN 0 2 e w' ∧ Below w.heap.size w w' := by
  have CV1 := Lib.hid (fun W ha => @validN (.slice ao (len A) ca) A W h1 ha)
  have CV2 := Lib.hid (fun W ha => @validN (.slice co (len B) cc) B W h2 ha)
  have CM1 := Lib.hid (fun W ha => @modulus_c (.slice bo (len P) cb) (digs P) true W (mdl_digs.2 ⟨p0, hp⟩) ha)
  have CM2 := Lib.hid (fun W ha => @modulus_c (.slice dq (len Q) cd) (digs Q) true W (mdl_digs.2 ⟨q0, hq⟩) ha)
  have CL1 := Lib.hid (fun W ha hb => @less_c (.slice ao (len A) ca) (.slice bo (len P) cb) A P false W (decide_eq_false ha1) h1 (by omega) ha hb)
  clear h1 h2 p0 hp q0 hq ha1
  have E0 : Hid (EnvB w [] [(.slice dq (len Q) cd, digs Q), (.slice co (len B) cc, digs B), (.slice bo (len P) cb, digs P), (.slice ao (len A) ca, digs A)] w) := Lib.hid (((((EnvB.start w).numN ha).numN hb).numN hc).numN hd)
  clear ha hb hc hd
  go_enter Try.func14, Try.ntmps14
  go_wp2_with fail
  have E1 : Hid (EnvB w [(w.heap.size + 1 + 1 + 1 + 1, .slice none 0 0), (w.heap.size + 1 + 1 + 1, .slice dq (len Q) cd), (w.heap.size + 1 + 1, .slice co (len B) cc), (w.heap.size + 1, .slice bo (len P) cb), (w.heap.size, .slice ao (len A) ca)] [(.slice dq (len Q) cd, digs Q), (.slice co (len B) cc, digs B), (.slice bo (len P) cb, digs P), (.slice ao (len A) ca, digs A)] _) := Lib.hid ((((((E0.out.push (.slice ao (len A) ca) 24 ⟨_, _, _, rfl⟩ (w.heap.size) (by simp)).push (.slice bo (len P) cb) 24 ⟨_, _, _, rfl⟩ (w.heap.size + 1) (by simp)).push (.slice co (len B) cc) 24 ⟨_, _, _, rfl⟩ (w.heap.size + 1 + 1) (by simp)).push (.slice dq (len Q) cd) 24 ⟨_, _, _, rfl⟩ (w.heap.size + 1 + 1 + 1) (by simp)).push (.slice none 0 0) 24 ⟨_, _, _, rfl⟩ (w.heap.size + 1 + 1 + 1 + 1) (by simp)))
  refine (CV1.out _ (E1.out.nt 3 rfl)).mono ?_
  rintro e w1 ⟨rfl, hb⟩
  have E2 : Hid (EnvB w [(w.heap.size + 1 + 1 + 1 + 1, .slice none 0 0), (w.heap.size + 1 + 1 + 1, .slice dq (len Q) cd), (w.heap.size + 1 + 1, .slice co (len B) cc), (w.heap.size + 1, .slice bo (len P) cb), (w.heap.size, .slice ao (len A) ca)] [(.slice dq (len Q) cd, digs Q), (.slice co (len B) cc, digs B), (.slice bo (len P) cb, digs P), (.slice ao (len A) ca, digs A)] _) := Lib.hid ((E1.out.below hb))
  clear E1 E0 hb
  obtain ⟨p1, f1, -, -, -⟩ := E2.out.box 2 rfl
  go_wp2_with fail
  refine (CV2.out _ (E2.out.nt 1 rfl)).mono ?_
  rintro e w2 ⟨rfl, hb⟩
  have E3 : Hid (EnvB w [(w.heap.size + 1 + 1 + 1 + 1, .slice none 0 0), (w.heap.size + 1 + 1 + 1, .slice dq (len Q) cd), (w.heap.size + 1 + 1, .slice co (len B) cc), (w.heap.size + 1, .slice bo (len P) cb), (w.heap.size, .slice ao (len A) ca)] [(.slice dq (len Q) cd, digs Q), (.slice co (len B) cc, digs B), (.slice bo (len P) cb, digs P), (.slice ao (len A) ca, digs A)] _) := Lib.hid ((E2.out.below hb))
  clear p1 f1 E2 hb
  obtain ⟨p2, f2, -, -, -⟩ := E3.out.box 3 rfl
  go_wp2_with fail
  refine (CM1.out _ (E3.out.nt 2 rfl)).mono ?_
  rintro e w3 ⟨rfl, hb⟩
  have E4 : Hid (EnvB w [(w.heap.size + 1 + 1 + 1 + 1, .slice none 0 0), (w.heap.size + 1 + 1 + 1, .slice dq (len Q) cd), (w.heap.size + 1 + 1, .slice co (len B) cc), (w.heap.size + 1, .slice bo (len P) cb), (w.heap.size, .slice ao (len A) ca)] [(.slice dq (len Q) cd, digs Q), (.slice co (len B) cc, digs B), (.slice bo (len P) cb, digs P), (.slice ao (len A) ca, digs A)] _) := Lib.hid ((E3.out.below hb))
  clear p2 f2 E3 hb
  obtain ⟨p3, f3, -, -, -⟩ := E4.out.box 1 rfl
  go_wp2_with fail
  refine (CM2.out _ (E4.out.nt 0 rfl)).mono ?_
  rintro e w4 ⟨rfl, hb⟩
  have E5 : Hid (EnvB w [(w.heap.size + 1 + 1 + 1 + 1, .slice none 0 0), (w.heap.size + 1 + 1 + 1, .slice dq (len Q) cd), (w.heap.size + 1 + 1, .slice co (len B) cc), (w.heap.size + 1, .slice bo (len P) cb), (w.heap.size, .slice ao (len A) ca)] [(.slice dq (len Q) cd, digs Q), (.slice co (len B) cc, digs B), (.slice bo (len P) cb, digs P), (.slice ao (len A) ca, digs A)] _) := Lib.hid ((E4.out.below hb))
  clear p3 f3 E4 hb
  obtain ⟨p4, f4, -, -, -⟩ := E5.out.box 4 rfl
  obtain ⟨p5, f5, -, -, -⟩ := E5.out.box 3 rfl
  go_wp2_with fail
  refine (CL1.out _ (E5.out.nt 3 rfl) (E5.out.nt 2 rfl)).mono ?_
  rintro e w5 ⟨rfl, hb⟩
  have E6 : Hid (EnvB w [(w.heap.size + 1 + 1 + 1 + 1, .slice none 0 0), (w.heap.size + 1 + 1 + 1, .slice dq (len Q) cd), (w.heap.size + 1 + 1, .slice co (len B) cc), (w.heap.size + 1, .slice bo (len P) cb), (w.heap.size, .slice ao (len A) ca)] [(.slice dq (len Q) cd, digs Q), (.slice co (len B) cc, digs B), (.slice bo (len P) cb, digs P), (.slice ao (len A) ca, digs A)] _) := Lib.hid ((E5.out.below hb))
  clear p4 f4 p5 f5 E5 hb
  obtain ⟨p6, f6, -, -, -⟩ := E6.out.box 0 rfl
  have E7 : Hid (EnvB w [(w.heap.size + 1 + 1 + 1 + 1, .slice none 0 0), (w.heap.size + 1 + 1 + 1, .slice dq (len Q) cd), (w.heap.size + 1 + 1, .slice co (len B) cc), (w.heap.size + 1, .slice bo (len P) cb), (w.heap.size, .slice ao (len A) ca)] [(.slice dq (len Q) cd, digs Q), (.slice co (len B) cc, digs B), (.slice bo (len P) cb, digs P), (.slice ao (len A) ca, digs A)] _) := Lib.hid ((E6.out.set 0 (.slice none 0 0) rfl ⟨_, _, _, rfl⟩))
  have hfin := Lib.hid E7.out
  obtain ⟨rc, -, -, -, -⟩ := E7.out.box 0 rfl
  go_wp2
  exact bodyPost_ret (v := .tuple #[.agg #[.slice none 0 0], .int .i64 2]) (by simp [results, Try.results14, go_sem, rc]) rfl ⟨ResN.zero _ _, hfin.out.1⟩
set_option maxRecDepth 100000 in
set_option maxHeartbeats 1000000 in
theorem Crt_r2 (ao : Option Addr) (ca : Nat) (bo : Option Addr) (cb : Nat) (co : Option Addr) (cc : Nat) (dq : Option Addr) (cd : Nat) (A P B Q : Nat)  (w : World) (ha : Nt w (.slice ao (len A) ca) A) (hb : Nt w (.slice bo (len P) cb) P) (hc : Nt w (.slice co (len B) cc) B) (hd : Nt w (.slice dq (len Q) cd) Q) (h1 : len A ≤ 64) (h2 : len B ≤ 64) (p0 : P ≠ 0) (hp : len P ≤ 32) (q0 : Q ≠ 0) (hq : len Q ≤ 32) (ha1 : A < P) (hb1 : ¬ B < Q) :
    Calls Try.prog 14 #[.agg #[.slice ao (len A) ca], .agg #[.slice bo (len P) cb], .agg #[.slice co (len B) cc], .agg #[.slice dq (len Q) cd]] w fun e w' => ResN 0 2 e w' ∧ Below w.heap.size w w' := by
  have CV1 := Lib.hid (fun W ha => @validN (.slice ao (len A) ca) A W h1 ha)
  have CV2 := Lib.hid (fun W ha => @validN (.slice co (len B) cc) B W h2 ha)
  have CM1 := Lib.hid (fun W ha => @modulus_c (.slice bo (len P) cb) (digs P) true W (mdl_digs.2 ⟨p0, hp⟩) ha)
  have CM2 := Lib.hid (fun W ha => @modulus_c (.slice dq (len Q) cd) (digs Q) true W (mdl_digs.2 ⟨q0, hq⟩) ha)
  have CL1 := Lib.hid (fun W ha hb => @less_c (.slice ao (len A) ca) (.slice bo (len P) cb) A P true W (decide_eq_true ha1) h1 (by omega) ha hb)
  have CL2 := Lib.hid (fun W ha hb => @less_c (.slice co (len B) cc) (.slice dq (len Q) cd) B Q false W (decide_eq_false hb1) h2 (by omega) ha hb)
  clear h1 h2 p0 hp q0 hq ha1 hb1
  have E0 : Hid (EnvB w [] [(.slice dq (len Q) cd, digs Q), (.slice co (len B) cc, digs B), (.slice bo (len P) cb, digs P), (.slice ao (len A) ca, digs A)] w) := Lib.hid (((((EnvB.start w).numN ha).numN hb).numN hc).numN hd)
  clear ha hb hc hd
  go_enter Try.func14, Try.ntmps14
  go_wp2_with fail
  have E1 : Hid (EnvB w [(w.heap.size + 1 + 1 + 1 + 1, .slice none 0 0), (w.heap.size + 1 + 1 + 1, .slice dq (len Q) cd), (w.heap.size + 1 + 1, .slice co (len B) cc), (w.heap.size + 1, .slice bo (len P) cb), (w.heap.size, .slice ao (len A) ca)] [(.slice dq (len Q) cd, digs Q), (.slice co (len B) cc, digs B), (.slice bo (len P) cb, digs P), (.slice ao (len A) ca, digs A)] _) := Lib.hid ((((((E0.out.push (.slice ao (len A) ca) 24 ⟨_, _, _, rfl⟩ (w.heap.size) (by simp)).push (.slice bo (len P) cb) 24 ⟨_, _, _, rfl⟩ (w.heap.size + 1) (by simp)).push (.slice co (len B) cc) 24 ⟨_, _, _, rfl⟩ (w.heap.size + 1 + 1) (by simp)).push (.slice dq (len Q) cd) 24 ⟨_, _, _, rfl⟩ (w.heap.size + 1 + 1 + 1) (by simp)).push (.slice none 0 0) 24 ⟨_, _, _, rfl⟩ (w.heap.size + 1 + 1 + 1 + 1) (by simp)))
  refine (CV1.out _ (E1.out.nt 3 rfl)).mono ?_
  rintro e w1 ⟨rfl, hb⟩
  have E2 : Hid (EnvB w [(w.heap.size + 1 + 1 + 1 + 1, .slice none 0 0), (w.heap.size + 1 + 1 + 1, .slice dq (len Q) cd), (w.heap.size + 1 + 1, .slice co (len B) cc), (w.heap.size + 1, .slice bo (len P) cb), (w.heap.size, .slice ao (len A) ca)] [(.slice dq (len Q) cd, digs Q), (.slice co (len B) cc, digs B), (.slice bo (len P) cb, digs P), (.slice ao (len A) ca, digs A)] _) := Lib.hid ((E1.out.below hb))
  clear E1 E0 hb
  obtain ⟨p1, f1, -, -, -⟩ := E2.out.box 2 rfl
  go_wp2_with fail
  refine (CV2.out _ (E2.out.nt 1 rfl)).mono ?_
  rintro e w2 ⟨rfl, hb⟩
  have E3 : Hid (EnvB w [(w.heap.size + 1 + 1 + 1 + 1, .slice none 0 0), (w.heap.size + 1 + 1 + 1, .slice dq (len Q) cd), (w.heap.size + 1 + 1, .slice co (len B) cc), (w.heap.size + 1, .slice bo (len P) cb), (w.heap.size, .slice ao (len A) ca)] [(.slice dq (len Q) cd, digs Q), (.slice co (len B) cc, digs B), (.slice bo (len P) cb, digs P), (.slice ao (len A) ca, digs A)] _) := Lib.hid ((E2.out.below hb))
  clear p1 f1 E2 hb
  obtain ⟨p2, f2, -, -, -⟩ := E3.out.box 3 rfl
  go_wp2_with fail
  refine (CM1.out _ (E3.out.nt 2 rfl)).mono ?_
  rintro e w3 ⟨rfl, hb⟩
  have E4 : Hid (EnvB w [(w.heap.size + 1 + 1 + 1 + 1, .slice none 0 0), (w.heap.size + 1 + 1 + 1, .slice dq (len Q) cd), (w.heap.size + 1 + 1, .slice co (len B) cc), (w.heap.size + 1, .slice bo (len P) cb), (w.heap.size, .slice ao (len A) ca)] [(.slice dq (len Q) cd, digs Q), (.slice co (len B) cc, digs B), (.slice bo (len P) cb, digs P), (.slice ao (len A) ca, digs A)] _) := Lib.hid ((E3.out.below hb))
  clear p2 f2 E3 hb
  obtain ⟨p3, f3, -, -, -⟩ := E4.out.box 1 rfl
  go_wp2_with fail
  refine (CM2.out _ (E4.out.nt 0 rfl)).mono ?_
  rintro e w4 ⟨rfl, hb⟩
  have E5 : Hid (EnvB w [(w.heap.size + 1 + 1 + 1 + 1, .slice none 0 0), (w.heap.size + 1 + 1 + 1, .slice dq (len Q) cd), (w.heap.size + 1 + 1, .slice co (len B) cc), (w.heap.size + 1, .slice bo (len P) cb), (w.heap.size, .slice ao (len A) ca)] [(.slice dq (len Q) cd, digs Q), (.slice co (len B) cc, digs B), (.slice bo (len P) cb, digs P), (.slice ao (len A) ca, digs A)] _) := Lib.hid ((E4.out.below hb))
  clear p3 f3 E4 hb
  obtain ⟨p4, f4, -, -, -⟩ := E5.out.box 4 rfl
  obtain ⟨p5, f5, -, -, -⟩ := E5.out.box 3 rfl
  go_wp2_with fail
  refine (CL1.out _ (E5.out.nt 3 rfl) (E5.out.nt 2 rfl)).mono ?_
  rintro e w5 ⟨rfl, hb⟩
  have E6 : Hid (EnvB w [(w.heap.size + 1 + 1 + 1 + 1, .slice none 0 0), (w.heap.size + 1 + 1 + 1, .slice dq (len Q) cd), (w.heap.size + 1 + 1, .slice co (len B) cc), (w.heap.size + 1, .slice bo (len P) cb), (w.heap.size, .slice ao (len A) ca)] [(.slice dq (len Q) cd, digs Q), (.slice co (len B) cc, digs B), (.slice bo (len P) cb, digs P), (.slice ao (len A) ca, digs A)] _) := Lib.hid ((E5.out.below hb))
  clear p4 f4 p5 f5 E5 hb
  obtain ⟨p6, f6, -, -, -⟩ := E6.out.box 2 rfl
  obtain ⟨p7, f7, -, -, -⟩ := E6.out.box 1 rfl
  go_wp2_with fail
  refine (CL2.out _ (E6.out.nt 1 rfl) (E6.out.nt 0 rfl)).mono ?_
  rintro e w6 ⟨rfl, hb⟩
  have E7 : Hid (EnvB w [(w.heap.size + 1 + 1 + 1 + 1, .slice none 0 0), (w.heap.size + 1 + 1 + 1, .slice dq (len Q) cd), (w.heap.size + 1 + 1, .slice co (len B) cc), (w.heap.size + 1, .slice bo (len P) cb), (w.heap.size, .slice ao (len A) ca)] [(.slice dq (len Q) cd, digs Q), (.slice co (len B) cc, digs B), (.slice bo (len P) cb, digs P), (.slice ao (len A) ca, digs A)] _) := Lib.hid ((E6.out.below hb))
  clear p6 f6 p7 f7 E6 hb
  obtain ⟨p8, f8, -, -, -⟩ := E7.out.box 0 rfl
  have E8 : Hid (EnvB w [(w.heap.size + 1 + 1 + 1 + 1, .slice none 0 0), (w.heap.size + 1 + 1 + 1, .slice dq (len Q) cd), (w.heap.size + 1 + 1, .slice co (len B) cc), (w.heap.size + 1, .slice bo (len P) cb), (w.heap.size, .slice ao (len A) ca)] [(.slice dq (len Q) cd, digs Q), (.slice co (len B) cc, digs B), (.slice bo (len P) cb, digs P), (.slice ao (len A) ca, digs A)] _) := Lib.hid ((E7.out.set 0 (.slice none 0 0) rfl ⟨_, _, _, rfl⟩))
  have hfin := Lib.hid E8.out
  obtain ⟨rc, -, -, -, -⟩ := E8.out.box 0 rfl
  go_wp2
  exact bodyPost_ret (v := .tuple #[.agg #[.slice none 0 0], .int .i64 2]) (by simp [results, Try.results14, go_sem, rc]) rfl ⟨ResN.zero _ _, hfin.out.1⟩
set_option maxRecDepth 100000 in
set_option maxHeartbeats 1000000 in
theorem Crt_n (ao : Option Addr) (ca : Nat) (bo : Option Addr) (cb : Nat) (co : Option Addr) (cc : Nat) (dq : Option Addr) (cd : Nat) (A P B Q : Nat)  (w : World) (ha : Nt w (.slice ao (len A) ca) A) (hb : Nt w (.slice bo (len P) cb) P) (hc : Nt w (.slice co (len B) cc) B) (hd : Nt w (.slice dq (len Q) cd) Q) (ha1 : A < P) (hb1 : B < Q) (hp : len P ≤ 32) (hq : len Q ≤ 32) (ht : decide (invG (P % Q) Q = 1) = false) :
    Calls Try.prog 14 #[.agg #[.slice ao (len A) ca], .agg #[.slice bo (len P) cb], .agg #[.slice co (len B) cc], .agg #[.slice dq (len Q) cd]] w fun e w' => ResN 0 10 e w' ∧ Below w.heap.size w w' := by
  have h1 : len A ≤ 64 := by have := len_le_of_lt ha1 hp; omega
  have h2 : len B ≤ 64 := by have := len_le_of_lt hb1 hq; omega
  have p0 : P ≠ 0 := by omega
  have q0 : Q ≠ 0 := by omega
  have CV1 := Lib.hid (fun W ha => @validN (.slice ao (len A) ca) A W h1 ha)
  have CV2 := Lib.hid (fun W ha => @validN (.slice co (len B) cc) B W h2 ha)
  have CM1 := Lib.hid (fun W ha => @modulus_c (.slice bo (len P) cb) (digs P) true W (mdl_digs.2 ⟨p0, hp⟩) ha)
  have CM2 := Lib.hid (fun W ha => @modulus_c (.slice dq (len Q) cd) (digs Q) true W (mdl_digs.2 ⟨q0, hq⟩) ha)
  have CL1 := Lib.hid (fun W ha hb => @less_c (.slice ao (len A) ca) (.slice bo (len P) cb) A P true W (decide_eq_true ha1) h1 (by omega) ha hb)
  have CL2 := Lib.hid (fun W ha hb => @less_c (.slice co (len B) cc) (.slice dq (len Q) cd) B Q true W (decide_eq_true hb1) h2 (by omega) ha hb)
  have CR1 := Lib.hid (fun W ha hb => @rest_c (.slice bo (len P) cb) (.slice dq (len Q) cd) P Q (P % Q) W rfl (by omega) (by omega) q0 ha hb)
  have hpq : P % Q < Q := Nat.mod_lt _ (by omega)
  have CI := Lib.hid (fun (uo : Option Addr) (uc : Nat) W ha hb => inverse_w uo uc dq cd (P % Q) Q (invV (P % Q) Q) false W ha hb rfl ht hpq hq)
  clear h1 h2 p0 q0 hp hq ha1 hb1 ht hpq
  generalize invV (P % Q) Q = X at *
  generalize P % Q = R at *
  have E0 : Hid (EnvB w [] [(.slice dq (len Q) cd, digs Q), (.slice co (len B) cc, digs B), (.slice bo (len P) cb, digs P), (.slice ao (len A) ca, digs A)] w) := Lib.hid (((((EnvB.start w).numN ha).numN hb).numN hc).numN hd)
  clear ha hb hc hd
  go_enter Try.func14, Try.ntmps14
  go_wp2_with fail
  have E1 : Hid (EnvB w [(w.heap.size + 1 + 1 + 1 + 1, .slice none 0 0), (w.heap.size + 1 + 1 + 1, .slice dq (len Q) cd), (w.heap.size + 1 + 1, .slice co (len B) cc), (w.heap.size + 1, .slice bo (len P) cb), (w.heap.size, .slice ao (len A) ca)] [(.slice dq (len Q) cd, digs Q), (.slice co (len B) cc, digs B), (.slice bo (len P) cb, digs P), (.slice ao (len A) ca, digs A)] _) := Lib.hid ((((((E0.out.push (.slice ao (len A) ca) 24 ⟨_, _, _, rfl⟩ (w.heap.size) (by simp)).push (.slice bo (len P) cb) 24 ⟨_, _, _, rfl⟩ (w.heap.size + 1) (by simp)).push (.slice co (len B) cc) 24 ⟨_, _, _, rfl⟩ (w.heap.size + 1 + 1) (by simp)).push (.slice dq (len Q) cd) 24 ⟨_, _, _, rfl⟩ (w.heap.size + 1 + 1 + 1) (by simp)).push (.slice none 0 0) 24 ⟨_, _, _, rfl⟩ (w.heap.size + 1 + 1 + 1 + 1) (by simp)))
  refine (CV1.out _ (E1.out.nt 3 rfl)).mono ?_
  rintro e w1 ⟨rfl, hb⟩
  have E2 : Hid (EnvB w [(w.heap.size + 1 + 1 + 1 + 1, .slice none 0 0), (w.heap.size + 1 + 1 + 1, .slice dq (len Q) cd), (w.heap.size + 1 + 1, .slice co (len B) cc), (w.heap.size + 1, .slice bo (len P) cb), (w.heap.size, .slice ao (len A) ca)] [(.slice dq (len Q) cd, digs Q), (.slice co (len B) cc, digs B), (.slice bo (len P) cb, digs P), (.slice ao (len A) ca, digs A)] _) := Lib.hid ((E1.out.below hb))
  clear E1 E0 hb
  obtain ⟨p1, f1, -, -, -⟩ := E2.out.box 2 rfl
  go_wp2_with fail
  refine (CV2.out _ (E2.out.nt 1 rfl)).mono ?_
  rintro e w2 ⟨rfl, hb⟩
  have E3 : Hid (EnvB w [(w.heap.size + 1 + 1 + 1 + 1, .slice none 0 0), (w.heap.size + 1 + 1 + 1, .slice dq (len Q) cd), (w.heap.size + 1 + 1, .slice co (len B) cc), (w.heap.size + 1, .slice bo (len P) cb), (w.heap.size, .slice ao (len A) ca)] [(.slice dq (len Q) cd, digs Q), (.slice co (len B) cc, digs B), (.slice bo (len P) cb, digs P), (.slice ao (len A) ca, digs A)] _) := Lib.hid ((E2.out.below hb))
  clear p1 f1 E2 hb
  obtain ⟨p2, f2, -, -, -⟩ := E3.out.box 3 rfl
  go_wp2_with fail
  refine (CM1.out _ (E3.out.nt 2 rfl)).mono ?_
  rintro e w3 ⟨rfl, hb⟩
  have E4 : Hid (EnvB w [(w.heap.size + 1 + 1 + 1 + 1, .slice none 0 0), (w.heap.size + 1 + 1 + 1, .slice dq (len Q) cd), (w.heap.size + 1 + 1, .slice co (len B) cc), (w.heap.size + 1, .slice bo (len P) cb), (w.heap.size, .slice ao (len A) ca)] [(.slice dq (len Q) cd, digs Q), (.slice co (len B) cc, digs B), (.slice bo (len P) cb, digs P), (.slice ao (len A) ca, digs A)] _) := Lib.hid ((E3.out.below hb))
  clear p2 f2 E3 hb
  obtain ⟨p3, f3, -, -, -⟩ := E4.out.box 1 rfl
  go_wp2_with fail
  refine (CM2.out _ (E4.out.nt 0 rfl)).mono ?_
  rintro e w4 ⟨rfl, hb⟩
  have E5 : Hid (EnvB w [(w.heap.size + 1 + 1 + 1 + 1, .slice none 0 0), (w.heap.size + 1 + 1 + 1, .slice dq (len Q) cd), (w.heap.size + 1 + 1, .slice co (len B) cc), (w.heap.size + 1, .slice bo (len P) cb), (w.heap.size, .slice ao (len A) ca)] [(.slice dq (len Q) cd, digs Q), (.slice co (len B) cc, digs B), (.slice bo (len P) cb, digs P), (.slice ao (len A) ca, digs A)] _) := Lib.hid ((E4.out.below hb))
  clear p3 f3 E4 hb
  obtain ⟨p4, f4, -, -, -⟩ := E5.out.box 4 rfl
  obtain ⟨p5, f5, -, -, -⟩ := E5.out.box 3 rfl
  go_wp2_with fail
  refine (CL1.out _ (E5.out.nt 3 rfl) (E5.out.nt 2 rfl)).mono ?_
  rintro e w5 ⟨rfl, hb⟩
  have E6 : Hid (EnvB w [(w.heap.size + 1 + 1 + 1 + 1, .slice none 0 0), (w.heap.size + 1 + 1 + 1, .slice dq (len Q) cd), (w.heap.size + 1 + 1, .slice co (len B) cc), (w.heap.size + 1, .slice bo (len P) cb), (w.heap.size, .slice ao (len A) ca)] [(.slice dq (len Q) cd, digs Q), (.slice co (len B) cc, digs B), (.slice bo (len P) cb, digs P), (.slice ao (len A) ca, digs A)] _) := Lib.hid ((E5.out.below hb))
  clear p4 f4 p5 f5 E5 hb
  obtain ⟨p6, f6, -, -, -⟩ := E6.out.box 2 rfl
  obtain ⟨p7, f7, -, -, -⟩ := E6.out.box 1 rfl
  go_wp2_with fail
  refine (CL2.out _ (E6.out.nt 1 rfl) (E6.out.nt 0 rfl)).mono ?_
  rintro e w6 ⟨rfl, hb⟩
  have E7 : Hid (EnvB w [(w.heap.size + 1 + 1 + 1 + 1, .slice none 0 0), (w.heap.size + 1 + 1 + 1, .slice dq (len Q) cd), (w.heap.size + 1 + 1, .slice co (len B) cc), (w.heap.size + 1, .slice bo (len P) cb), (w.heap.size, .slice ao (len A) ca)] [(.slice dq (len Q) cd, digs Q), (.slice co (len B) cc, digs B), (.slice bo (len P) cb, digs P), (.slice ao (len A) ca, digs A)] _) := Lib.hid ((E6.out.below hb))
  clear p6 f6 p7 f7 E6 hb
  go_wp2_with fail
  have bx0 := Lib.hid (E7.out.box 3 rfl)
  have bx1 := Lib.hid (E7.out.box 1 rfl)
  refine' wp_region_phaseU (by kernel_rfl) [0, 1, 2, 3, 4, 5, 6, 8] 7 (by kernel_rfl) #[true, true, true, true, true, true, true, false, true, false, false] (by kernel_rfl) 3 (by kernel_rfl) #[true, true, true, true, true, true, true, true, true, false, false] (by kernel_rfl) 2 (by kernel_rfl) [PEq (.agg #[.slice bo (len P) cb]), PEq (.agg #[.slice dq (len Q) cd]), PNum (R), PEq (.agg #[.slice dq (len Q) cd]), PTup (X) (.bool false), PTup (X) (.bool false), PNum (X), PEq (.bool false), PBox w6.heap.size, Fact.none, Fact.none] (List.forall_mem_cons.2 ⟨PEq.st _, List.forall_mem_cons.2 ⟨PEq.st _, List.forall_mem_cons.2 ⟨PNum.st _, List.forall_mem_cons.2 ⟨PEq.st _, List.forall_mem_cons.2 ⟨PTup.st _ _, List.forall_mem_cons.2 ⟨PTup.st _ _, List.forall_mem_cons.2 ⟨PNum.st _, List.forall_mem_cons.2 ⟨PEq.st _, List.forall_mem_cons.2 ⟨PBox.st _, List.forall_mem_cons.2 ⟨Fact.none_st, List.forall_mem_cons.2 ⟨Fact.none_st, List.forall_mem_nil _⟩⟩⟩⟩⟩⟩⟩⟩⟩⟩⟩) _ ?hFr6 ?stepr6 ?later6 ?doner6
  case hFr6 => intro x; simp only [frameL, Act.put, List.setIfInBounds_toArray, List.set_cons_zero, List.set_cons_succ, Nat.zero_add, Nat.reduceAdd]; exact rfl
  case stepr6 =>
    refine List.forall_mem_cons.2 ⟨?_, ?_⟩
    · intro xv bv ev WW hB hdp
      refine op_of rfl ?_
      obtain ⟨xa, xk, ed5, hx⟩ := (show (PTup (X) (.bool false)) (xv 5) (bv 5) (ev 5) WW from hdp 5 (by kernel_rfl))
      clear hdp
      intro KK hKK
      go_simp
      exact act_eq (hKK.out _ _ (Below.refl _ _) rfl) (by first | rfl | simp [upd, ed5])
    refine List.forall_mem_cons.2 ⟨?_, ?_⟩
    · intro xv bv ev WW hB hdp
      refine op_of rfl ?_
      clear hdp
      intro KK hKK
      obtain ⟨z, -, -, -, -⟩ := bx0.out.below hB
      go_simp
      exact act_eq (hKK.out (.agg #[.slice bo (len P) cb]) _ (Below.refl _ _) rfl) (by first | rfl | simp [upd])
    refine List.forall_mem_cons.2 ⟨?_, ?_⟩
    · intro xv bv ev WW hB hdp
      refine op_of rfl ?_
      clear hdp
      intro KK hKK
      obtain ⟨z, -, -, -, -⟩ := bx1.out.below hB
      go_simp
      exact act_eq (hKK.out (.agg #[.slice dq (len Q) cd]) _ (Below.refl _ _) rfl) (by first | rfl | simp [upd])
    refine List.forall_mem_cons.2 ⟨?_, ?_⟩
    · intro xv bv ev WW hB hdp
      refine op_of rfl ?_
      have ed0 : xv 0 = .agg #[.slice bo (len P) cb] := hdp 0 (by kernel_rfl)
      have ed1 : xv 1 = .agg #[.slice dq (len Q) cd] := hdp 1 (by kernel_rfl)
      clear hdp
      intro KK hKK
      go_simp
      refine (CR1.out _ ((E7.out.below hB).nt 2 rfl) ((E7.out.below hB).nt 0 rfl)).mono ?_
      rintro e WW' ⟨⟨ra, rk, rfl, hr⟩, hb⟩
      (try dsimp only)
      (try simp only [Act.put, List.setIfInBounds_toArray, List.set_cons_zero, List.set_cons_succ])
      exact act_eq (hKK.out _ _ hb ⟨_, _, rfl, hr⟩) (by first | rfl | simp [upd, ed0, ed1])
    refine List.forall_mem_cons.2 ⟨?_, ?_⟩
    · intro xv bv ev WW hB hdp
      refine op_of rfl ?_
      clear hdp
      intro KK hKK
      obtain ⟨z, -, -, -, -⟩ := bx1.out.below hB
      go_simp
      exact act_eq (hKK.out (.agg #[.slice dq (len Q) cd]) _ (Below.refl _ _) rfl) (by first | rfl | simp [upd])
    refine List.forall_mem_cons.2 ⟨?_, ?_⟩
    · intro xv bv ev WW hB hdp
      refine op_of rfl ?_
      obtain ⟨ra, rk, ed2, hr⟩ := (show (PNum (R)) (xv 2) (bv 2) (ev 2) WW from hdp 2 (by kernel_rfl))
      have ed3 : xv 3 = .agg #[.slice dq (len Q) cd] := hdp 3 (by kernel_rfl)
      clear hdp
      intro KK hKK
      go_simp
      refine (CI.out _ _ _ hr.out ((E7.out.below hB).nt 0 rfl)).mono ?_
      rintro e WW' ⟨⟨xa, xk, rfl, hx⟩, hb⟩
      (try dsimp only)
      (try simp only [Act.put, List.setIfInBounds_toArray, List.set_cons_zero, List.set_cons_succ])
      exact act_eq (hKK.out _ _ hb ⟨_, _, rfl, hx⟩) (by first | rfl | simp [upd, ed2, ed3])
    refine List.forall_mem_cons.2 ⟨?_, ?_⟩
    · intro xv bv ev WW hB hdp
      refine op_of rfl ?_
      obtain ⟨xa, xk, ed4, hx⟩ := (show (PTup (X) (.bool false)) (xv 4) (bv 4) (ev 4) WW from hdp 4 (by kernel_rfl))
      clear hdp
      intro KK hKK
      go_simp
      exact act_eq (hKK.out _ _ (Below.refl _ _) ⟨_, _, rfl, hx⟩) (by first | rfl | simp [upd, ed4])
    refine List.forall_mem_cons.2 ⟨?_, ?_⟩
    · intro xv bv ev WW hB hdp
      refine op_of rfl ?_
      obtain ⟨xa, xk, ed5, hx⟩ := (show (PTup (X) (.bool false)) (xv 5) (bv 5) (ev 5) WW from hdp 5 (by kernel_rfl))
      clear hdp
      intro KK hKK
      go_simp
      exact act_eq (hKK.out _ _ (Below.refl _ _) ⟨_, _, rfl, hx⟩) (by first | rfl | simp [upd, ed5])
    refine List.forall_mem_cons.2 ⟨?_, ?_⟩
    · intro xv bv ev WW hB hdp
      refine op_of rfl ?_
      clear hdp
      intro KK hKK
      go_simp
      exact act_eq (hKK.out (.pointer (some ⟨WW.heap.size, 0, none⟩)) _ (below_one _ _) (PBox.mk hB rfl _)) (by first | rfl | simp [upd])
    exact List.forall_mem_nil _
  case later6 =>
    intro xv bv ev WW hB hR
    obtain ⟨xa, xk, ed5, hx⟩ := (show (PTup (X) (.bool false)) (xv 5) (bv 5) (ev 5) WW from hR 5 (by kernel_rfl))
    refine ⟨.bool false, rfl, fun hw => ?_⟩
    refine takeP (i := 7) (some 58) (v := .bool false) rfl rfl (by kernel_rfl) (by kernel_rfl) (by kernel_rfl) (fun _ _ _ h => h) (by rfl) ?_ ?_
    · (intro wS; go_simp; try with_reducible rfl)
    rw [show (#[true, true, true, true, true, true, true, false, true, false, false] : Array Bool).setIfInBounds 7 true = #[true, true, true, true, true, true, true, true, true, false, false] from by kernel_rfl]
    exact hw
  intro xv bv ev w7 hB hR hO
  have ed0 : xv 0 = .agg #[.slice bo (len P) cb] := hR 0 (by kernel_rfl)
  have ed1 : xv 1 = .agg #[.slice dq (len Q) cd] := hR 1 (by kernel_rfl)
  obtain ⟨ra, rk, ed2, hr⟩ := (show (PNum (R)) (xv 2) (bv 2) (ev 2) w7 from hR 2 (by kernel_rfl))
  have ed3 : xv 3 = .agg #[.slice dq (len Q) cd] := hR 3 (by kernel_rfl)
  obtain ⟨xa, xk, ed6, hx⟩ := (show (PNum (X)) (xv 6) (bv 6) (ev 6) w7 from hR 6 (by kernel_rfl))
  have ed7 : xv 7 = .bool false := hR 7 (by kernel_rfl)
  obtain ⟨gr6_8, ed8, hg8, hb8, he8, hc8, hf8, hs8⟩ := (show (PBox w6.heap.size) (xv 8) (bv 8) (ev 8) w7 from hR 8 (by kernel_rfl))
  simp only [ed0, ed1, ed2, ed3, ed6, ed7, ed8]
  have E8 : Hid (EnvB w [(gr6_8, .slice none 0 0), (w.heap.size + 1 + 1 + 1 + 1, .slice none 0 0), (w.heap.size + 1 + 1 + 1, .slice dq (len Q) cd), (w.heap.size + 1 + 1, .slice co (len B) cc), (w.heap.size + 1, .slice bo (len P) cb), (w.heap.size, .slice ao (len A) ca)] [(.slice xa (len X) xk, digs X), (.slice ra (len R) rk, digs R), (.slice dq (len Q) cd, digs Q), (.slice co (len B) cc, digs B), (.slice bo (len P) cb, digs P), (.slice ao (len A) ca, digs A)] _) := Lib.hid (((((E7.out.below hB).add gr6_8 (.slice none 0 0) ⟨hc8, hf8, hs8, Nat.le_trans E7.out.size hg8, ⟨_, _, _, rfl⟩⟩ (fun p hp => by have := E7.out.old p hp; omega)).numN (hr.out : Nt _ _ (R))).numN (hx.out : Nt _ _ (X))))
  clear E7 hB hR hO bx0 bx1 ed0 ed1 ed2 ed3 ed6 ed7 ed8 hr hx hg8 hb8 he8 hc8 hf8 hs8
  obtain ⟨p8, f8, -, -, -⟩ := E8.out.box 0 rfl
  refine wpAny_next (i := 9) (by kernel_rfl) rfl (fun KK hKK => ?_)
  go_simp
  have E9 : Hid (EnvB w [(gr6_8, .slice xa (len X) xk), (w.heap.size + 1 + 1 + 1 + 1, .slice none 0 0), (w.heap.size + 1 + 1 + 1, .slice dq (len Q) cd), (w.heap.size + 1 + 1, .slice co (len B) cc), (w.heap.size + 1, .slice bo (len P) cb), (w.heap.size, .slice ao (len A) ca)] [(.slice xa (len X) xk, digs X), (.slice ra (len R) rk, digs R), (.slice dq (len Q) cd, digs Q), (.slice co (len B) cc, digs B), (.slice bo (len P) cb, digs P), (.slice ao (len A) ca, digs A)] _) := Lib.hid ((E8.out.set 0 (.slice xa (len X) xk) rfl ⟨_, _, _, rfl⟩))
  refine hKK.out _ _ ?_
  clear hKK KK
  refine wpAny_next (i := 10) (by kernel_rfl) rfl (fun KK hKK => ?_)
  go_simp
  refine hKK.out _ _ ?_
  clear hKK KK
  refine wpAny_done (by kernel_rfl) ?_ _
  obtain ⟨p9, f9, -, -, -⟩ := E9.out.box 1 rfl
  have E10 : Hid (EnvB w [(gr6_8, .slice xa (len X) xk), (w.heap.size + 1 + 1 + 1 + 1, .slice none 0 0), (w.heap.size + 1 + 1 + 1, .slice dq (len Q) cd), (w.heap.size + 1 + 1, .slice co (len B) cc), (w.heap.size + 1, .slice bo (len P) cb), (w.heap.size, .slice ao (len A) ca)] [(.slice xa (len X) xk, digs X), (.slice ra (len R) rk, digs R), (.slice dq (len Q) cd, digs Q), (.slice co (len B) cc, digs B), (.slice bo (len P) cb, digs P), (.slice ao (len A) ca, digs A)] _) := Lib.hid ((E9.out.set 1 (.slice none 0 0) rfl ⟨_, _, _, rfl⟩))
  have hfin := Lib.hid E10.out
  obtain ⟨rc, -, -, -, -⟩ := E10.out.box 1 rfl
  go_wp2
  exact bodyPost_ret (v := .tuple #[.agg #[.slice none 0 0], .int .i64 10]) (by simp [results, Try.results14, go_sem, rc]) rfl ⟨ResN.zero _ _, hfin.out.1⟩
set_option maxRecDepth 100000 in
set_option maxHeartbeats 1000000 in
theorem Crt_g (ao : Option Addr) (ca : Nat) (bo : Option Addr) (cb : Nat) (co : Option Addr) (cc : Nat) (dq : Option Addr) (cd : Nat) (A P B Q : Nat)  (w : World) (ha : Nt w (.slice ao (len A) ca) A) (hb : Nt w (.slice bo (len P) cb) P) (hc : Nt w (.slice co (len B) cc) B) (hd : Nt w (.slice dq (len Q) cd) Q) (ha1 : A < P) (hb1 : B < Q) (hp : len P ≤ 32) (hq : len Q ≤ 32) (ht : decide (invG (P % Q) Q = 1) = true) (hb9 : ¬ len (P * Q) ≤ 32) :
    Calls Try.prog 14 #[.agg #[.slice ao (len A) ca], .agg #[.slice bo (len P) cb], .agg #[.slice co (len B) cc], .agg #[.slice dq (len Q) cd]] w fun e w' => ResN 0 9 e w' ∧ Below w.heap.size w w' := by
  have h1 : len A ≤ 64 := by have := len_le_of_lt ha1 hp; omega
  have h2 : len B ≤ 64 := by have := len_le_of_lt hb1 hq; omega
  have p0 : P ≠ 0 := by omega
  have q0 : Q ≠ 0 := by omega
  have CV1 := Lib.hid (fun W ha => @validN (.slice ao (len A) ca) A W h1 ha)
  have CV2 := Lib.hid (fun W ha => @validN (.slice co (len B) cc) B W h2 ha)
  have CM1 := Lib.hid (fun W ha => @modulus_c (.slice bo (len P) cb) (digs P) true W (mdl_digs.2 ⟨p0, hp⟩) ha)
  have CM2 := Lib.hid (fun W ha => @modulus_c (.slice dq (len Q) cd) (digs Q) true W (mdl_digs.2 ⟨q0, hq⟩) ha)
  have CL1 := Lib.hid (fun W ha hb => @less_c (.slice ao (len A) ca) (.slice bo (len P) cb) A P true W (decide_eq_true ha1) h1 (by omega) ha hb)
  have CL2 := Lib.hid (fun W ha hb => @less_c (.slice co (len B) cc) (.slice dq (len Q) cd) B Q true W (decide_eq_true hb1) h2 (by omega) ha hb)
  have CR1 := Lib.hid (fun W ha hb => @rest_c (.slice bo (len P) cb) (.slice dq (len Q) cd) P Q (P % Q) W rfl (by omega) (by omega) q0 ha hb)
  have hpq : P % Q < Q := Nat.mod_lt _ (by omega)
  have CI := Lib.hid (fun (uo : Option Addr) (uc : Nat) W ha hb => inverse_w uo uc dq cd (P % Q) Q (invV (P % Q) Q) true W ha hb rfl ht hpq hq)
  have hm64 : len (P * Q) ≤ 64 := len_mul_le hp hq (by omega)
  have CP := Lib.hid (fun W ha hb => @mulF (.slice bo (len P) cb) (.slice dq (len Q) cd) P Q (P * Q) W rfl hm64 ha hb (by omega) (by omega))
  have hmd : mdl (digs (P * Q)) = false := by cases e : mdl (digs (P * Q)); rfl; exact absurd (mdl_digs.1 e).2 hb9
  have CM3 := Lib.hid (fun (v : Value) W ha => @modulus_c v (digs (P * Q)) false W hmd ha)
  clear h1 h2 p0 q0 hp hq ha1 hb1 ht hpq hm64 hmd hb9
  generalize invV (P % Q) Q = X at *
  generalize P % Q = R at *
  generalize P * Q = M at *
  have E0 : Hid (EnvB w [] [(.slice dq (len Q) cd, digs Q), (.slice co (len B) cc, digs B), (.slice bo (len P) cb, digs P), (.slice ao (len A) ca, digs A)] w) := Lib.hid (((((EnvB.start w).numN ha).numN hb).numN hc).numN hd)
  clear ha hb hc hd
  go_enter Try.func14, Try.ntmps14
  go_wp2_with fail
  have E1 : Hid (EnvB w [(w.heap.size + 1 + 1 + 1 + 1, .slice none 0 0), (w.heap.size + 1 + 1 + 1, .slice dq (len Q) cd), (w.heap.size + 1 + 1, .slice co (len B) cc), (w.heap.size + 1, .slice bo (len P) cb), (w.heap.size, .slice ao (len A) ca)] [(.slice dq (len Q) cd, digs Q), (.slice co (len B) cc, digs B), (.slice bo (len P) cb, digs P), (.slice ao (len A) ca, digs A)] _) := Lib.hid ((((((E0.out.push (.slice ao (len A) ca) 24 ⟨_, _, _, rfl⟩ (w.heap.size) (by simp)).push (.slice bo (len P) cb) 24 ⟨_, _, _, rfl⟩ (w.heap.size + 1) (by simp)).push (.slice co (len B) cc) 24 ⟨_, _, _, rfl⟩ (w.heap.size + 1 + 1) (by simp)).push (.slice dq (len Q) cd) 24 ⟨_, _, _, rfl⟩ (w.heap.size + 1 + 1 + 1) (by simp)).push (.slice none 0 0) 24 ⟨_, _, _, rfl⟩ (w.heap.size + 1 + 1 + 1 + 1) (by simp)))
  refine (CV1.out _ (E1.out.nt 3 rfl)).mono ?_
  rintro e w1 ⟨rfl, hb⟩
  have E2 : Hid (EnvB w [(w.heap.size + 1 + 1 + 1 + 1, .slice none 0 0), (w.heap.size + 1 + 1 + 1, .slice dq (len Q) cd), (w.heap.size + 1 + 1, .slice co (len B) cc), (w.heap.size + 1, .slice bo (len P) cb), (w.heap.size, .slice ao (len A) ca)] [(.slice dq (len Q) cd, digs Q), (.slice co (len B) cc, digs B), (.slice bo (len P) cb, digs P), (.slice ao (len A) ca, digs A)] _) := Lib.hid ((E1.out.below hb))
  clear E1 E0 hb
  obtain ⟨p1, f1, -, -, -⟩ := E2.out.box 2 rfl
  go_wp2_with fail
  refine (CV2.out _ (E2.out.nt 1 rfl)).mono ?_
  rintro e w2 ⟨rfl, hb⟩
  have E3 : Hid (EnvB w [(w.heap.size + 1 + 1 + 1 + 1, .slice none 0 0), (w.heap.size + 1 + 1 + 1, .slice dq (len Q) cd), (w.heap.size + 1 + 1, .slice co (len B) cc), (w.heap.size + 1, .slice bo (len P) cb), (w.heap.size, .slice ao (len A) ca)] [(.slice dq (len Q) cd, digs Q), (.slice co (len B) cc, digs B), (.slice bo (len P) cb, digs P), (.slice ao (len A) ca, digs A)] _) := Lib.hid ((E2.out.below hb))
  clear p1 f1 E2 hb
  obtain ⟨p2, f2, -, -, -⟩ := E3.out.box 3 rfl
  go_wp2_with fail
  refine (CM1.out _ (E3.out.nt 2 rfl)).mono ?_
  rintro e w3 ⟨rfl, hb⟩
  have E4 : Hid (EnvB w [(w.heap.size + 1 + 1 + 1 + 1, .slice none 0 0), (w.heap.size + 1 + 1 + 1, .slice dq (len Q) cd), (w.heap.size + 1 + 1, .slice co (len B) cc), (w.heap.size + 1, .slice bo (len P) cb), (w.heap.size, .slice ao (len A) ca)] [(.slice dq (len Q) cd, digs Q), (.slice co (len B) cc, digs B), (.slice bo (len P) cb, digs P), (.slice ao (len A) ca, digs A)] _) := Lib.hid ((E3.out.below hb))
  clear p2 f2 E3 hb
  obtain ⟨p3, f3, -, -, -⟩ := E4.out.box 1 rfl
  go_wp2_with fail
  refine (CM2.out _ (E4.out.nt 0 rfl)).mono ?_
  rintro e w4 ⟨rfl, hb⟩
  have E5 : Hid (EnvB w [(w.heap.size + 1 + 1 + 1 + 1, .slice none 0 0), (w.heap.size + 1 + 1 + 1, .slice dq (len Q) cd), (w.heap.size + 1 + 1, .slice co (len B) cc), (w.heap.size + 1, .slice bo (len P) cb), (w.heap.size, .slice ao (len A) ca)] [(.slice dq (len Q) cd, digs Q), (.slice co (len B) cc, digs B), (.slice bo (len P) cb, digs P), (.slice ao (len A) ca, digs A)] _) := Lib.hid ((E4.out.below hb))
  clear p3 f3 E4 hb
  obtain ⟨p4, f4, -, -, -⟩ := E5.out.box 4 rfl
  obtain ⟨p5, f5, -, -, -⟩ := E5.out.box 3 rfl
  go_wp2_with fail
  refine (CL1.out _ (E5.out.nt 3 rfl) (E5.out.nt 2 rfl)).mono ?_
  rintro e w5 ⟨rfl, hb⟩
  have E6 : Hid (EnvB w [(w.heap.size + 1 + 1 + 1 + 1, .slice none 0 0), (w.heap.size + 1 + 1 + 1, .slice dq (len Q) cd), (w.heap.size + 1 + 1, .slice co (len B) cc), (w.heap.size + 1, .slice bo (len P) cb), (w.heap.size, .slice ao (len A) ca)] [(.slice dq (len Q) cd, digs Q), (.slice co (len B) cc, digs B), (.slice bo (len P) cb, digs P), (.slice ao (len A) ca, digs A)] _) := Lib.hid ((E5.out.below hb))
  clear p4 f4 p5 f5 E5 hb
  obtain ⟨p6, f6, -, -, -⟩ := E6.out.box 2 rfl
  obtain ⟨p7, f7, -, -, -⟩ := E6.out.box 1 rfl
  go_wp2_with fail
  refine (CL2.out _ (E6.out.nt 1 rfl) (E6.out.nt 0 rfl)).mono ?_
  rintro e w6 ⟨rfl, hb⟩
  have E7 : Hid (EnvB w [(w.heap.size + 1 + 1 + 1 + 1, .slice none 0 0), (w.heap.size + 1 + 1 + 1, .slice dq (len Q) cd), (w.heap.size + 1 + 1, .slice co (len B) cc), (w.heap.size + 1, .slice bo (len P) cb), (w.heap.size, .slice ao (len A) ca)] [(.slice dq (len Q) cd, digs Q), (.slice co (len B) cc, digs B), (.slice bo (len P) cb, digs P), (.slice ao (len A) ca, digs A)] _) := Lib.hid ((E6.out.below hb))
  clear p6 f6 p7 f7 E6 hb
  go_wp2_with fail
  have bx0 := Lib.hid (E7.out.box 3 rfl)
  have bx1 := Lib.hid (E7.out.box 1 rfl)
  refine' wp_region_phaseU (by kernel_rfl) [0, 1, 2, 3, 4, 5, 6, 8] 7 (by kernel_rfl) #[true, true, true, true, true, true, true, false, true, false, false] (by kernel_rfl) 3 (by kernel_rfl) #[true, true, true, true, true, true, true, true, true, false, false] (by kernel_rfl) 2 (by kernel_rfl) [PEq (.agg #[.slice bo (len P) cb]), PEq (.agg #[.slice dq (len Q) cd]), PNum (R), PEq (.agg #[.slice dq (len Q) cd]), PTup (X) (.bool true), PTup (X) (.bool true), PNum (X), PEq (.bool true), PBox w6.heap.size, Fact.none, Fact.none] (List.forall_mem_cons.2 ⟨PEq.st _, List.forall_mem_cons.2 ⟨PEq.st _, List.forall_mem_cons.2 ⟨PNum.st _, List.forall_mem_cons.2 ⟨PEq.st _, List.forall_mem_cons.2 ⟨PTup.st _ _, List.forall_mem_cons.2 ⟨PTup.st _ _, List.forall_mem_cons.2 ⟨PNum.st _, List.forall_mem_cons.2 ⟨PEq.st _, List.forall_mem_cons.2 ⟨PBox.st _, List.forall_mem_cons.2 ⟨Fact.none_st, List.forall_mem_cons.2 ⟨Fact.none_st, List.forall_mem_nil _⟩⟩⟩⟩⟩⟩⟩⟩⟩⟩⟩) _ ?hFr6 ?stepr6 ?later6 ?doner6
  case hFr6 => intro x; simp only [frameL, Act.put, List.setIfInBounds_toArray, List.set_cons_zero, List.set_cons_succ, Nat.zero_add, Nat.reduceAdd]; exact rfl
  case stepr6 =>
    refine List.forall_mem_cons.2 ⟨?_, ?_⟩
    · intro xv bv ev WW hB hdp
      refine op_of rfl ?_
      obtain ⟨xa, xk, ed5, hx⟩ := (show (PTup (X) (.bool true)) (xv 5) (bv 5) (ev 5) WW from hdp 5 (by kernel_rfl))
      clear hdp
      intro KK hKK
      go_simp
      exact act_eq (hKK.out _ _ (Below.refl _ _) rfl) (by first | rfl | simp [upd, ed5])
    refine List.forall_mem_cons.2 ⟨?_, ?_⟩
    · intro xv bv ev WW hB hdp
      refine op_of rfl ?_
      clear hdp
      intro KK hKK
      obtain ⟨z, -, -, -, -⟩ := bx0.out.below hB
      go_simp
      exact act_eq (hKK.out (.agg #[.slice bo (len P) cb]) _ (Below.refl _ _) rfl) (by first | rfl | simp [upd])
    refine List.forall_mem_cons.2 ⟨?_, ?_⟩
    · intro xv bv ev WW hB hdp
      refine op_of rfl ?_
      clear hdp
      intro KK hKK
      obtain ⟨z, -, -, -, -⟩ := bx1.out.below hB
      go_simp
      exact act_eq (hKK.out (.agg #[.slice dq (len Q) cd]) _ (Below.refl _ _) rfl) (by first | rfl | simp [upd])
    refine List.forall_mem_cons.2 ⟨?_, ?_⟩
    · intro xv bv ev WW hB hdp
      refine op_of rfl ?_
      have ed0 : xv 0 = .agg #[.slice bo (len P) cb] := hdp 0 (by kernel_rfl)
      have ed1 : xv 1 = .agg #[.slice dq (len Q) cd] := hdp 1 (by kernel_rfl)
      clear hdp
      intro KK hKK
      go_simp
      refine (CR1.out _ ((E7.out.below hB).nt 2 rfl) ((E7.out.below hB).nt 0 rfl)).mono ?_
      rintro e WW' ⟨⟨ra, rk, rfl, hr⟩, hb⟩
      (try dsimp only)
      (try simp only [Act.put, List.setIfInBounds_toArray, List.set_cons_zero, List.set_cons_succ])
      exact act_eq (hKK.out _ _ hb ⟨_, _, rfl, hr⟩) (by first | rfl | simp [upd, ed0, ed1])
    refine List.forall_mem_cons.2 ⟨?_, ?_⟩
    · intro xv bv ev WW hB hdp
      refine op_of rfl ?_
      clear hdp
      intro KK hKK
      obtain ⟨z, -, -, -, -⟩ := bx1.out.below hB
      go_simp
      exact act_eq (hKK.out (.agg #[.slice dq (len Q) cd]) _ (Below.refl _ _) rfl) (by first | rfl | simp [upd])
    refine List.forall_mem_cons.2 ⟨?_, ?_⟩
    · intro xv bv ev WW hB hdp
      refine op_of rfl ?_
      obtain ⟨ra, rk, ed2, hr⟩ := (show (PNum (R)) (xv 2) (bv 2) (ev 2) WW from hdp 2 (by kernel_rfl))
      have ed3 : xv 3 = .agg #[.slice dq (len Q) cd] := hdp 3 (by kernel_rfl)
      clear hdp
      intro KK hKK
      go_simp
      refine (CI.out _ _ _ hr.out ((E7.out.below hB).nt 0 rfl)).mono ?_
      rintro e WW' ⟨⟨xa, xk, rfl, hx⟩, hb⟩
      (try dsimp only)
      (try simp only [Act.put, List.setIfInBounds_toArray, List.set_cons_zero, List.set_cons_succ])
      exact act_eq (hKK.out _ _ hb ⟨_, _, rfl, hx⟩) (by first | rfl | simp [upd, ed2, ed3])
    refine List.forall_mem_cons.2 ⟨?_, ?_⟩
    · intro xv bv ev WW hB hdp
      refine op_of rfl ?_
      obtain ⟨xa, xk, ed4, hx⟩ := (show (PTup (X) (.bool true)) (xv 4) (bv 4) (ev 4) WW from hdp 4 (by kernel_rfl))
      clear hdp
      intro KK hKK
      go_simp
      exact act_eq (hKK.out _ _ (Below.refl _ _) ⟨_, _, rfl, hx⟩) (by first | rfl | simp [upd, ed4])
    refine List.forall_mem_cons.2 ⟨?_, ?_⟩
    · intro xv bv ev WW hB hdp
      refine op_of rfl ?_
      obtain ⟨xa, xk, ed5, hx⟩ := (show (PTup (X) (.bool true)) (xv 5) (bv 5) (ev 5) WW from hdp 5 (by kernel_rfl))
      clear hdp
      intro KK hKK
      go_simp
      exact act_eq (hKK.out _ _ (Below.refl _ _) ⟨_, _, rfl, hx⟩) (by first | rfl | simp [upd, ed5])
    refine List.forall_mem_cons.2 ⟨?_, ?_⟩
    · intro xv bv ev WW hB hdp
      refine op_of rfl ?_
      clear hdp
      intro KK hKK
      go_simp
      exact act_eq (hKK.out (.pointer (some ⟨WW.heap.size, 0, none⟩)) _ (below_one _ _) (PBox.mk hB rfl _)) (by first | rfl | simp [upd])
    exact List.forall_mem_nil _
  case later6 =>
    intro xv bv ev WW hB hR
    obtain ⟨xa, xk, ed5, hx⟩ := (show (PTup (X) (.bool true)) (xv 5) (bv 5) (ev 5) WW from hR 5 (by kernel_rfl))
    refine ⟨.bool true, rfl, fun hw => ?_⟩
    refine takeP (i := 7) (some 58) (v := .bool true) rfl rfl (by kernel_rfl) (by kernel_rfl) (by kernel_rfl) (fun _ _ _ h => h) (by rfl) ?_ ?_
    · (intro wS; go_simp; try with_reducible rfl)
    rw [show (#[true, true, true, true, true, true, true, false, true, false, false] : Array Bool).setIfInBounds 7 true = #[true, true, true, true, true, true, true, true, true, false, false] from by kernel_rfl]
    exact hw
  intro xv bv ev w7 hB hR hO
  have ed0 : xv 0 = .agg #[.slice bo (len P) cb] := hR 0 (by kernel_rfl)
  have ed1 : xv 1 = .agg #[.slice dq (len Q) cd] := hR 1 (by kernel_rfl)
  obtain ⟨ra, rk, ed2, hr⟩ := (show (PNum (R)) (xv 2) (bv 2) (ev 2) w7 from hR 2 (by kernel_rfl))
  have ed3 : xv 3 = .agg #[.slice dq (len Q) cd] := hR 3 (by kernel_rfl)
  obtain ⟨xa, xk, ed6, hx⟩ := (show (PNum (X)) (xv 6) (bv 6) (ev 6) w7 from hR 6 (by kernel_rfl))
  have ed7 : xv 7 = .bool true := hR 7 (by kernel_rfl)
  obtain ⟨gr6_8, ed8, hg8, hb8, he8, hc8, hf8, hs8⟩ := (show (PBox w6.heap.size) (xv 8) (bv 8) (ev 8) w7 from hR 8 (by kernel_rfl))
  simp only [ed0, ed1, ed2, ed3, ed6, ed7, ed8]
  have E8 : Hid (EnvB w [(gr6_8, .slice none 0 0), (w.heap.size + 1 + 1 + 1 + 1, .slice none 0 0), (w.heap.size + 1 + 1 + 1, .slice dq (len Q) cd), (w.heap.size + 1 + 1, .slice co (len B) cc), (w.heap.size + 1, .slice bo (len P) cb), (w.heap.size, .slice ao (len A) ca)] [(.slice xa (len X) xk, digs X), (.slice ra (len R) rk, digs R), (.slice dq (len Q) cd, digs Q), (.slice co (len B) cc, digs B), (.slice bo (len P) cb, digs P), (.slice ao (len A) ca, digs A)] _) := Lib.hid (((((E7.out.below hB).add gr6_8 (.slice none 0 0) ⟨hc8, hf8, hs8, Nat.le_trans E7.out.size hg8, ⟨_, _, _, rfl⟩⟩ (fun p hp => by have := E7.out.old p hp; omega)).numN (hr.out : Nt _ _ (R))).numN (hx.out : Nt _ _ (X))))
  clear E7 hB hR hO bx0 bx1 ed0 ed1 ed2 ed3 ed6 ed7 ed8 hr hx hg8 hb8 he8 hc8 hf8 hs8
  obtain ⟨p8, f8, -, -, -⟩ := E8.out.box 0 rfl
  refine wpAny_next (i := 9) (by kernel_rfl) rfl (fun KK hKK => ?_)
  go_simp
  have E9 : Hid (EnvB w [(gr6_8, .slice xa (len X) xk), (w.heap.size + 1 + 1 + 1 + 1, .slice none 0 0), (w.heap.size + 1 + 1 + 1, .slice dq (len Q) cd), (w.heap.size + 1 + 1, .slice co (len B) cc), (w.heap.size + 1, .slice bo (len P) cb), (w.heap.size, .slice ao (len A) ca)] [(.slice xa (len X) xk, digs X), (.slice ra (len R) rk, digs R), (.slice dq (len Q) cd, digs Q), (.slice co (len B) cc, digs B), (.slice bo (len P) cb, digs P), (.slice ao (len A) ca, digs A)] _) := Lib.hid ((E8.out.set 0 (.slice xa (len X) xk) rfl ⟨_, _, _, rfl⟩))
  refine hKK.out _ _ ?_
  clear hKK KK
  refine wpAny_next (i := 10) (by kernel_rfl) rfl (fun KK hKK => ?_)
  go_simp
  refine hKK.out _ _ ?_
  clear hKK KK
  refine wpAny_done (by kernel_rfl) ?_ _
  obtain ⟨p9, f9, -, -, -⟩ := E9.out.box 4 rfl
  obtain ⟨p10, f10, -, -, -⟩ := E9.out.box 2 rfl
  go_wp2_with fail
  refine (CP.out _ (E9.out.nt 4 rfl) (E9.out.nt 2 rfl)).mono ?_
  rintro e w8 ⟨⟨ma, mk, rfl, hm⟩, hb⟩
  have E10 : Hid (EnvB w [(gr6_8, .slice xa (len X) xk), (w.heap.size + 1 + 1 + 1 + 1, .slice none 0 0), (w.heap.size + 1 + 1 + 1, .slice dq (len Q) cd), (w.heap.size + 1 + 1, .slice co (len B) cc), (w.heap.size + 1, .slice bo (len P) cb), (w.heap.size, .slice ao (len A) ca)] [(.slice ma (len M) mk, digs M), (.slice xa (len X) xk, digs X), (.slice ra (len R) rk, digs R), (.slice dq (len Q) cd, digs Q), (.slice co (len B) cc, digs B), (.slice bo (len P) cb, digs P), (.slice ao (len A) ca, digs A)] _) := Lib.hid (((E9.out.below hb).numN (hm.out : Nt _ _ M)))
  clear p8 f8 p9 f9 p10 f10 E9 E8 hb hm
  go_wp2_with fail
  have E11 : Hid (EnvB w [(w8.heap.size, .slice ma (len M) mk), (gr6_8, .slice xa (len X) xk), (w.heap.size + 1 + 1 + 1 + 1, .slice none 0 0), (w.heap.size + 1 + 1 + 1, .slice dq (len Q) cd), (w.heap.size + 1 + 1, .slice co (len B) cc), (w.heap.size + 1, .slice bo (len P) cb), (w.heap.size, .slice ao (len A) ca)] [(.slice ma (len M) mk, digs M), (.slice xa (len X) xk, digs X), (.slice ra (len R) rk, digs R), (.slice dq (len Q) cd, digs Q), (.slice co (len B) cc, digs B), (.slice bo (len P) cb, digs P), (.slice ao (len A) ca, digs A)] _) := Lib.hid ((E10.out.push (.slice ma (len M) mk) 24 ⟨_, _, _, rfl⟩ (w8.heap.size) (by simp)))
  refine (CM3.out _ _ (E11.out.nt 0 rfl)).mono ?_
  rintro e w9 ⟨rfl, hb⟩
  have E12 : Hid (EnvB w [(w8.heap.size, .slice ma (len M) mk), (gr6_8, .slice xa (len X) xk), (w.heap.size + 1 + 1 + 1 + 1, .slice none 0 0), (w.heap.size + 1 + 1 + 1, .slice dq (len Q) cd), (w.heap.size + 1 + 1, .slice co (len B) cc), (w.heap.size + 1, .slice bo (len P) cb), (w.heap.size, .slice ao (len A) ca)] [(.slice ma (len M) mk, digs M), (.slice xa (len X) xk, digs X), (.slice ra (len R) rk, digs R), (.slice dq (len Q) cd, digs Q), (.slice co (len B) cc, digs B), (.slice bo (len P) cb, digs P), (.slice ao (len A) ca, digs A)] _) := Lib.hid ((E11.out.below hb))
  clear E11 E10 hb
  obtain ⟨p11, f11, -, -, -⟩ := E12.out.box 2 rfl
  have E13 : Hid (EnvB w [(w8.heap.size, .slice ma (len M) mk), (gr6_8, .slice xa (len X) xk), (w.heap.size + 1 + 1 + 1 + 1, .slice none 0 0), (w.heap.size + 1 + 1 + 1, .slice dq (len Q) cd), (w.heap.size + 1 + 1, .slice co (len B) cc), (w.heap.size + 1, .slice bo (len P) cb), (w.heap.size, .slice ao (len A) ca)] [(.slice ma (len M) mk, digs M), (.slice xa (len X) xk, digs X), (.slice ra (len R) rk, digs R), (.slice dq (len Q) cd, digs Q), (.slice co (len B) cc, digs B), (.slice bo (len P) cb, digs P), (.slice ao (len A) ca, digs A)] _) := Lib.hid ((E12.out.set 2 (.slice none 0 0) rfl ⟨_, _, _, rfl⟩))
  have hfin := Lib.hid E13.out
  obtain ⟨rc, -, -, -, -⟩ := E13.out.box 2 rfl
  go_wp2
  exact bodyPost_ret (v := .tuple #[.agg #[.slice none 0 0], .int .i64 9]) (by simp [results, Try.results14, go_sem, rc]) rfl ⟨ResN.zero _ _, hfin.out.1⟩
/-- the number that Crt makes -/
def crtV (A P B Q : Nat) : Nat := A + P * (subm B (A % Q) Q * invV (P % Q) Q % Q)
theorem crtV_lt {A P B Q : Nat} (ha : A < P) (hb : B < Q) : crtV A P B Q < P * Q := by
  unfold crtV
  have h : subm B (A % Q) Q * invV (P % Q) Q % Q < Q := Nat.mod_lt _ (by omega)
  have h2 : P * (subm B (A % Q) Q * invV (P % Q) Q % Q) ≤ P * (Q - 1) := Nat.mul_le_mul_left _ (by omega)
  have h3 : P * (Q - 1) + P = P * Q := by rw [← Nat.mul_succ, show (Q - 1).succ = Q from by omega]
  omega

set_option maxRecDepth 100000 in
set_option maxHeartbeats 1000000 in
theorem Crt_w (ao : Option Addr) (ca : Nat) (bo : Option Addr) (cb : Nat) (co : Option Addr) (cc : Nat) (dq : Option Addr) (cd : Nat) (A P B Q : Nat)  (w : World) (ha : Nt w (.slice ao (len A) ca) A) (hb : Nt w (.slice bo (len P) cb) P) (hc : Nt w (.slice co (len B) cc) B) (hd : Nt w (.slice dq (len Q) cd) Q) (ha1 : A < P) (hb1 : B < Q) (hp : len P ≤ 32) (hq : len Q ≤ 32) (ht : decide (invG (P % Q) Q = 1) = true) (hb9 : len (P * Q) ≤ 32) :
    Calls Try.prog 14 #[.agg #[.slice ao (len A) ca], .agg #[.slice bo (len P) cb], .agg #[.slice co (len B) cc], .agg #[.slice dq (len Q) cd]] w fun e w' => ResN (crtV A P B Q) 0 e w' ∧ Below w.heap.size w w' := by
  have h1 : len A ≤ 64 := by have := len_le_of_lt ha1 hp; omega
  have h2 : len B ≤ 64 := by have := len_le_of_lt hb1 hq; omega
  have p0 : P ≠ 0 := by omega
  have q0 : Q ≠ 0 := by omega
  have CV1 := Lib.hid (fun W ha => @validN (.slice ao (len A) ca) A W h1 ha)
  have CV2 := Lib.hid (fun W ha => @validN (.slice co (len B) cc) B W h2 ha)
  have CM1 := Lib.hid (fun W ha => @modulus_c (.slice bo (len P) cb) (digs P) true W (mdl_digs.2 ⟨p0, hp⟩) ha)
  have CM2 := Lib.hid (fun W ha => @modulus_c (.slice dq (len Q) cd) (digs Q) true W (mdl_digs.2 ⟨q0, hq⟩) ha)
  have CL1 := Lib.hid (fun W ha hb => @less_c (.slice ao (len A) ca) (.slice bo (len P) cb) A P true W (decide_eq_true ha1) h1 (by omega) ha hb)
  have CL2 := Lib.hid (fun W ha hb => @less_c (.slice co (len B) cc) (.slice dq (len Q) cd) B Q true W (decide_eq_true hb1) h2 (by omega) ha hb)
  have CR1 := Lib.hid (fun W ha hb => @rest_c (.slice bo (len P) cb) (.slice dq (len Q) cd) P Q (P % Q) W rfl (by omega) (by omega) q0 ha hb)
  have hpq : P % Q < Q := Nat.mod_lt _ (by omega)
  have CI := Lib.hid (fun (uo : Option Addr) (uc : Nat) W ha hb => inverse_w uo uc dq cd (P % Q) Q (invV (P % Q) Q) true W ha hb rfl ht hpq hq)
  have hm64 : len (P * Q) ≤ 64 := by omega
  have hm0 : P * Q ≠ 0 := Nat.mul_ne_zero p0 q0
  have CP := Lib.hid (fun W ha hb => @mulF (.slice bo (len P) cb) (.slice dq (len Q) cd) P Q (P * Q) W rfl hm64 ha hb (by omega) (by omega))
  have CM3 := Lib.hid (fun (v : Value) W ha => @modulus_c v (digs (P * Q)) true W (mdl_digs.2 ⟨hm0, hb9⟩) ha)
  have CR2 := Lib.hid (fun W ha hb => @rest_c (.slice ao (len A) ca) (.slice dq (len Q) cd) A Q (A % Q) W rfl h1 (by omega) q0 ha hb)
  have hx : invV (P % Q) Q < Q := invV_lt q0
  have haq : A % Q < Q := Nat.mod_lt _ (by omega)
  have hd : subm B (A % Q) Q < Q := subm_lt hb1 haq
  have CS := Lib.hid (fun (v : Value) W ha hb hc => @sub_c (.slice co (len B) cc) v (.slice dq (len Q) cd) B (A % Q) Q _ W rfl hb1 haq hq ha hb hc)
  have CK := Lib.hid (fun (u v : Value) W ha hb hc => @mul_c u v (.slice dq (len Q) cd) (subm B (A % Q) Q) (invV (P % Q) Q) Q _ W rfl hd hx hq ha hb hc)
  have hkq : subm B (A % Q) Q * invV (P % Q) Q % Q < Q := Nat.mod_lt _ (by omega)
  have hlk := len_le_of_lt hkq hq
  have hcl : len (crtV A P B Q) ≤ 64 := by have := len_le_of_lt (crtV_lt ha1 hb1) hb9; omega
  have hdef : A + P * (subm B (A % Q) Q * invV (P % Q) Q % Q) = crtV A P B Q := rfl
  have hls : len (P * (subm B (A % Q) Q * invV (P % Q) Q % Q)) ≤ 64 := len_mul_le hp hlk (by omega)
  have CT := Lib.hid (fun (v : Value) W ha hb => @mulF (.slice bo (len P) cb) v P (subm B (A % Q) Q * invV (P % Q) Q % Q) _ W rfl hls ha hb (by omega) (by omega))
  have CA := Lib.hid (fun (v : Value) W ha hb => @addF (.slice ao (len A) ca) v A (P * (subm B (A % Q) Q * invV (P % Q) Q % Q)) (crtV A P B Q) W hdef hcl ha hb h1 hls)
  clear h1 h2 p0 q0 hp hq ha1 hb1 ht hpq hm64 hm0 hb9 hx haq hd hkq hlk hcl hdef hls
  generalize crtV A P B Q = Z at *
  generalize P * (subm B (A % Q) Q * invV (P % Q) Q % Q) = U at *
  generalize subm B (A % Q) Q * invV (P % Q) Q % Q = Y at *
  generalize subm B (A % Q) Q = D at *
  generalize A % Q = J at *
  generalize invV (P % Q) Q = X at *
  generalize P % Q = R at *
  generalize P * Q = M at *
  have E0 : Hid (EnvB w [] [(.slice dq (len Q) cd, digs Q), (.slice co (len B) cc, digs B), (.slice bo (len P) cb, digs P), (.slice ao (len A) ca, digs A)] w) := Lib.hid (((((EnvB.start w).numN ha).numN hb).numN hc).numN hd)
  clear ha hb hc hd
  go_enter Try.func14, Try.ntmps14
  go_wp2_with fail
  have E1 : Hid (EnvB w [(w.heap.size + 1 + 1 + 1 + 1, .slice none 0 0), (w.heap.size + 1 + 1 + 1, .slice dq (len Q) cd), (w.heap.size + 1 + 1, .slice co (len B) cc), (w.heap.size + 1, .slice bo (len P) cb), (w.heap.size, .slice ao (len A) ca)] [(.slice dq (len Q) cd, digs Q), (.slice co (len B) cc, digs B), (.slice bo (len P) cb, digs P), (.slice ao (len A) ca, digs A)] _) := Lib.hid ((((((E0.out.push (.slice ao (len A) ca) 24 ⟨_, _, _, rfl⟩ (w.heap.size) (by simp)).push (.slice bo (len P) cb) 24 ⟨_, _, _, rfl⟩ (w.heap.size + 1) (by simp)).push (.slice co (len B) cc) 24 ⟨_, _, _, rfl⟩ (w.heap.size + 1 + 1) (by simp)).push (.slice dq (len Q) cd) 24 ⟨_, _, _, rfl⟩ (w.heap.size + 1 + 1 + 1) (by simp)).push (.slice none 0 0) 24 ⟨_, _, _, rfl⟩ (w.heap.size + 1 + 1 + 1 + 1) (by simp)))
  refine (CV1.out _ (E1.out.nt 3 rfl)).mono ?_
  rintro e w1 ⟨rfl, hb⟩
  have E2 : Hid (EnvB w [(w.heap.size + 1 + 1 + 1 + 1, .slice none 0 0), (w.heap.size + 1 + 1 + 1, .slice dq (len Q) cd), (w.heap.size + 1 + 1, .slice co (len B) cc), (w.heap.size + 1, .slice bo (len P) cb), (w.heap.size, .slice ao (len A) ca)] [(.slice dq (len Q) cd, digs Q), (.slice co (len B) cc, digs B), (.slice bo (len P) cb, digs P), (.slice ao (len A) ca, digs A)] _) := Lib.hid ((E1.out.below hb))
  clear E1 E0 hb
  obtain ⟨p1, f1, -, -, -⟩ := E2.out.box 2 rfl
  go_wp2_with fail
  refine (CV2.out _ (E2.out.nt 1 rfl)).mono ?_
  rintro e w2 ⟨rfl, hb⟩
  have E3 : Hid (EnvB w [(w.heap.size + 1 + 1 + 1 + 1, .slice none 0 0), (w.heap.size + 1 + 1 + 1, .slice dq (len Q) cd), (w.heap.size + 1 + 1, .slice co (len B) cc), (w.heap.size + 1, .slice bo (len P) cb), (w.heap.size, .slice ao (len A) ca)] [(.slice dq (len Q) cd, digs Q), (.slice co (len B) cc, digs B), (.slice bo (len P) cb, digs P), (.slice ao (len A) ca, digs A)] _) := Lib.hid ((E2.out.below hb))
  clear p1 f1 E2 hb
  obtain ⟨p2, f2, -, -, -⟩ := E3.out.box 3 rfl
  go_wp2_with fail
  refine (CM1.out _ (E3.out.nt 2 rfl)).mono ?_
  rintro e w3 ⟨rfl, hb⟩
  have E4 : Hid (EnvB w [(w.heap.size + 1 + 1 + 1 + 1, .slice none 0 0), (w.heap.size + 1 + 1 + 1, .slice dq (len Q) cd), (w.heap.size + 1 + 1, .slice co (len B) cc), (w.heap.size + 1, .slice bo (len P) cb), (w.heap.size, .slice ao (len A) ca)] [(.slice dq (len Q) cd, digs Q), (.slice co (len B) cc, digs B), (.slice bo (len P) cb, digs P), (.slice ao (len A) ca, digs A)] _) := Lib.hid ((E3.out.below hb))
  clear p2 f2 E3 hb
  obtain ⟨p3, f3, -, -, -⟩ := E4.out.box 1 rfl
  go_wp2_with fail
  refine (CM2.out _ (E4.out.nt 0 rfl)).mono ?_
  rintro e w4 ⟨rfl, hb⟩
  have E5 : Hid (EnvB w [(w.heap.size + 1 + 1 + 1 + 1, .slice none 0 0), (w.heap.size + 1 + 1 + 1, .slice dq (len Q) cd), (w.heap.size + 1 + 1, .slice co (len B) cc), (w.heap.size + 1, .slice bo (len P) cb), (w.heap.size, .slice ao (len A) ca)] [(.slice dq (len Q) cd, digs Q), (.slice co (len B) cc, digs B), (.slice bo (len P) cb, digs P), (.slice ao (len A) ca, digs A)] _) := Lib.hid ((E4.out.below hb))
  clear p3 f3 E4 hb
  obtain ⟨p4, f4, -, -, -⟩ := E5.out.box 4 rfl
  obtain ⟨p5, f5, -, -, -⟩ := E5.out.box 3 rfl
  go_wp2_with fail
  refine (CL1.out _ (E5.out.nt 3 rfl) (E5.out.nt 2 rfl)).mono ?_
  rintro e w5 ⟨rfl, hb⟩
  have E6 : Hid (EnvB w [(w.heap.size + 1 + 1 + 1 + 1, .slice none 0 0), (w.heap.size + 1 + 1 + 1, .slice dq (len Q) cd), (w.heap.size + 1 + 1, .slice co (len B) cc), (w.heap.size + 1, .slice bo (len P) cb), (w.heap.size, .slice ao (len A) ca)] [(.slice dq (len Q) cd, digs Q), (.slice co (len B) cc, digs B), (.slice bo (len P) cb, digs P), (.slice ao (len A) ca, digs A)] _) := Lib.hid ((E5.out.below hb))
  clear p4 f4 p5 f5 E5 hb
  obtain ⟨p6, f6, -, -, -⟩ := E6.out.box 2 rfl
  obtain ⟨p7, f7, -, -, -⟩ := E6.out.box 1 rfl
  go_wp2_with fail
  refine (CL2.out _ (E6.out.nt 1 rfl) (E6.out.nt 0 rfl)).mono ?_
  rintro e w6 ⟨rfl, hb⟩
  have E7 : Hid (EnvB w [(w.heap.size + 1 + 1 + 1 + 1, .slice none 0 0), (w.heap.size + 1 + 1 + 1, .slice dq (len Q) cd), (w.heap.size + 1 + 1, .slice co (len B) cc), (w.heap.size + 1, .slice bo (len P) cb), (w.heap.size, .slice ao (len A) ca)] [(.slice dq (len Q) cd, digs Q), (.slice co (len B) cc, digs B), (.slice bo (len P) cb, digs P), (.slice ao (len A) ca, digs A)] _) := Lib.hid ((E6.out.below hb))
  clear p6 f6 p7 f7 E6 hb
  go_wp2_with fail
  have bx0 := Lib.hid (E7.out.box 3 rfl)
  have bx1 := Lib.hid (E7.out.box 1 rfl)
  refine' wp_region_phaseU (by kernel_rfl) [0, 1, 2, 3, 4, 5, 6, 8] 7 (by kernel_rfl) #[true, true, true, true, true, true, true, false, true, false, false] (by kernel_rfl) 3 (by kernel_rfl) #[true, true, true, true, true, true, true, true, true, false, false] (by kernel_rfl) 2 (by kernel_rfl) [PEq (.agg #[.slice bo (len P) cb]), PEq (.agg #[.slice dq (len Q) cd]), PNum (R), PEq (.agg #[.slice dq (len Q) cd]), PTup (X) (.bool true), PTup (X) (.bool true), PNum (X), PEq (.bool true), PBox w6.heap.size, Fact.none, Fact.none] (List.forall_mem_cons.2 ⟨PEq.st _, List.forall_mem_cons.2 ⟨PEq.st _, List.forall_mem_cons.2 ⟨PNum.st _, List.forall_mem_cons.2 ⟨PEq.st _, List.forall_mem_cons.2 ⟨PTup.st _ _, List.forall_mem_cons.2 ⟨PTup.st _ _, List.forall_mem_cons.2 ⟨PNum.st _, List.forall_mem_cons.2 ⟨PEq.st _, List.forall_mem_cons.2 ⟨PBox.st _, List.forall_mem_cons.2 ⟨Fact.none_st, List.forall_mem_cons.2 ⟨Fact.none_st, List.forall_mem_nil _⟩⟩⟩⟩⟩⟩⟩⟩⟩⟩⟩) _ ?hFr6 ?stepr6 ?later6 ?doner6
  case hFr6 => intro x; simp only [frameL, Act.put, List.setIfInBounds_toArray, List.set_cons_zero, List.set_cons_succ, Nat.zero_add, Nat.reduceAdd]; exact rfl
  case stepr6 =>
    refine List.forall_mem_cons.2 ⟨?_, ?_⟩
    · intro xv bv ev WW hB hdp
      refine op_of rfl ?_
      obtain ⟨xa, xk, ed5, hx⟩ := (show (PTup (X) (.bool true)) (xv 5) (bv 5) (ev 5) WW from hdp 5 (by kernel_rfl))
      clear hdp
      intro KK hKK
      go_simp
      exact act_eq (hKK.out _ _ (Below.refl _ _) rfl) (by first | rfl | simp [upd, ed5])
    refine List.forall_mem_cons.2 ⟨?_, ?_⟩
    · intro xv bv ev WW hB hdp
      refine op_of rfl ?_
      clear hdp
      intro KK hKK
      obtain ⟨z, -, -, -, -⟩ := bx0.out.below hB
      go_simp
      exact act_eq (hKK.out (.agg #[.slice bo (len P) cb]) _ (Below.refl _ _) rfl) (by first | rfl | simp [upd])
    refine List.forall_mem_cons.2 ⟨?_, ?_⟩
    · intro xv bv ev WW hB hdp
      refine op_of rfl ?_
      clear hdp
      intro KK hKK
      obtain ⟨z, -, -, -, -⟩ := bx1.out.below hB
      go_simp
      exact act_eq (hKK.out (.agg #[.slice dq (len Q) cd]) _ (Below.refl _ _) rfl) (by first | rfl | simp [upd])
    refine List.forall_mem_cons.2 ⟨?_, ?_⟩
    · intro xv bv ev WW hB hdp
      refine op_of rfl ?_
      have ed0 : xv 0 = .agg #[.slice bo (len P) cb] := hdp 0 (by kernel_rfl)
      have ed1 : xv 1 = .agg #[.slice dq (len Q) cd] := hdp 1 (by kernel_rfl)
      clear hdp
      intro KK hKK
      go_simp
      refine (CR1.out _ ((E7.out.below hB).nt 2 rfl) ((E7.out.below hB).nt 0 rfl)).mono ?_
      rintro e WW' ⟨⟨ra, rk, rfl, hr⟩, hb⟩
      (try dsimp only)
      (try simp only [Act.put, List.setIfInBounds_toArray, List.set_cons_zero, List.set_cons_succ])
      exact act_eq (hKK.out _ _ hb ⟨_, _, rfl, hr⟩) (by first | rfl | simp [upd, ed0, ed1])
    refine List.forall_mem_cons.2 ⟨?_, ?_⟩
    · intro xv bv ev WW hB hdp
      refine op_of rfl ?_
      clear hdp
      intro KK hKK
      obtain ⟨z, -, -, -, -⟩ := bx1.out.below hB
      go_simp
      exact act_eq (hKK.out (.agg #[.slice dq (len Q) cd]) _ (Below.refl _ _) rfl) (by first | rfl | simp [upd])
    refine List.forall_mem_cons.2 ⟨?_, ?_⟩
    · intro xv bv ev WW hB hdp
      refine op_of rfl ?_
      obtain ⟨ra, rk, ed2, hr⟩ := (show (PNum (R)) (xv 2) (bv 2) (ev 2) WW from hdp 2 (by kernel_rfl))
      have ed3 : xv 3 = .agg #[.slice dq (len Q) cd] := hdp 3 (by kernel_rfl)
      clear hdp
      intro KK hKK
      go_simp
      refine (CI.out _ _ _ hr.out ((E7.out.below hB).nt 0 rfl)).mono ?_
      rintro e WW' ⟨⟨xa, xk, rfl, hx⟩, hb⟩
      (try dsimp only)
      (try simp only [Act.put, List.setIfInBounds_toArray, List.set_cons_zero, List.set_cons_succ])
      exact act_eq (hKK.out _ _ hb ⟨_, _, rfl, hx⟩) (by first | rfl | simp [upd, ed2, ed3])
    refine List.forall_mem_cons.2 ⟨?_, ?_⟩
    · intro xv bv ev WW hB hdp
      refine op_of rfl ?_
      obtain ⟨xa, xk, ed4, hx⟩ := (show (PTup (X) (.bool true)) (xv 4) (bv 4) (ev 4) WW from hdp 4 (by kernel_rfl))
      clear hdp
      intro KK hKK
      go_simp
      exact act_eq (hKK.out _ _ (Below.refl _ _) ⟨_, _, rfl, hx⟩) (by first | rfl | simp [upd, ed4])
    refine List.forall_mem_cons.2 ⟨?_, ?_⟩
    · intro xv bv ev WW hB hdp
      refine op_of rfl ?_
      obtain ⟨xa, xk, ed5, hx⟩ := (show (PTup (X) (.bool true)) (xv 5) (bv 5) (ev 5) WW from hdp 5 (by kernel_rfl))
      clear hdp
      intro KK hKK
      go_simp
      exact act_eq (hKK.out _ _ (Below.refl _ _) ⟨_, _, rfl, hx⟩) (by first | rfl | simp [upd, ed5])
    refine List.forall_mem_cons.2 ⟨?_, ?_⟩
    · intro xv bv ev WW hB hdp
      refine op_of rfl ?_
      clear hdp
      intro KK hKK
      go_simp
      exact act_eq (hKK.out (.pointer (some ⟨WW.heap.size, 0, none⟩)) _ (below_one _ _) (PBox.mk hB rfl _)) (by first | rfl | simp [upd])
    exact List.forall_mem_nil _
  case later6 =>
    intro xv bv ev WW hB hR
    obtain ⟨xa, xk, ed5, hx⟩ := (show (PTup (X) (.bool true)) (xv 5) (bv 5) (ev 5) WW from hR 5 (by kernel_rfl))
    refine ⟨.bool true, rfl, fun hw => ?_⟩
    refine takeP (i := 7) (some 58) (v := .bool true) rfl rfl (by kernel_rfl) (by kernel_rfl) (by kernel_rfl) (fun _ _ _ h => h) (by rfl) ?_ ?_
    · (intro wS; go_simp; try with_reducible rfl)
    rw [show (#[true, true, true, true, true, true, true, false, true, false, false] : Array Bool).setIfInBounds 7 true = #[true, true, true, true, true, true, true, true, true, false, false] from by kernel_rfl]
    exact hw
  intro xv bv ev w7 hB hR hO
  have ed0 : xv 0 = .agg #[.slice bo (len P) cb] := hR 0 (by kernel_rfl)
  have ed1 : xv 1 = .agg #[.slice dq (len Q) cd] := hR 1 (by kernel_rfl)
  obtain ⟨ra, rk, ed2, hr⟩ := (show (PNum (R)) (xv 2) (bv 2) (ev 2) w7 from hR 2 (by kernel_rfl))
  have ed3 : xv 3 = .agg #[.slice dq (len Q) cd] := hR 3 (by kernel_rfl)
  obtain ⟨xa, xk, ed6, hx⟩ := (show (PNum (X)) (xv 6) (bv 6) (ev 6) w7 from hR 6 (by kernel_rfl))
  have ed7 : xv 7 = .bool true := hR 7 (by kernel_rfl)
  obtain ⟨gr6_8, ed8, hg8, hb8, he8, hc8, hf8, hs8⟩ := (show (PBox w6.heap.size) (xv 8) (bv 8) (ev 8) w7 from hR 8 (by kernel_rfl))
  simp only [ed0, ed1, ed2, ed3, ed6, ed7, ed8]
  have E8 : Hid (EnvB w [(gr6_8, .slice none 0 0), (w.heap.size + 1 + 1 + 1 + 1, .slice none 0 0), (w.heap.size + 1 + 1 + 1, .slice dq (len Q) cd), (w.heap.size + 1 + 1, .slice co (len B) cc), (w.heap.size + 1, .slice bo (len P) cb), (w.heap.size, .slice ao (len A) ca)] [(.slice xa (len X) xk, digs X), (.slice ra (len R) rk, digs R), (.slice dq (len Q) cd, digs Q), (.slice co (len B) cc, digs B), (.slice bo (len P) cb, digs P), (.slice ao (len A) ca, digs A)] _) := Lib.hid (((((E7.out.below hB).add gr6_8 (.slice none 0 0) ⟨hc8, hf8, hs8, Nat.le_trans E7.out.size hg8, ⟨_, _, _, rfl⟩⟩ (fun p hp => by have := E7.out.old p hp; omega)).numN (hr.out : Nt _ _ (R))).numN (hx.out : Nt _ _ (X))))
  clear E7 hB hR hO bx0 bx1 ed0 ed1 ed2 ed3 ed6 ed7 ed8 hr hx hg8 hb8 he8 hc8 hf8 hs8
  obtain ⟨p8, f8, -, -, -⟩ := E8.out.box 0 rfl
  refine wpAny_next (i := 9) (by kernel_rfl) rfl (fun KK hKK => ?_)
  go_simp
  have E9 : Hid (EnvB w [(gr6_8, .slice xa (len X) xk), (w.heap.size + 1 + 1 + 1 + 1, .slice none 0 0), (w.heap.size + 1 + 1 + 1, .slice dq (len Q) cd), (w.heap.size + 1 + 1, .slice co (len B) cc), (w.heap.size + 1, .slice bo (len P) cb), (w.heap.size, .slice ao (len A) ca)] [(.slice xa (len X) xk, digs X), (.slice ra (len R) rk, digs R), (.slice dq (len Q) cd, digs Q), (.slice co (len B) cc, digs B), (.slice bo (len P) cb, digs P), (.slice ao (len A) ca, digs A)] _) := Lib.hid ((E8.out.set 0 (.slice xa (len X) xk) rfl ⟨_, _, _, rfl⟩))
  refine hKK.out _ _ ?_
  clear hKK KK
  refine wpAny_next (i := 10) (by kernel_rfl) rfl (fun KK hKK => ?_)
  go_simp
  refine hKK.out _ _ ?_
  clear hKK KK
  refine wpAny_done (by kernel_rfl) ?_ _
  obtain ⟨p9, f9, -, -, -⟩ := E9.out.box 4 rfl
  obtain ⟨p10, f10, -, -, -⟩ := E9.out.box 2 rfl
  go_wp2_with fail
  refine (CP.out _ (E9.out.nt 4 rfl) (E9.out.nt 2 rfl)).mono ?_
  rintro e w8 ⟨⟨ma, mk, rfl, hm⟩, hb⟩
  have E10 : Hid (EnvB w [(gr6_8, .slice xa (len X) xk), (w.heap.size + 1 + 1 + 1 + 1, .slice none 0 0), (w.heap.size + 1 + 1 + 1, .slice dq (len Q) cd), (w.heap.size + 1 + 1, .slice co (len B) cc), (w.heap.size + 1, .slice bo (len P) cb), (w.heap.size, .slice ao (len A) ca)] [(.slice ma (len M) mk, digs M), (.slice xa (len X) xk, digs X), (.slice ra (len R) rk, digs R), (.slice dq (len Q) cd, digs Q), (.slice co (len B) cc, digs B), (.slice bo (len P) cb, digs P), (.slice ao (len A) ca, digs A)] _) := Lib.hid (((E9.out.below hb).numN (hm.out : Nt _ _ M)))
  clear p8 f8 p9 f9 p10 f10 E9 E8 hb hm
  go_wp2_with fail
  have E11 : Hid (EnvB w [(w8.heap.size, .slice ma (len M) mk), (gr6_8, .slice xa (len X) xk), (w.heap.size + 1 + 1 + 1 + 1, .slice none 0 0), (w.heap.size + 1 + 1 + 1, .slice dq (len Q) cd), (w.heap.size + 1 + 1, .slice co (len B) cc), (w.heap.size + 1, .slice bo (len P) cb), (w.heap.size, .slice ao (len A) ca)] [(.slice ma (len M) mk, digs M), (.slice xa (len X) xk, digs X), (.slice ra (len R) rk, digs R), (.slice dq (len Q) cd, digs Q), (.slice co (len B) cc, digs B), (.slice bo (len P) cb, digs P), (.slice ao (len A) ca, digs A)] _) := Lib.hid ((E10.out.push (.slice ma (len M) mk) 24 ⟨_, _, _, rfl⟩ (w8.heap.size) (by simp)))
  refine (CM3.out _ _ (E11.out.nt 0 rfl)).mono ?_
  rintro e w9 ⟨rfl, hb⟩
  have E12 : Hid (EnvB w [(w8.heap.size, .slice ma (len M) mk), (gr6_8, .slice xa (len X) xk), (w.heap.size + 1 + 1 + 1 + 1, .slice none 0 0), (w.heap.size + 1 + 1 + 1, .slice dq (len Q) cd), (w.heap.size + 1 + 1, .slice co (len B) cc), (w.heap.size + 1, .slice bo (len P) cb), (w.heap.size, .slice ao (len A) ca)] [(.slice ma (len M) mk, digs M), (.slice xa (len X) xk, digs X), (.slice ra (len R) rk, digs R), (.slice dq (len Q) cd, digs Q), (.slice co (len B) cc, digs B), (.slice bo (len P) cb, digs P), (.slice ao (len A) ca, digs A)] _) := Lib.hid ((E11.out.below hb))
  clear E11 E10 hb
  go_wp2_with fail
  have bx0 := Lib.hid (E12.out.box 4 rfl)
  have bx1 := Lib.hid (E12.out.box 6 rfl)
  have bx2 := Lib.hid (E12.out.box 3 rfl)
  have bx3 := Lib.hid (E12.out.box 1 rfl)
  refine' wp_region_phase (by kernel_rfl) [0, 1, 2, 3, 4, 5, 6, 7, 8, 9] (by kernel_rfl) #[true, true, true, true, true, true, true, true, true, true, false] (by kernel_rfl) 1 (by kernel_rfl) [PEq (.agg #[.slice co (len B) cc]), PEq (.agg #[.slice ao (len A) ca]), PEq (.agg #[.slice dq (len Q) cd]), PNum (J), PEq (.agg #[.slice dq (len Q) cd]), PNum (D), PEq (.agg #[.slice xa (len X) xk]), PEq (.agg #[.slice dq (len Q) cd]), PNum (Y), PBox w9.heap.size, Fact.none] (List.forall_mem_cons.2 ⟨PEq.st _, List.forall_mem_cons.2 ⟨PEq.st _, List.forall_mem_cons.2 ⟨PEq.st _, List.forall_mem_cons.2 ⟨PNum.st _, List.forall_mem_cons.2 ⟨PEq.st _, List.forall_mem_cons.2 ⟨PNum.st _, List.forall_mem_cons.2 ⟨PEq.st _, List.forall_mem_cons.2 ⟨PEq.st _, List.forall_mem_cons.2 ⟨PNum.st _, List.forall_mem_cons.2 ⟨PBox.st _, List.forall_mem_cons.2 ⟨Fact.none_st, List.forall_mem_nil _⟩⟩⟩⟩⟩⟩⟩⟩⟩⟩⟩) _ ?hFr9 ?stepr9 ?doner9
  case hFr9 => intro x; simp only [frameL, Act.put, List.setIfInBounds_toArray, List.set_cons_zero, List.set_cons_succ, Nat.zero_add, Nat.reduceAdd]; exact rfl
  case stepr9 =>
    refine List.forall_mem_cons.2 ⟨?_, ?_⟩
    · intro xv bv ev WW hB hdp
      refine op_of rfl ?_
      clear hdp
      intro KK hKK
      obtain ⟨z, -, -, -, -⟩ := bx0.out.below hB
      go_simp
      exact act_eq (hKK.out (.agg #[.slice co (len B) cc]) _ (Below.refl _ _) rfl) (by first | rfl | simp [upd])
    refine List.forall_mem_cons.2 ⟨?_, ?_⟩
    · intro xv bv ev WW hB hdp
      refine op_of rfl ?_
      clear hdp
      intro KK hKK
      obtain ⟨z, -, -, -, -⟩ := bx1.out.below hB
      go_simp
      exact act_eq (hKK.out (.agg #[.slice ao (len A) ca]) _ (Below.refl _ _) rfl) (by first | rfl | simp [upd])
    refine List.forall_mem_cons.2 ⟨?_, ?_⟩
    · intro xv bv ev WW hB hdp
      refine op_of rfl ?_
      clear hdp
      intro KK hKK
      obtain ⟨z, -, -, -, -⟩ := bx2.out.below hB
      go_simp
      exact act_eq (hKK.out (.agg #[.slice dq (len Q) cd]) _ (Below.refl _ _) rfl) (by first | rfl | simp [upd])
    refine List.forall_mem_cons.2 ⟨?_, ?_⟩
    · intro xv bv ev WW hB hdp
      refine op_of rfl ?_
      have ed1 : xv 1 = .agg #[.slice ao (len A) ca] := hdp 1 (by kernel_rfl)
      have ed2 : xv 2 = .agg #[.slice dq (len Q) cd] := hdp 2 (by kernel_rfl)
      clear hdp
      intro KK hKK
      go_simp
      refine (CR2.out _ ((E12.out.below hB).nt 6 rfl) ((E12.out.below hB).nt 3 rfl)).mono ?_
      rintro e WW' ⟨⟨ja, jk, rfl, hj⟩, hb⟩
      (try dsimp only)
      (try simp only [Act.put, List.setIfInBounds_toArray, List.set_cons_zero, List.set_cons_succ])
      exact act_eq (hKK.out _ _ hb ⟨_, _, rfl, hj⟩) (by first | rfl | simp [upd, ed1, ed2])
    refine List.forall_mem_cons.2 ⟨?_, ?_⟩
    · intro xv bv ev WW hB hdp
      refine op_of rfl ?_
      clear hdp
      intro KK hKK
      obtain ⟨z, -, -, -, -⟩ := bx2.out.below hB
      go_simp
      exact act_eq (hKK.out (.agg #[.slice dq (len Q) cd]) _ (Below.refl _ _) rfl) (by first | rfl | simp [upd])
    refine List.forall_mem_cons.2 ⟨?_, ?_⟩
    · intro xv bv ev WW hB hdp
      refine op_of rfl ?_
      have ed0 : xv 0 = .agg #[.slice co (len B) cc] := hdp 0 (by kernel_rfl)
      obtain ⟨ja, jk, ed3, hj⟩ := (show (PNum (J)) (xv 3) (bv 3) (ev 3) WW from hdp 3 (by kernel_rfl))
      have ed4 : xv 4 = .agg #[.slice dq (len Q) cd] := hdp 4 (by kernel_rfl)
      clear hdp
      intro KK hKK
      go_simp
      refine (CS.out _ _ ((E12.out.below hB).nt 4 rfl) hj.out ((E12.out.below hB).nt 3 rfl)).mono ?_
      rintro e WW' ⟨⟨da, dk, rfl, hd⟩, hb⟩
      (try dsimp only)
      (try simp only [Act.put, List.setIfInBounds_toArray, List.set_cons_zero, List.set_cons_succ])
      exact act_eq (hKK.out _ _ hb ⟨_, _, rfl, hd⟩) (by first | rfl | simp [upd, ed0, ed3, ed4])
    refine List.forall_mem_cons.2 ⟨?_, ?_⟩
    · intro xv bv ev WW hB hdp
      refine op_of rfl ?_
      clear hdp
      intro KK hKK
      obtain ⟨z, -, -, -, -⟩ := bx3.out.below hB
      go_simp
      exact act_eq (hKK.out (.agg #[.slice xa (len X) xk]) _ (Below.refl _ _) rfl) (by first | rfl | simp [upd])
    refine List.forall_mem_cons.2 ⟨?_, ?_⟩
    · intro xv bv ev WW hB hdp
      refine op_of rfl ?_
      clear hdp
      intro KK hKK
      obtain ⟨z, -, -, -, -⟩ := bx2.out.below hB
      go_simp
      exact act_eq (hKK.out (.agg #[.slice dq (len Q) cd]) _ (Below.refl _ _) rfl) (by first | rfl | simp [upd])
    refine List.forall_mem_cons.2 ⟨?_, ?_⟩
    · intro xv bv ev WW hB hdp
      refine op_of rfl ?_
      obtain ⟨da, dk, ed5, hd⟩ := (show (PNum (D)) (xv 5) (bv 5) (ev 5) WW from hdp 5 (by kernel_rfl))
      have ed6 : xv 6 = .agg #[.slice xa (len X) xk] := hdp 6 (by kernel_rfl)
      have ed7 : xv 7 = .agg #[.slice dq (len Q) cd] := hdp 7 (by kernel_rfl)
      clear hdp
      intro KK hKK
      go_simp
      refine (CK.out _ _ _ hd.out ((E12.out.below hB).nt 1 rfl) ((E12.out.below hB).nt 3 rfl)).mono ?_
      rintro e WW' ⟨⟨ya, yk, rfl, hy⟩, hb⟩
      (try dsimp only)
      (try simp only [Act.put, List.setIfInBounds_toArray, List.set_cons_zero, List.set_cons_succ])
      exact act_eq (hKK.out _ _ hb ⟨_, _, rfl, hy⟩) (by first | rfl | simp [upd, ed5, ed6, ed7])
    refine List.forall_mem_cons.2 ⟨?_, ?_⟩
    · intro xv bv ev WW hB hdp
      refine op_of rfl ?_
      clear hdp
      intro KK hKK
      go_simp
      exact act_eq (hKK.out (.pointer (some ⟨WW.heap.size, 0, none⟩)) _ (below_one _ _) (PBox.mk hB rfl _)) (by first | rfl | simp [upd])
    exact List.forall_mem_nil _
  intro xv bv ev w10 hB hR hO
  have ed0 : xv 0 = .agg #[.slice co (len B) cc] := hR 0 (by kernel_rfl)
  have ed1 : xv 1 = .agg #[.slice ao (len A) ca] := hR 1 (by kernel_rfl)
  have ed2 : xv 2 = .agg #[.slice dq (len Q) cd] := hR 2 (by kernel_rfl)
  obtain ⟨ja, jk, ed3, hj⟩ := (show (PNum (J)) (xv 3) (bv 3) (ev 3) w10 from hR 3 (by kernel_rfl))
  have ed4 : xv 4 = .agg #[.slice dq (len Q) cd] := hR 4 (by kernel_rfl)
  obtain ⟨da, dk, ed5, hd⟩ := (show (PNum (D)) (xv 5) (bv 5) (ev 5) w10 from hR 5 (by kernel_rfl))
  have ed6 : xv 6 = .agg #[.slice xa (len X) xk] := hR 6 (by kernel_rfl)
  have ed7 : xv 7 = .agg #[.slice dq (len Q) cd] := hR 7 (by kernel_rfl)
  obtain ⟨ya, yk, ed8, hy⟩ := (show (PNum (Y)) (xv 8) (bv 8) (ev 8) w10 from hR 8 (by kernel_rfl))
  obtain ⟨gr9_9, ed9, hg9, hb9, he9, hc9, hf9, hs9⟩ := (show (PBox w9.heap.size) (xv 9) (bv 9) (ev 9) w10 from hR 9 (by kernel_rfl))
  simp only [ed0, ed1, ed2, ed3, ed4, ed5, ed6, ed7, ed8, ed9]
  have E13 : Hid (EnvB w [(gr9_9, .slice none 0 0), (w8.heap.size, .slice ma (len M) mk), (gr6_8, .slice xa (len X) xk), (w.heap.size + 1 + 1 + 1 + 1, .slice none 0 0), (w.heap.size + 1 + 1 + 1, .slice dq (len Q) cd), (w.heap.size + 1 + 1, .slice co (len B) cc), (w.heap.size + 1, .slice bo (len P) cb), (w.heap.size, .slice ao (len A) ca)] [(.slice ya (len Y) yk, digs Y), (.slice da (len D) dk, digs D), (.slice ja (len J) jk, digs J), (.slice ma (len M) mk, digs M), (.slice xa (len X) xk, digs X), (.slice ra (len R) rk, digs R), (.slice dq (len Q) cd, digs Q), (.slice co (len B) cc, digs B), (.slice bo (len P) cb, digs P), (.slice ao (len A) ca, digs A)] _) := Lib.hid ((((((E12.out.below hB).add gr9_9 (.slice none 0 0) ⟨hc9, hf9, hs9, Nat.le_trans E12.out.size hg9, ⟨_, _, _, rfl⟩⟩ (fun p hp => by have := E12.out.old p hp; omega)).numN (hj.out : Nt _ _ (J))).numN (hd.out : Nt _ _ (D))).numN (hy.out : Nt _ _ (Y))))
  clear E12 hB hR hO bx0 bx1 bx2 bx3 ed0 ed1 ed2 ed3 ed4 ed5 ed6 ed7 ed8 ed9 hj hd hy hg9 hb9 he9 hc9 hf9 hs9
  obtain ⟨p11, f11, -, -, -⟩ := E13.out.box 0 rfl
  refine wpAny_next (i := 10) (by kernel_rfl) rfl (fun KK hKK => ?_)
  go_simp
  have E14 : Hid (EnvB w [(gr9_9, .slice ya (len Y) yk), (w8.heap.size, .slice ma (len M) mk), (gr6_8, .slice xa (len X) xk), (w.heap.size + 1 + 1 + 1 + 1, .slice none 0 0), (w.heap.size + 1 + 1 + 1, .slice dq (len Q) cd), (w.heap.size + 1 + 1, .slice co (len B) cc), (w.heap.size + 1, .slice bo (len P) cb), (w.heap.size, .slice ao (len A) ca)] [(.slice ya (len Y) yk, digs Y), (.slice da (len D) dk, digs D), (.slice ja (len J) jk, digs J), (.slice ma (len M) mk, digs M), (.slice xa (len X) xk, digs X), (.slice ra (len R) rk, digs R), (.slice dq (len Q) cd, digs Q), (.slice co (len B) cc, digs B), (.slice bo (len P) cb, digs P), (.slice ao (len A) ca, digs A)] _) := Lib.hid ((E13.out.set 0 (.slice ya (len Y) yk) rfl ⟨_, _, _, rfl⟩))
  refine hKK.out _ _ ?_
  clear hKK KK
  refine wpAny_done (by kernel_rfl) ?_ _
  obtain ⟨p12, f12, -, -, -⟩ := E14.out.box 6 rfl
  obtain ⟨p13, f13, -, -, -⟩ := E14.out.box 0 rfl
  go_wp2_with fail
  refine (CT.out _ _ (E14.out.nt 8 rfl) (E14.out.nt 0 rfl)).mono ?_
  rintro e w11 ⟨⟨ua, uk, rfl, hu⟩, hb⟩
  have E15 : Hid (EnvB w [(gr9_9, .slice ya (len Y) yk), (w8.heap.size, .slice ma (len M) mk), (gr6_8, .slice xa (len X) xk), (w.heap.size + 1 + 1 + 1 + 1, .slice none 0 0), (w.heap.size + 1 + 1 + 1, .slice dq (len Q) cd), (w.heap.size + 1 + 1, .slice co (len B) cc), (w.heap.size + 1, .slice bo (len P) cb), (w.heap.size, .slice ao (len A) ca)] [(.slice ua (len U) uk, digs U), (.slice ya (len Y) yk, digs Y), (.slice da (len D) dk, digs D), (.slice ja (len J) jk, digs J), (.slice ma (len M) mk, digs M), (.slice xa (len X) xk, digs X), (.slice ra (len R) rk, digs R), (.slice dq (len Q) cd, digs Q), (.slice co (len B) cc, digs B), (.slice bo (len P) cb, digs P), (.slice ao (len A) ca, digs A)] _) := Lib.hid (((E14.out.below hb).numN (hu.out : Nt _ _ U)))
  clear p11 f11 p12 f12 p13 f13 E14 E13 hb hu
  have E16 : Hid (EnvB w [(w11.heap.size, .slice ua (len U) uk), (gr9_9, .slice ya (len Y) yk), (w8.heap.size, .slice ma (len M) mk), (gr6_8, .slice xa (len X) xk), (w.heap.size + 1 + 1 + 1 + 1, .slice none 0 0), (w.heap.size + 1 + 1 + 1, .slice dq (len Q) cd), (w.heap.size + 1 + 1, .slice co (len B) cc), (w.heap.size + 1, .slice bo (len P) cb), (w.heap.size, .slice ao (len A) ca)] [(.slice ua (len U) uk, digs U), (.slice ya (len Y) yk, digs Y), (.slice da (len D) dk, digs D), (.slice ja (len J) jk, digs J), (.slice ma (len M) mk, digs M), (.slice xa (len X) xk, digs X), (.slice ra (len R) rk, digs R), (.slice dq (len Q) cd, digs Q), (.slice co (len B) cc, digs B), (.slice bo (len P) cb, digs P), (.slice ao (len A) ca, digs A)] _) := Lib.hid ((E15.out.push (.slice ua (len U) uk) 24 ⟨_, _, _, rfl⟩ (w11.heap.size) (by simp)))
  obtain ⟨p14, f14, -, -, -⟩ := E16.out.box 8 rfl
  obtain ⟨p15, f15, -, -, -⟩ := E16.out.box 0 rfl
  go_wp2_with fail
  refine (CA.out _ _ (E16.out.nt 10 rfl) (E16.out.nt 0 rfl)).mono ?_
  rintro e w12 ⟨⟨za, zk, rfl, hz⟩, hb⟩
  have E17 : Hid (EnvB w [(w11.heap.size, .slice ua (len U) uk), (gr9_9, .slice ya (len Y) yk), (w8.heap.size, .slice ma (len M) mk), (gr6_8, .slice xa (len X) xk), (w.heap.size + 1 + 1 + 1 + 1, .slice none 0 0), (w.heap.size + 1 + 1 + 1, .slice dq (len Q) cd), (w.heap.size + 1 + 1, .slice co (len B) cc), (w.heap.size + 1, .slice bo (len P) cb), (w.heap.size, .slice ao (len A) ca)] [(.slice za (len Z) zk, digs Z), (.slice ua (len U) uk, digs U), (.slice ya (len Y) yk, digs Y), (.slice da (len D) dk, digs D), (.slice ja (len J) jk, digs J), (.slice ma (len M) mk, digs M), (.slice xa (len X) xk, digs X), (.slice ra (len R) rk, digs R), (.slice dq (len Q) cd, digs Q), (.slice co (len B) cc, digs B), (.slice bo (len P) cb, digs P), (.slice ao (len A) ca, digs A)] _) := Lib.hid (((E16.out.below hb).numN (hz.out : Nt _ _ Z)))
  clear p14 f14 p15 f15 E16 E15 hb hz
  have E18 : Hid (EnvB w [(w12.heap.size, .slice za (len Z) zk), (w11.heap.size, .slice ua (len U) uk), (gr9_9, .slice ya (len Y) yk), (w8.heap.size, .slice ma (len M) mk), (gr6_8, .slice xa (len X) xk), (w.heap.size + 1 + 1 + 1 + 1, .slice none 0 0), (w.heap.size + 1 + 1 + 1, .slice dq (len Q) cd), (w.heap.size + 1 + 1, .slice co (len B) cc), (w.heap.size + 1, .slice bo (len P) cb), (w.heap.size, .slice ao (len A) ca)] [(.slice za (len Z) zk, digs Z), (.slice ua (len U) uk, digs U), (.slice ya (len Y) yk, digs Y), (.slice da (len D) dk, digs D), (.slice ja (len J) jk, digs J), (.slice ma (len M) mk, digs M), (.slice xa (len X) xk, digs X), (.slice ra (len R) rk, digs R), (.slice dq (len Q) cd, digs Q), (.slice co (len B) cc, digs B), (.slice bo (len P) cb, digs P), (.slice ao (len A) ca, digs A)] _) := Lib.hid ((E17.out.push (.slice za (len Z) zk) 24 ⟨_, _, _, rfl⟩ (w12.heap.size) (by simp)))
  obtain ⟨p16, f16, -, -, -⟩ := E18.out.box 5 rfl
  have E19 : Hid (EnvB w [(w12.heap.size, .slice za (len Z) zk), (w11.heap.size, .slice ua (len U) uk), (gr9_9, .slice ya (len Y) yk), (w8.heap.size, .slice ma (len M) mk), (gr6_8, .slice xa (len X) xk), (w.heap.size + 1 + 1 + 1 + 1, .slice za (len Z) zk), (w.heap.size + 1 + 1 + 1, .slice dq (len Q) cd), (w.heap.size + 1 + 1, .slice co (len B) cc), (w.heap.size + 1, .slice bo (len P) cb), (w.heap.size, .slice ao (len A) ca)] [(.slice za (len Z) zk, digs Z), (.slice ua (len U) uk, digs U), (.slice ya (len Y) yk, digs Y), (.slice da (len D) dk, digs D), (.slice ja (len J) jk, digs J), (.slice ma (len M) mk, digs M), (.slice xa (len X) xk, digs X), (.slice ra (len R) rk, digs R), (.slice dq (len Q) cd, digs Q), (.slice co (len B) cc, digs B), (.slice bo (len P) cb, digs P), (.slice ao (len A) ca, digs A)] _) := Lib.hid ((E18.out.set 5 (.slice za (len Z) zk) rfl ⟨_, _, _, rfl⟩))
  have hfin := Lib.hid E19.out
  obtain ⟨rc, -, -, -, -⟩ := E19.out.box 5 rfl
  go_wp2
  exact bodyPost_ret (v := .tuple #[.agg #[.slice za (len Z) zk], .int .i64 0]) (by simp [results, Try.results14, go_sem, rc]) rfl ⟨⟨_, _, rfl, Lib.hid (hfin.out.nt 0 rfl)⟩, hfin.out.1⟩
end Go.Proofs.Ythphmgdmhlimjaa
