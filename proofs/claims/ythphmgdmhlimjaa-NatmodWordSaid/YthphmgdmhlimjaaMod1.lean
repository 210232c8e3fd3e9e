/- Package natmod: small numbers, rest, less, modulus, add, sub, mul. -/
import Derived.Test.YthphmgdmhlimjaaModEnv
import Derived.Test.YthphmgdmhlimjaaModMath
namespace Go.Proofs.Ythphmgdmhlimjaa
open Go.RowKit NatMath
set_option linter.unusedVariables false

section
variable {a b : Value} {N M q r S : Nat} {w : World}
theorem BigPost.fit {S n : Nat} {e : Ending} {w' : World} (h : BigPost S n e w') (hl : len S ≤ 64) : ResN S 0 e w' := by
  rcases h with ⟨_, v, hv, rfl⟩ | ⟨h, _⟩
  · have hN := hv.out.1
    obtain ⟨ao, c, rfl, _⟩ := hN.open
    exact ⟨ao, c, rfl, Lib.hid hN⟩
  · exact absurd hl h
theorem RetN.res {S n : Nat} {e : Ending} {w' : World} (h : RetN (fun w' v' => Nt w' v' S ∧ Fr n v') e w') : ResN S 0 e w' := by
  obtain ⟨v, hv, rfl⟩ := h
  have hN := hv.out.1
  obtain ⟨ao, c, rfl, _⟩ := hN.open
  exact ⟨ao, c, rfl, Lib.hid hN⟩
theorem addF (hS : N + M = S) (hl : len S ≤ 64) (ha : Nt w a N) (hb : Nt w b M) (h1 : len N ≤ 64) (h2 : len M ≤ 64) :
    Calls Try.prog 56 #[.agg #[a], .agg #[b]] w fun e w' => ResN S 0 e w' ∧ Below w.heap.size w w' := by
  subst hS; exact (Add_ok a b N M w ha hb h1 h2).mono (fun e w' h => And.intro (h.1.fit hl) h.2)
theorem mulF (hS : N * M = S) (hl : len S ≤ 64) (ha : Nt w a N) (hb : Nt w b M) (h1 : len N ≤ 64) (h2 : len M ≤ 64) :
    Calls Try.prog 35 #[.agg #[a], .agg #[b]] w fun e w' => ResN S 0 e w' ∧ Below w.heap.size w w' := by
  subst hS; exact (Mul_ok a b N M w ha hb h1 h2).mono (fun e w' h => And.intro (h.1.fit hl) h.2)
theorem subF (hS : N - M = S) (hle : M ≤ N) (ha : Nt w a N) (hb : Nt w b M) (h1 : len N ≤ 64) (h2 : len M ≤ 64) :
    Calls Try.prog 84 #[.agg #[a], .agg #[b]] w fun e w' => ResN S 0 e w' ∧ Below w.heap.size w w' := by
  subst hS; exact (Sub_ok a b N M w ha hb h1 h2 hle).mono (fun e w' h => And.intro h.1.res h.2)
theorem divF (hq : N / M = q) (hr : N % M = r) (ha : Nt w a N) (hb : Nt w b M) (h1 : len N ≤ 64) (h2 : len M ≤ 64) (h0 : M ≠ 0) :
    Calls Try.prog 32 #[.agg #[a], .agg #[b]] w fun e w' => ResD q r 0 e w' ∧ Below w.heap.size w w' := by
  subst hq hr
  refine (Div_c a b N M w ha hb h1 h2 h0).mono ?_
  rintro e w' ⟨⟨u, v, h, rfl⟩, hb⟩
  obtain ⟨k1, _, k2, _⟩ := h.out
  obtain ⟨qa, qk, rfl, _⟩ := k1.open
  obtain ⟨ra, rk, rfl, _⟩ := k2.open
  exact ⟨⟨qa, qk, ra, rk, rfl, Lib.hid k1, Lib.hid k2⟩, hb⟩
theorem ofF (x : Nat) (w : World) (hx : (x : Int) ≤ 9223372036854775807) :
    Calls Try.prog 96 #[.int .i64 x] w fun e w' => ResN x 0 e w' ∧ Below w.heap.size w w' :=
  (Of_ok x w hx).mono (fun e w' h => And.intro h.1.res h.2)
theorem compareF {c : Int} (hc : cmp N M = c) (ha : Nt w a N) (hb : Nt w b M) (h1 : len N ≤ 64) (h2 : len M ≤ 64) :
    Calls Try.prog 82 #[.agg #[a], .agg #[b]] w fun e w' => e = .returned (.int .i64 c) ∧ Below w.heap.size w w' := by
  subst hc; exact Compare_c a b N M w ha hb h1 h2
theorem validF {l : List Nat} {t : Bool} (ht : vld l = t) (ha : Sl w a l) :
    Calls Try.prog 49 #[.agg #[a]] w fun e w' => e = .returned (.bool t) ∧ Below w.heap.size w w' := by
  subst ht; exact Valid_c a l w ha
theorem validN (h : len N ≤ 64) (ha : Nt w a N) :
    Calls Try.prog 49 #[.agg #[a]] w fun e w' => e = .returned (.bool true) ∧ Below w.heap.size w w' :=
  validF (by rw [vld_digs, decide_eq_true h]) ha
theorem bitsF {n : Nat} (hn : bl N = n) (h : len N ≤ 64) (ha : Nt w a N) :
    Calls Try.prog 75 #[.agg #[a]] w fun e w' => e = .returned (.int .i64 (n : Nat)) ∧ Below w.heap.size w w' := by
  subst hn; exact Bits_c a N w ha h
end

set_option maxHeartbeats 400000 in
theorem number_one (w : World) :
    Calls Try.prog 90 #[.int .i64 1] w fun e w' => RetV 1 e w' ∧ Below w.heap.size w w' := by
  go_enter Try.func90, Try.ntmps90
  go_wp2_with fail
  have E1 : Hid (EnvB w [(w.heap.size, .slice none 0 0)] [] _) := Lib.hid (((EnvB.start w).push (.slice none 0 0) 24 ⟨_, _, _, rfl⟩ (w.heap.size) (by simp)))
  refine (ofF 1 _ (by decide)).mono ?_
  rintro e w1 ⟨⟨ua, uk, rfl, hu⟩, hb⟩
  have E2 : Hid (EnvB w [(w.heap.size, .slice none 0 0)] [(.slice ua (len 1) uk, digs 1)] _) := Lib.hid (((E1.out.below hb).numN (hu.out : Nt _ _ 1)))
  clear E1 hb hu
  have E3 : Hid (EnvB w [(w1.heap.size, .slice ua (len 1) uk), (w.heap.size, .slice none 0 0)] [(.slice ua (len 1) uk, digs 1)] _) := Lib.hid ((E2.out.push (.slice ua (len 1) uk) 24 ⟨_, _, _, rfl⟩ (w1.heap.size) (by simp)))
  obtain ⟨p1, f1, -, -, -⟩ := E3.out.box 1 rfl
  have E4 : Hid (EnvB w [(w1.heap.size, .slice ua (len 1) uk), (w.heap.size, .slice ua (len 1) uk)] [(.slice ua (len 1) uk, digs 1)] _) := Lib.hid ((E3.out.set 1 (.slice ua (len 1) uk) rfl ⟨_, _, _, rfl⟩))
  have hfin := Lib.hid E4.out
  obtain ⟨rc, -, -, -, -⟩ := E4.out.box 1 rfl
  go_wp2
  exact bodyPost_ret (v := .agg #[.slice ua (len 1) uk]) (by simp [results, Try.results90, go_sem, rc]) rfl ⟨⟨_, _, rfl, Lib.hid (hfin.out.nt 0 rfl)⟩, hfin.out.1⟩

set_option maxHeartbeats 400000 in
theorem one_c (w : World) :
    Calls Try.prog 74 #[] w fun e w' => RetV 1 e w' ∧ Below w.heap.size w w' := by
  go_enter Try.func74, Try.ntmps74
  go_wp2_with fail
  have E1 : Hid (EnvB w [(w.heap.size, .slice none 0 0)] [] _) := Lib.hid (((EnvB.start w).push (.slice none 0 0) 24 ⟨_, _, _, rfl⟩ (w.heap.size) (by simp)))
  refine (number_one _).mono ?_
  rintro e w1 ⟨⟨ua, uk, rfl, hu⟩, hb⟩
  have E2 : Hid (EnvB w [(w.heap.size, .slice none 0 0)] [(.slice ua (len 1) uk, digs 1)] _) := Lib.hid (((E1.out.below hb).numN (hu.out : Nt _ _ 1)))
  clear E1 hb hu
  obtain ⟨p1, f1, -, -, -⟩ := E2.out.box 0 rfl
  have E3 : Hid (EnvB w [(w.heap.size, .slice ua (len 1) uk)] [(.slice ua (len 1) uk, digs 1)] _) := Lib.hid ((E2.out.set 0 (.slice ua (len 1) uk) rfl ⟨_, _, _, rfl⟩))
  have hfin := Lib.hid E3.out
  obtain ⟨rc, -, -, -, -⟩ := E3.out.box 0 rfl
  go_wp2
  exact bodyPost_ret (v := .agg #[.slice ua (len 1) uk]) (by simp [results, Try.results74, go_sem, rc]) rfl ⟨⟨_, _, rfl, Lib.hid (hfin.out.nt 0 rfl)⟩, hfin.out.1⟩

theorem RetV.zero (w' : World) : RetV 0 (.returned (.agg #[.slice none 0 0])) w' := ⟨none, 0, by rw [len_zero], Lib.hid (by rw [len_zero]; exact Nt.zero _)⟩
set_option maxHeartbeats 400000 in
theorem zero_c (w : World) :
    Calls Try.prog 83 #[] w fun e w' => RetV 0 e w' ∧ Below w.heap.size w w' := by
  go_enter Try.func83, Try.ntmps83
  go_wp2
  exact bodyPost_ret (v := .agg #[.slice none 0 0]) (by simp [results, Try.results83, go_sem]) rfl ⟨RetV.zero _, below_one _ _⟩

set_option maxRecDepth 100000 in
set_option maxHeartbeats 1000000 in
theorem rest_w (ao : Option Addr) (ca : Nat) (bo : Option Addr) (cb : Nat) (N M : Nat) (q r : Nat) (w : World) (ha : Nt w (.slice ao (len N) ca) N) (hb : Nt w (.slice bo (len M) cb) M) (hq : N / M = q) (hr : N % M = r) (h1 : len N ≤ 64) (h2 : len M ≤ 64) (h0 : M ≠ 0) :
    Calls Try.prog 53 #[.agg #[.slice ao (len N) ca], .agg #[.slice bo (len M) cb]] w fun e w' => RetV r e w' ∧ Below w.heap.size w w' := by
  have CD := Lib.hid (fun W ha hb => @divF (.slice ao (len N) ca) (.slice bo (len M) cb) N M q r W hq hr ha hb h1 h2 h0)
  clear h1 h2 h0 hq hr
  have E0 : Hid (EnvB w [] [(.slice bo (len M) cb, digs M), (.slice ao (len N) ca, digs N)] w) := Lib.hid (((EnvB.start w).numN ha).numN hb)
  clear ha hb
  go_enter Try.func53, Try.ntmps53
  go_wp2_with fail
  have E1 : Hid (EnvB w [(w.heap.size + 1 + 1, .slice none 0 0), (w.heap.size + 1, .slice bo (len M) cb), (w.heap.size, .slice ao (len N) ca)] [(.slice bo (len M) cb, digs M), (.slice ao (len N) ca, digs N)] _) := Lib.hid ((((E0.out.push (.slice ao (len N) ca) 24 ⟨_, _, _, rfl⟩ (w.heap.size) (by simp)).push (.slice bo (len M) cb) 24 ⟨_, _, _, rfl⟩ (w.heap.size + 1) (by simp)).push (.slice none 0 0) 24 ⟨_, _, _, rfl⟩ (w.heap.size + 1 + 1) (by simp)))
  refine (CD.out _ (E1.out.nt 1 rfl) (E1.out.nt 0 rfl)).mono ?_
  rintro e w1 ⟨⟨qa, qk, ra, rk, rfl, hq, hr⟩, hb⟩
  have E2 : Hid (EnvB w [(w.heap.size + 1 + 1, .slice none 0 0), (w.heap.size + 1, .slice bo (len M) cb), (w.heap.size, .slice ao (len N) ca)] [(.slice ra (len r) rk, digs r), (.slice qa (len q) qk, digs q), (.slice bo (len M) cb, digs M), (.slice ao (len N) ca, digs N)] _) := Lib.hid ((((E1.out.below hb).numN (hq.out : Nt _ _ q)).numN (hr.out : Nt _ _ r)))
  clear E1 E0 hb hq hr
  have E3 : Hid (EnvB w [(w1.heap.size + 1, .slice ra (len r) rk), (w1.heap.size, .slice qa (len q) qk), (w.heap.size + 1 + 1, .slice none 0 0), (w.heap.size + 1, .slice bo (len M) cb), (w.heap.size, .slice ao (len N) ca)] [(.slice ra (len r) rk, digs r), (.slice qa (len q) qk, digs q), (.slice bo (len M) cb, digs M), (.slice ao (len N) ca, digs N)] _) := Lib.hid (((E2.out.push (.slice qa (len q) qk) 24 ⟨_, _, _, rfl⟩ (w1.heap.size) (by simp)).push (.slice ra (len r) rk) 24 ⟨_, _, _, rfl⟩ (w1.heap.size + 1) (by simp)))
  obtain ⟨p1, f1, -, -, -⟩ := E3.out.box 2 rfl
  have E4 : Hid (EnvB w [(w1.heap.size + 1, .slice ra (len r) rk), (w1.heap.size, .slice qa (len q) qk), (w.heap.size + 1 + 1, .slice ra (len r) rk), (w.heap.size + 1, .slice bo (len M) cb), (w.heap.size, .slice ao (len N) ca)] [(.slice ra (len r) rk, digs r), (.slice qa (len q) qk, digs q), (.slice bo (len M) cb, digs M), (.slice ao (len N) ca, digs N)] _) := Lib.hid ((E3.out.set 2 (.slice ra (len r) rk) rfl ⟨_, _, _, rfl⟩))
  have hfin := Lib.hid E4.out
  obtain ⟨rc, -, -, -, -⟩ := E4.out.box 2 rfl
  go_wp2
  exact bodyPost_ret (v := .agg #[.slice ra (len r) rk]) (by simp [results, Try.results53, go_sem, rc]) rfl ⟨⟨_, _, rfl, Lib.hid (hfin.out.nt 0 rfl)⟩, hfin.out.1⟩
theorem rest_c {a b : Value} {N M r : Nat} {w : World} (hr : N % M = r) (h1 : len N ≤ 64) (h2 : len M ≤ 64) (h0 : M ≠ 0) (ha : Nt w a N) (hb : Nt w b M) :
    Calls Try.prog 53 #[.agg #[a], .agg #[b]] w fun e w' => RetV r e w' ∧ Below w.heap.size w w' := by
  obtain ⟨ao, ca, rfl, _⟩ := ha.open
  obtain ⟨bo, cb, rfl, _⟩ := hb.open
  exact rest_w ao ca bo cb N M _ r w ha hb rfl hr h1 h2 h0

set_option maxRecDepth 100000 in
set_option maxHeartbeats 1000000 in
theorem less_w (ao : Option Addr) (ca : Nat) (bo : Option Addr) (cb : Nat) (N M : Nat) (t : Bool) (w : World) (ha : Nt w (.slice ao (len N) ca) N) (hb : Nt w (.slice bo (len M) cb) M) (ht : decide (N < M) = t) (h1 : len N ≤ 64) (h2 : len M ≤ 64) :
    Calls Try.prog 51 #[.agg #[.slice ao (len N) ca], .agg #[.slice bo (len M) cb]] w fun e w' => e = .returned (.bool t) ∧ Below w.heap.size w w' := by
  have hc : decide (cmp N M < 0) = t := by rw [cmp_lt_iff, ht]
  have CC := Lib.hid (fun W ha hb => @compareF (.slice ao (len N) ca) (.slice bo (len M) cb) N M W _ rfl ha hb h1 h2)
  clear ht h1 h2
  generalize cmp N M = c at *
  have E0 : Hid (EnvB w [] [(.slice bo (len M) cb, digs M), (.slice ao (len N) ca, digs N)] w) := Lib.hid (((EnvB.start w).numN ha).numN hb)
  clear ha hb
  go_enter Try.func51, Try.ntmps51
  go_wp2_with fail
  have E1 : Hid (EnvB w [(w.heap.size + 1, .slice bo (len M) cb), (w.heap.size, .slice ao (len N) ca)] [(.slice bo (len M) cb, digs M), (.slice ao (len N) ca, digs N)] _) := Lib.hid (((E0.out.push (.slice ao (len N) ca) 24 ⟨_, _, _, rfl⟩ (w.heap.size) (by simp)).push (.slice bo (len M) cb) 24 ⟨_, _, _, rfl⟩ (w.heap.size + 1) (by simp)))
  refine (CC.out _ (E1.out.nt 1 rfl) (E1.out.nt 0 rfl)).mono ?_
  rintro e w1 ⟨rfl, hb⟩
  have E2 : Hid (EnvB w [(w.heap.size + 1, .slice bo (len M) cb), (w.heap.size, .slice ao (len N) ca)] [(.slice bo (len M) cb, digs M), (.slice ao (len N) ca, digs N)] _) := Lib.hid ((E1.out.below hb))
  clear E1 E0 hb
  have hfin := Lib.hid E2.out.1
  go_wp2
  go_ret
  exact ⟨rfl, hfin.out⟩
theorem less_c {a b : Value} {N M : Nat} {t : Bool} {w : World} (ht : decide (N < M) = t) (h1 : len N ≤ 64) (h2 : len M ≤ 64) (ha : Nt w a N) (hb : Nt w b M) :
    Calls Try.prog 51 #[.agg #[a], .agg #[b]] w fun e w' => e = .returned (.bool t) ∧ Below w.heap.size w w' := by
  obtain ⟨ao, ca, rfl, _⟩ := ha.open
  obtain ⟨bo, cb, rfl, _⟩ := hb.open
  exact less_w ao ca bo cb N M t w ha hb ht h1 h2

set_option maxRecDepth 100000 in
set_option maxHeartbeats 1000000 in
theorem modulus_bad (ao : Option Addr) (ca : Nat) (la : List Nat)  (w : World) (ha : Sl w (.slice ao la.length ca) la) (hv : vld la = false) :
    Calls Try.prog 50 #[.agg #[.slice ao la.length ca]] w fun e w' => e = .returned (.bool false) ∧ Below w.heap.size w w' := by
  have CV := Lib.hid (fun W ha => @validF (.slice ao la.length ca) W la false hv ha)
  generalize hl : la.length = n at *
  clear hl hv
  have E0 : Hid (EnvB w [] [(.slice ao n ca, la)] w) := Lib.hid ((EnvB.start w).num ha)
  clear ha
  go_enter Try.func50, Try.ntmps50
  go_wp2_with fail
  have E1 : Hid (EnvB w [(w.heap.size, .slice ao n ca)] [(.slice ao n ca, la)] _) := Lib.hid ((E0.out.push (.slice ao n ca) 24 ⟨_, _, _, rfl⟩ (w.heap.size) (by simp)))
  refine (CV.out _ (E1.out.sl 0 rfl)).mono ?_
  rintro e w1 ⟨rfl, hb⟩
  have E2 : Hid (EnvB w [(w.heap.size, .slice ao n ca)] [(.slice ao n ca, la)] _) := Lib.hid ((E1.out.below hb))
  clear E1 E0 hb
  have hfin := Lib.hid E2.out.1
  go_wp2
  go_ret
  exact ⟨rfl, hfin.out⟩
set_option maxRecDepth 100000 in
set_option maxHeartbeats 1000000 in
theorem modulus_zero (ao : Option Addr) (ca : Nat) (N : Nat)  (w : World) (ha : Nt w (.slice ao (len N) ca) N) (h1 : len N ≤ 64) (h0 : N = 0) :
    Calls Try.prog 50 #[.agg #[.slice ao (len N) ca]] w fun e w' => e = .returned (.bool false) ∧ Below w.heap.size w w' := by
  have hb1 : bl N = 0 := by rw [h0]; rfl
  have CV := Lib.hid (fun W ha => @validN (.slice ao (len N) ca) N W h1 ha)
  have CB := Lib.hid (fun W ha => @bitsF (.slice ao (len N) ca) N W _ rfl h1 ha)
  clear h1
  clear h0
  generalize bl N = n at *
  subst hb1
  have E0 : Hid (EnvB w [] [(.slice ao (len N) ca, digs N)] w) := Lib.hid ((EnvB.start w).numN ha)
  clear ha
  go_enter Try.func50, Try.ntmps50
  go_wp2_with fail
  have E1 : Hid (EnvB w [(w.heap.size, .slice ao (len N) ca)] [(.slice ao (len N) ca, digs N)] _) := Lib.hid ((E0.out.push (.slice ao (len N) ca) 24 ⟨_, _, _, rfl⟩ (w.heap.size) (by simp)))
  refine (CV.out _ (E1.out.nt 0 rfl)).mono ?_
  rintro e w1 ⟨rfl, hb⟩
  have E2 : Hid (EnvB w [(w.heap.size, .slice ao (len N) ca)] [(.slice ao (len N) ca, digs N)] _) := Lib.hid ((E1.out.below hb))
  clear E1 E0 hb
  obtain ⟨p1, f1, -, -, -⟩ := E2.out.box 0 rfl
  go_wp2_with fail
  refine (CB.out _ (E2.out.nt 0 rfl)).mono ?_
  rintro e w2 ⟨rfl, hb⟩
  have E3 : Hid (EnvB w [(w.heap.size, .slice ao (len N) ca)] [(.slice ao (len N) ca, digs N)] _) := Lib.hid ((E2.out.below hb))
  clear p1 f1 E2 hb
  have hfin := Lib.hid E3.out.1
  go_wp2
  go_ret
  exact ⟨rfl, hfin.out⟩
set_option maxRecDepth 100000 in
set_option maxHeartbeats 1000000 in
theorem modulus_big (ao : Option Addr) (ca : Nat) (N : Nat)  (w : World) (ha : Nt w (.slice ao (len N) ca) N) (h1 : len N ≤ 64) (h0 : N ≠ 0) (hb : ¬ len N ≤ 32) :
    Calls Try.prog 50 #[.agg #[.slice ao (len N) ca]] w fun e w' => e = .returned (.bool false) ∧ Below w.heap.size w w' := by
  have hb1 : 1 ≤ bl N := bl_pos h0
  have hb2 : ¬ bl N ≤ 1024 := fun h => hb (len_le_bits.1 h)
  have CV := Lib.hid (fun W ha => @validN (.slice ao (len N) ca) N W h1 ha)
  have CB := Lib.hid (fun W ha => @bitsF (.slice ao (len N) ca) N W _ rfl h1 ha)
  clear h1 hb
  clear h0
  generalize bl N = n at *
  have t1 : decide (1 ≤ (n : Int)) = true := decide_eq_true (by omega)
  have t2 : decide ((n : Int) ≤ 1024) = false := decide_eq_false (by omega)
  have E0 : Hid (EnvB w [] [(.slice ao (len N) ca, digs N)] w) := Lib.hid ((EnvB.start w).numN ha)
  clear ha
  go_enter Try.func50, Try.ntmps50
  go_wp2_with fail
  have E1 : Hid (EnvB w [(w.heap.size, .slice ao (len N) ca)] [(.slice ao (len N) ca, digs N)] _) := Lib.hid ((E0.out.push (.slice ao (len N) ca) 24 ⟨_, _, _, rfl⟩ (w.heap.size) (by simp)))
  refine (CV.out _ (E1.out.nt 0 rfl)).mono ?_
  rintro e w1 ⟨rfl, hb⟩
  have E2 : Hid (EnvB w [(w.heap.size, .slice ao (len N) ca)] [(.slice ao (len N) ca, digs N)] _) := Lib.hid ((E1.out.below hb))
  clear E1 E0 hb
  obtain ⟨p1, f1, -, -, -⟩ := E2.out.box 0 rfl
  go_wp2_with fail
  refine (CB.out _ (E2.out.nt 0 rfl)).mono ?_
  rintro e w2 ⟨rfl, hb⟩
  have E3 : Hid (EnvB w [(w.heap.size, .slice ao (len N) ca)] [(.slice ao (len N) ca, digs N)] _) := Lib.hid ((E2.out.below hb))
  clear p1 f1 E2 hb
  obtain ⟨p2, f2, -, -, -⟩ := E3.out.box 0 rfl
  go_wp2_with fail
  refine (CB.out _ (E3.out.nt 0 rfl)).mono ?_
  rintro e w3 ⟨rfl, hb⟩
  have E4 : Hid (EnvB w [(w.heap.size, .slice ao (len N) ca)] [(.slice ao (len N) ca, digs N)] _) := Lib.hid ((E3.out.below hb))
  clear p2 f2 E3 hb
  have hfin := Lib.hid E4.out.1
  go_wp2
  go_ret
  exact ⟨rfl, hfin.out⟩
set_option maxRecDepth 100000 in
set_option maxHeartbeats 1000000 in
theorem modulus_yes (ao : Option Addr) (ca : Nat) (N : Nat)  (w : World) (ha : Nt w (.slice ao (len N) ca) N) (h1 : len N ≤ 64) (h0 : N ≠ 0) (hb : len N ≤ 32) :
    Calls Try.prog 50 #[.agg #[.slice ao (len N) ca]] w fun e w' => e = .returned (.bool true) ∧ Below w.heap.size w w' := by
  have hb1 : 1 ≤ bl N := bl_pos h0
  have hb2 : bl N ≤ 1024 := len_le_bits.2 hb
  have CV := Lib.hid (fun W ha => @validN (.slice ao (len N) ca) N W h1 ha)
  have CB := Lib.hid (fun W ha => @bitsF (.slice ao (len N) ca) N W _ rfl h1 ha)
  clear h1 hb
  clear h0
  generalize bl N = n at *
  have t1 : decide (1 ≤ (n : Int)) = true := decide_eq_true (by omega)
  have t2 : decide ((n : Int) ≤ 1024) = true := decide_eq_true (by omega)
  have E0 : Hid (EnvB w [] [(.slice ao (len N) ca, digs N)] w) := Lib.hid ((EnvB.start w).numN ha)
  clear ha
  go_enter Try.func50, Try.ntmps50
  go_wp2_with fail
  have E1 : Hid (EnvB w [(w.heap.size, .slice ao (len N) ca)] [(.slice ao (len N) ca, digs N)] _) := Lib.hid ((E0.out.push (.slice ao (len N) ca) 24 ⟨_, _, _, rfl⟩ (w.heap.size) (by simp)))
  refine (CV.out _ (E1.out.nt 0 rfl)).mono ?_
  rintro e w1 ⟨rfl, hb⟩
  have E2 : Hid (EnvB w [(w.heap.size, .slice ao (len N) ca)] [(.slice ao (len N) ca, digs N)] _) := Lib.hid ((E1.out.below hb))
  clear E1 E0 hb
  obtain ⟨p1, f1, -, -, -⟩ := E2.out.box 0 rfl
  go_wp2_with fail
  refine (CB.out _ (E2.out.nt 0 rfl)).mono ?_
  rintro e w2 ⟨rfl, hb⟩
  have E3 : Hid (EnvB w [(w.heap.size, .slice ao (len N) ca)] [(.slice ao (len N) ca, digs N)] _) := Lib.hid ((E2.out.below hb))
  clear p1 f1 E2 hb
  obtain ⟨p2, f2, -, -, -⟩ := E3.out.box 0 rfl
  go_wp2_with fail
  refine (CB.out _ (E3.out.nt 0 rfl)).mono ?_
  rintro e w3 ⟨rfl, hb⟩
  have E4 : Hid (EnvB w [(w.heap.size, .slice ao (len N) ca)] [(.slice ao (len N) ca, digs N)] _) := Lib.hid ((E3.out.below hb))
  clear p2 f2 E3 hb
  have hfin := Lib.hid E4.out.1
  go_wp2
  go_ret
  exact ⟨rfl, hfin.out⟩
/-- the words are those of a modulus: a number from 1 on, of at most 32 words -/
def mdl (l : List Nat) : Bool := vld l && (decide (1 ≤ l.length) && decide (l.length ≤ 32))
theorem nt_of {w : World} {v : Value} {l : List Nat} (h : Sl w v l) (hv : vld l = true) : ∃ N, l = digs N ∧ len N ≤ 64 ∧ Nt w v N := by
  have h2 : l.length ≤ 64 ∧ (l = [] ∨ l.getD (l.length - 1) 0 ≠ 0) := of_decide_eq_true hv
  have hw : words l := by obtain ⟨_, _, _, _, _, hw, _⟩ := h; exact hw
  have hd := digs_val hw h2.2
  refine ⟨val l, hd.symm, ?_, ?_⟩
  · rw [len_of_normal hw h2.2]; exact h2.1
  · unfold Nt; rw [hd]; exact h
theorem mdl_digs {N : Nat} : mdl (digs N) = true ↔ N ≠ 0 ∧ len N ≤ 32 := by
  unfold mdl
  rw [vld_digs, show (digs N).length = len N from rfl]
  simp only [Bool.and_eq_true, decide_eq_true_eq]
  have : len N = 0 ↔ N = 0 := len_eq_zero
  omega
theorem modulus_c {v : Value} {l : List Nat} {t : Bool} {w : World} (ht : mdl l = t) (h : Sl w v l) :
    Calls Try.prog 50 #[.agg #[v]] w fun e w' => e = .returned (.bool t) ∧ Below w.heap.size w w' := by
  subst ht
  by_cases hv : vld l = true
  · obtain ⟨N, rfl, h1, hN⟩ := nt_of h hv
    obtain ⟨ao, ca, rfl, _⟩ := hN.open
    by_cases h0 : N = 0
    · have e : mdl (digs N) = false := by
        cases e : mdl (digs N)
        · rfl
        · exact absurd h0 (mdl_digs.1 e).1
      rw [e]; exact modulus_zero ao ca N w hN h1 h0
    · by_cases hb : len N ≤ 32
      · rw [mdl_digs.2 ⟨h0, hb⟩]; exact modulus_yes ao ca N w hN h1 h0 hb
      · have e : mdl (digs N) = false := by
          cases e : mdl (digs N)
          · rfl
          · exact absurd (mdl_digs.1 e).2 hb
        rw [e]; exact modulus_big ao ca N w hN h1 h0 hb
  · have hf : vld l = false := by simpa using hv
    obtain ⟨ao, ca, rfl, _⟩ := h.open
    have e : mdl l = false := by unfold mdl; rw [hf]; rfl
    rw [e]; exact modulus_bad ao ca l w h hf

set_option maxRecDepth 100000 in
set_option maxHeartbeats 1000000 in
theorem add_w (ao : Option Addr) (ca : Nat) (bo : Option Addr) (cb : Nat) (co : Option Addr) (cc : Nat) (N M K : Nat) (S r : Nat) (w : World) (ha : Nt w (.slice ao (len N) ca) N) (hb : Nt w (.slice bo (len M) cb) M) (hc : Nt w (.slice co (len K) cc) K) (hS : N + M = S) (hr : S % K = r) (hn : N < K) (hm : M < K) (hk : len K ≤ 32) :
    Calls Try.prog 62 #[.agg #[.slice ao (len N) ca], .agg #[.slice bo (len M) cb], .agg #[.slice co (len K) cc]] w fun e w' => RetV r e w' ∧ Below w.heap.size w w' := by
  have k1 := len_le_of_lt hn hk
  have k2 := len_le_of_lt hm hk
  have k3 : len S ≤ 64 := by rw [← hS]; exact len_add_le k1 k2 (by omega)
  have CA := Lib.hid (fun W ha hb => @addF (.slice ao (len N) ca) (.slice bo (len M) cb) N M S W hS k3 ha hb (by omega) (by omega))
  have CR := Lib.hid (fun (v : Value) W ha hb => @rest_c v (.slice co (len K) cc) S K r W hr k3 (by omega) (by omega) ha hb)
  clear hS hr hn hm hk k1 k2 k3
  have E0 : Hid (EnvB w [] [(.slice co (len K) cc, digs K), (.slice bo (len M) cb, digs M), (.slice ao (len N) ca, digs N)] w) := Lib.hid ((((EnvB.start w).numN ha).numN hb).numN hc)
  clear ha hb hc
  go_enter Try.func62, Try.ntmps62
  go_wp2_with fail
  have E1 : Hid (EnvB w [(w.heap.size + 1 + 1 + 1, .slice none 0 0), (w.heap.size + 1 + 1, .slice co (len K) cc), (w.heap.size + 1, .slice bo (len M) cb), (w.heap.size, .slice ao (len N) ca)] [(.slice co (len K) cc, digs K), (.slice bo (len M) cb, digs M), (.slice ao (len N) ca, digs N)] _) := Lib.hid (((((E0.out.push (.slice ao (len N) ca) 24 ⟨_, _, _, rfl⟩ (w.heap.size) (by simp)).push (.slice bo (len M) cb) 24 ⟨_, _, _, rfl⟩ (w.heap.size + 1) (by simp)).push (.slice co (len K) cc) 24 ⟨_, _, _, rfl⟩ (w.heap.size + 1 + 1) (by simp)).push (.slice none 0 0) 24 ⟨_, _, _, rfl⟩ (w.heap.size + 1 + 1 + 1) (by simp)))
  refine (CA.out _ (E1.out.nt 2 rfl) (E1.out.nt 1 rfl)).mono ?_
  rintro e w1 ⟨⟨sa, sk, rfl, hs⟩, hb⟩
  have E2 : Hid (EnvB w [(w.heap.size + 1 + 1 + 1, .slice none 0 0), (w.heap.size + 1 + 1, .slice co (len K) cc), (w.heap.size + 1, .slice bo (len M) cb), (w.heap.size, .slice ao (len N) ca)] [(.slice sa (len S) sk, digs S), (.slice co (len K) cc, digs K), (.slice bo (len M) cb, digs M), (.slice ao (len N) ca, digs N)] _) := Lib.hid (((E1.out.below hb).numN (hs.out : Nt _ _ S)))
  clear E1 E0 hb hs
  have E3 : Hid (EnvB w [(w1.heap.size, .slice sa (len S) sk), (w.heap.size + 1 + 1 + 1, .slice none 0 0), (w.heap.size + 1 + 1, .slice co (len K) cc), (w.heap.size + 1, .slice bo (len M) cb), (w.heap.size, .slice ao (len N) ca)] [(.slice sa (len S) sk, digs S), (.slice co (len K) cc, digs K), (.slice bo (len M) cb, digs M), (.slice ao (len N) ca, digs N)] _) := Lib.hid ((E2.out.push (.slice sa (len S) sk) 24 ⟨_, _, _, rfl⟩ (w1.heap.size) (by simp)))
  obtain ⟨p1, f1, -, -, -⟩ := E3.out.box 2 rfl
  go_wp2_with fail
  refine (CR.out _ _ (E3.out.nt 0 rfl) (E3.out.nt 1 rfl)).mono ?_
  rintro e w2 ⟨⟨ra, rk, rfl, hr⟩, hb⟩
  have E4 : Hid (EnvB w [(w1.heap.size, .slice sa (len S) sk), (w.heap.size + 1 + 1 + 1, .slice none 0 0), (w.heap.size + 1 + 1, .slice co (len K) cc), (w.heap.size + 1, .slice bo (len M) cb), (w.heap.size, .slice ao (len N) ca)] [(.slice ra (len r) rk, digs r), (.slice sa (len S) sk, digs S), (.slice co (len K) cc, digs K), (.slice bo (len M) cb, digs M), (.slice ao (len N) ca, digs N)] _) := Lib.hid (((E3.out.below hb).numN (hr.out : Nt _ _ r)))
  clear p1 f1 E3 E2 hb hr
  obtain ⟨p2, f2, -, -, -⟩ := E4.out.box 1 rfl
  have E5 : Hid (EnvB w [(w1.heap.size, .slice sa (len S) sk), (w.heap.size + 1 + 1 + 1, .slice ra (len r) rk), (w.heap.size + 1 + 1, .slice co (len K) cc), (w.heap.size + 1, .slice bo (len M) cb), (w.heap.size, .slice ao (len N) ca)] [(.slice ra (len r) rk, digs r), (.slice sa (len S) sk, digs S), (.slice co (len K) cc, digs K), (.slice bo (len M) cb, digs M), (.slice ao (len N) ca, digs N)] _) := Lib.hid ((E4.out.set 1 (.slice ra (len r) rk) rfl ⟨_, _, _, rfl⟩))
  have hfin := Lib.hid E5.out
  obtain ⟨rc, -, -, -, -⟩ := E5.out.box 1 rfl
  go_wp2
  exact bodyPost_ret (v := .agg #[.slice ra (len r) rk]) (by simp [results, Try.results62, go_sem, rc]) rfl ⟨⟨_, _, rfl, Lib.hid (hfin.out.nt 0 rfl)⟩, hfin.out.1⟩
set_option maxRecDepth 100000 in
set_option maxHeartbeats 1000000 in
theorem mul_w (ao : Option Addr) (ca : Nat) (bo : Option Addr) (cb : Nat) (co : Option Addr) (cc : Nat) (N M K : Nat) (S r : Nat) (w : World) (ha : Nt w (.slice ao (len N) ca) N) (hb : Nt w (.slice bo (len M) cb) M) (hc : Nt w (.slice co (len K) cc) K) (hS : N * M = S) (hr : S % K = r) (hn : N < K) (hm : M < K) (hk : len K ≤ 32) :
    Calls Try.prog 54 #[.agg #[.slice ao (len N) ca], .agg #[.slice bo (len M) cb], .agg #[.slice co (len K) cc]] w fun e w' => RetV r e w' ∧ Below w.heap.size w w' := by
  have k1 := len_le_of_lt hn hk
  have k2 := len_le_of_lt hm hk
  have k3 : len S ≤ 64 := by rw [← hS]; exact len_mul_le k1 k2 (by omega)
  have CA := Lib.hid (fun W ha hb => @mulF (.slice ao (len N) ca) (.slice bo (len M) cb) N M S W hS k3 ha hb (by omega) (by omega))
  have CR := Lib.hid (fun (v : Value) W ha hb => @rest_c v (.slice co (len K) cc) S K r W hr k3 (by omega) (by omega) ha hb)
  clear hS hr hn hm hk k1 k2 k3
  have E0 : Hid (EnvB w [] [(.slice co (len K) cc, digs K), (.slice bo (len M) cb, digs M), (.slice ao (len N) ca, digs N)] w) := Lib.hid ((((EnvB.start w).numN ha).numN hb).numN hc)
  clear ha hb hc
  go_enter Try.func54, Try.ntmps54
  go_wp2_with fail
  have E1 : Hid (EnvB w [(w.heap.size + 1 + 1 + 1, .slice none 0 0), (w.heap.size + 1 + 1, .slice co (len K) cc), (w.heap.size + 1, .slice bo (len M) cb), (w.heap.size, .slice ao (len N) ca)] [(.slice co (len K) cc, digs K), (.slice bo (len M) cb, digs M), (.slice ao (len N) ca, digs N)] _) := Lib.hid (((((E0.out.push (.slice ao (len N) ca) 24 ⟨_, _, _, rfl⟩ (w.heap.size) (by simp)).push (.slice bo (len M) cb) 24 ⟨_, _, _, rfl⟩ (w.heap.size + 1) (by simp)).push (.slice co (len K) cc) 24 ⟨_, _, _, rfl⟩ (w.heap.size + 1 + 1) (by simp)).push (.slice none 0 0) 24 ⟨_, _, _, rfl⟩ (w.heap.size + 1 + 1 + 1) (by simp)))
  refine (CA.out _ (E1.out.nt 2 rfl) (E1.out.nt 1 rfl)).mono ?_
  rintro e w1 ⟨⟨sa, sk, rfl, hs⟩, hb⟩
  have E2 : Hid (EnvB w [(w.heap.size + 1 + 1 + 1, .slice none 0 0), (w.heap.size + 1 + 1, .slice co (len K) cc), (w.heap.size + 1, .slice bo (len M) cb), (w.heap.size, .slice ao (len N) ca)] [(.slice sa (len S) sk, digs S), (.slice co (len K) cc, digs K), (.slice bo (len M) cb, digs M), (.slice ao (len N) ca, digs N)] _) := Lib.hid (((E1.out.below hb).numN (hs.out : Nt _ _ S)))
  clear E1 E0 hb hs
  have E3 : Hid (EnvB w [(w1.heap.size, .slice sa (len S) sk), (w.heap.size + 1 + 1 + 1, .slice none 0 0), (w.heap.size + 1 + 1, .slice co (len K) cc), (w.heap.size + 1, .slice bo (len M) cb), (w.heap.size, .slice ao (len N) ca)] [(.slice sa (len S) sk, digs S), (.slice co (len K) cc, digs K), (.slice bo (len M) cb, digs M), (.slice ao (len N) ca, digs N)] _) := Lib.hid ((E2.out.push (.slice sa (len S) sk) 24 ⟨_, _, _, rfl⟩ (w1.heap.size) (by simp)))
  obtain ⟨p1, f1, -, -, -⟩ := E3.out.box 2 rfl
  go_wp2_with fail
  refine (CR.out _ _ (E3.out.nt 0 rfl) (E3.out.nt 1 rfl)).mono ?_
  rintro e w2 ⟨⟨ra, rk, rfl, hr⟩, hb⟩
  have E4 : Hid (EnvB w [(w1.heap.size, .slice sa (len S) sk), (w.heap.size + 1 + 1 + 1, .slice none 0 0), (w.heap.size + 1 + 1, .slice co (len K) cc), (w.heap.size + 1, .slice bo (len M) cb), (w.heap.size, .slice ao (len N) ca)] [(.slice ra (len r) rk, digs r), (.slice sa (len S) sk, digs S), (.slice co (len K) cc, digs K), (.slice bo (len M) cb, digs M), (.slice ao (len N) ca, digs N)] _) := Lib.hid (((E3.out.below hb).numN (hr.out : Nt _ _ r)))
  clear p1 f1 E3 E2 hb hr
  obtain ⟨p2, f2, -, -, -⟩ := E4.out.box 1 rfl
  have E5 : Hid (EnvB w [(w1.heap.size, .slice sa (len S) sk), (w.heap.size + 1 + 1 + 1, .slice ra (len r) rk), (w.heap.size + 1 + 1, .slice co (len K) cc), (w.heap.size + 1, .slice bo (len M) cb), (w.heap.size, .slice ao (len N) ca)] [(.slice ra (len r) rk, digs r), (.slice sa (len S) sk, digs S), (.slice co (len K) cc, digs K), (.slice bo (len M) cb, digs M), (.slice ao (len N) ca, digs N)] _) := Lib.hid ((E4.out.set 1 (.slice ra (len r) rk) rfl ⟨_, _, _, rfl⟩))
  have hfin := Lib.hid E5.out
  obtain ⟨rc, -, -, -, -⟩ := E5.out.box 1 rfl
  go_wp2
  exact bodyPost_ret (v := .agg #[.slice ra (len r) rk]) (by simp [results, Try.results54, go_sem, rc]) rfl ⟨⟨_, _, rfl, Lib.hid (hfin.out.nt 0 rfl)⟩, hfin.out.1⟩
set_option maxRecDepth 100000 in
set_option maxHeartbeats 1000000 in
theorem sub_lt (ao : Option Addr) (ca : Nat) (bo : Option Addr) (cb : Nat) (co : Option Addr) (cc : Nat) (N M K : Nat)  (w : World) (ha : Nt w (.slice ao (len N) ca) N) (hb : Nt w (.slice bo (len M) cb) M) (hc : Nt w (.slice co (len K) cc) K) (hn : N < K) (hm : M < K) (hk : len K ≤ 32) (hlt : N < M) :
    Calls Try.prog 55 #[.agg #[.slice ao (len N) ca], .agg #[.slice bo (len M) cb], .agg #[.slice co (len K) cc]] w fun e w' => RetV (N + K - M) e w' ∧ Below w.heap.size w w' := by
  have k1 := len_le_of_lt hn hk
  have k2 := len_le_of_lt hm hk
  have k3 : len (N + K) ≤ 64 := len_add_le k1 hk (by omega)
  have ht : decide (N < M) = true := decide_eq_true hlt
  have CA := Lib.hid (fun W ha hb => @addF (.slice ao (len N) ca) (.slice co (len K) cc) N K _ W rfl k3 ha hb (by omega) (by omega))
  have CS := Lib.hid (fun (v : Value) W ha hb => @subF v (.slice bo (len M) cb) (N + K) M _ W rfl (by omega) ha hb k3 (by omega))
  have CL := Lib.hid (fun W ha hb => @less_c (.slice ao (len N) ca) (.slice bo (len M) cb) N M _ W ht (by omega) (by omega) ha hb)
  clear ht hn hm hk hlt k1 k2 k3
  have E0 : Hid (EnvB w [] [(.slice co (len K) cc, digs K), (.slice bo (len M) cb, digs M), (.slice ao (len N) ca, digs N)] w) := Lib.hid ((((EnvB.start w).numN ha).numN hb).numN hc)
  clear ha hb hc
  go_enter Try.func55, Try.ntmps55
  go_wp2_with fail
  have E1 : Hid (EnvB w [(w.heap.size + 1 + 1 + 1, .slice none 0 0), (w.heap.size + 1 + 1, .slice co (len K) cc), (w.heap.size + 1, .slice bo (len M) cb), (w.heap.size, .slice ao (len N) ca)] [(.slice co (len K) cc, digs K), (.slice bo (len M) cb, digs M), (.slice ao (len N) ca, digs N)] _) := Lib.hid (((((E0.out.push (.slice ao (len N) ca) 24 ⟨_, _, _, rfl⟩ (w.heap.size) (by simp)).push (.slice bo (len M) cb) 24 ⟨_, _, _, rfl⟩ (w.heap.size + 1) (by simp)).push (.slice co (len K) cc) 24 ⟨_, _, _, rfl⟩ (w.heap.size + 1 + 1) (by simp)).push (.slice none 0 0) 24 ⟨_, _, _, rfl⟩ (w.heap.size + 1 + 1 + 1) (by simp)))
  refine (CL.out _ (E1.out.nt 2 rfl) (E1.out.nt 1 rfl)).mono ?_
  rintro e w1 ⟨rfl, hb⟩
  have E2 : Hid (EnvB w [(w.heap.size + 1 + 1 + 1, .slice none 0 0), (w.heap.size + 1 + 1, .slice co (len K) cc), (w.heap.size + 1, .slice bo (len M) cb), (w.heap.size, .slice ao (len N) ca)] [(.slice co (len K) cc, digs K), (.slice bo (len M) cb, digs M), (.slice ao (len N) ca, digs N)] _) := Lib.hid ((E1.out.below hb))
  clear E1 E0 hb
  obtain ⟨p1, f1, -, -, -⟩ := E2.out.box 3 rfl
  obtain ⟨p2, f2, -, -, -⟩ := E2.out.box 1 rfl
  go_wp2_with fail
  refine (CA.out _ (E2.out.nt 2 rfl) (E2.out.nt 0 rfl)).mono ?_
  rintro e w2 ⟨⟨sa, sk, rfl, hs⟩, hb⟩
  have E3 : Hid (EnvB w [(w.heap.size + 1 + 1 + 1, .slice none 0 0), (w.heap.size + 1 + 1, .slice co (len K) cc), (w.heap.size + 1, .slice bo (len M) cb), (w.heap.size, .slice ao (len N) ca)] [(.slice sa (len (N + K)) sk, digs (N + K)), (.slice co (len K) cc, digs K), (.slice bo (len M) cb, digs M), (.slice ao (len N) ca, digs N)] _) := Lib.hid (((E2.out.below hb).numN (hs.out : Nt _ _ (N + K))))
  clear p1 f1 p2 f2 E2 hb hs
  obtain ⟨p3, f3, -, -, -⟩ := E3.out.box 3 rfl
  have E4 : Hid (EnvB w [(w.heap.size + 1 + 1 + 1, .slice none 0 0), (w.heap.size + 1 + 1, .slice co (len K) cc), (w.heap.size + 1, .slice bo (len M) cb), (w.heap.size, .slice sa (len (N + K)) sk)] [(.slice sa (len (N + K)) sk, digs (N + K)), (.slice co (len K) cc, digs K), (.slice bo (len M) cb, digs M), (.slice ao (len N) ca, digs N)] _) := Lib.hid ((E3.out.set 3 (.slice sa (len (N + K)) sk) rfl ⟨_, _, _, rfl⟩))
  obtain ⟨p4, f4, -, -, -⟩ := E4.out.box 3 rfl
  obtain ⟨p5, f5, -, -, -⟩ := E4.out.box 2 rfl
  go_wp2_with fail
  refine (CS.out _ _ (E4.out.nt 0 rfl) (E4.out.nt 2 rfl)).mono ?_
  rintro e w3 ⟨⟨da, dk, rfl, hd⟩, hb⟩
  have E5 : Hid (EnvB w [(w.heap.size + 1 + 1 + 1, .slice none 0 0), (w.heap.size + 1 + 1, .slice co (len K) cc), (w.heap.size + 1, .slice bo (len M) cb), (w.heap.size, .slice sa (len (N + K)) sk)] [(.slice da (len (N + K - M)) dk, digs (N + K - M)), (.slice sa (len (N + K)) sk, digs (N + K)), (.slice co (len K) cc, digs K), (.slice bo (len M) cb, digs M), (.slice ao (len N) ca, digs N)] _) := Lib.hid (((E4.out.below hb).numN (hd.out : Nt _ _ (N + K - M))))
  clear p3 f3 p4 f4 p5 f5 E4 E3 hb hd
  have E6 : Hid (EnvB w [(w3.heap.size, .slice da (len (N + K - M)) dk), (w.heap.size + 1 + 1 + 1, .slice none 0 0), (w.heap.size + 1 + 1, .slice co (len K) cc), (w.heap.size + 1, .slice bo (len M) cb), (w.heap.size, .slice sa (len (N + K)) sk)] [(.slice da (len (N + K - M)) dk, digs (N + K - M)), (.slice sa (len (N + K)) sk, digs (N + K)), (.slice co (len K) cc, digs K), (.slice bo (len M) cb, digs M), (.slice ao (len N) ca, digs N)] _) := Lib.hid ((E5.out.push (.slice da (len (N + K - M)) dk) 24 ⟨_, _, _, rfl⟩ (w3.heap.size) (by simp)))
  obtain ⟨p6, f6, -, -, -⟩ := E6.out.box 1 rfl
  have E7 : Hid (EnvB w [(w3.heap.size, .slice da (len (N + K - M)) dk), (w.heap.size + 1 + 1 + 1, .slice da (len (N + K - M)) dk), (w.heap.size + 1 + 1, .slice co (len K) cc), (w.heap.size + 1, .slice bo (len M) cb), (w.heap.size, .slice sa (len (N + K)) sk)] [(.slice da (len (N + K - M)) dk, digs (N + K - M)), (.slice sa (len (N + K)) sk, digs (N + K)), (.slice co (len K) cc, digs K), (.slice bo (len M) cb, digs M), (.slice ao (len N) ca, digs N)] _) := Lib.hid ((E6.out.set 1 (.slice da (len (N + K - M)) dk) rfl ⟨_, _, _, rfl⟩))
  have hfin := Lib.hid E7.out
  obtain ⟨rc, -, -, -, -⟩ := E7.out.box 1 rfl
  go_wp2
  exact bodyPost_ret (v := .agg #[.slice da (len (N + K - M)) dk]) (by simp [results, Try.results55, go_sem, rc]) rfl ⟨⟨_, _, rfl, Lib.hid (hfin.out.nt 0 rfl)⟩, hfin.out.1⟩
set_option maxRecDepth 100000 in
set_option maxHeartbeats 1000000 in
theorem sub_ge (ao : Option Addr) (ca : Nat) (bo : Option Addr) (cb : Nat) (co : Option Addr) (cc : Nat) (N M K : Nat)  (w : World) (ha : Nt w (.slice ao (len N) ca) N) (hb : Nt w (.slice bo (len M) cb) M) (hc : Nt w (.slice co (len K) cc) K) (hn : N < K) (hm : M < K) (hk : len K ≤ 32) (hlt : ¬ N < M) :
    Calls Try.prog 55 #[.agg #[.slice ao (len N) ca], .agg #[.slice bo (len M) cb], .agg #[.slice co (len K) cc]] w fun e w' => RetV (N - M) e w' ∧ Below w.heap.size w w' := by
  have k1 := len_le_of_lt hn hk
  have k2 := len_le_of_lt hm hk
  have k3 : len (N + K) ≤ 64 := len_add_le k1 hk (by omega)
  have ht : decide (N < M) = false := decide_eq_false hlt
  have CS := Lib.hid (fun (v : Value) W ha hb => @subF v (.slice bo (len M) cb) N M _ W rfl (by omega) ha hb (by omega) (by omega))
  have CL := Lib.hid (fun W ha hb => @less_c (.slice ao (len N) ca) (.slice bo (len M) cb) N M _ W ht (by omega) (by omega) ha hb)
  clear ht hn hm hk hlt k1 k2 k3
  have E0 : Hid (EnvB w [] [(.slice co (len K) cc, digs K), (.slice bo (len M) cb, digs M), (.slice ao (len N) ca, digs N)] w) := Lib.hid ((((EnvB.start w).numN ha).numN hb).numN hc)
  clear ha hb hc
  go_enter Try.func55, Try.ntmps55
  go_wp2_with fail
  have E1 : Hid (EnvB w [(w.heap.size + 1 + 1 + 1, .slice none 0 0), (w.heap.size + 1 + 1, .slice co (len K) cc), (w.heap.size + 1, .slice bo (len M) cb), (w.heap.size, .slice ao (len N) ca)] [(.slice co (len K) cc, digs K), (.slice bo (len M) cb, digs M), (.slice ao (len N) ca, digs N)] _) := Lib.hid (((((E0.out.push (.slice ao (len N) ca) 24 ⟨_, _, _, rfl⟩ (w.heap.size) (by simp)).push (.slice bo (len M) cb) 24 ⟨_, _, _, rfl⟩ (w.heap.size + 1) (by simp)).push (.slice co (len K) cc) 24 ⟨_, _, _, rfl⟩ (w.heap.size + 1 + 1) (by simp)).push (.slice none 0 0) 24 ⟨_, _, _, rfl⟩ (w.heap.size + 1 + 1 + 1) (by simp)))
  refine (CL.out _ (E1.out.nt 2 rfl) (E1.out.nt 1 rfl)).mono ?_
  rintro e w1 ⟨rfl, hb⟩
  have E2 : Hid (EnvB w [(w.heap.size + 1 + 1 + 1, .slice none 0 0), (w.heap.size + 1 + 1, .slice co (len K) cc), (w.heap.size + 1, .slice bo (len M) cb), (w.heap.size, .slice ao (len N) ca)] [(.slice co (len K) cc, digs K), (.slice bo (len M) cb, digs M), (.slice ao (len N) ca, digs N)] _) := Lib.hid ((E1.out.below hb))
  clear E1 E0 hb
  obtain ⟨p1, f1, -, -, -⟩ := E2.out.box 3 rfl
  obtain ⟨p2, f2, -, -, -⟩ := E2.out.box 2 rfl
  go_wp2_with fail
  refine (CS.out _ _ (E2.out.nt 2 rfl) (E2.out.nt 1 rfl)).mono ?_
  rintro e w2 ⟨⟨da, dk, rfl, hd⟩, hb⟩
  have E3 : Hid (EnvB w [(w.heap.size + 1 + 1 + 1, .slice none 0 0), (w.heap.size + 1 + 1, .slice co (len K) cc), (w.heap.size + 1, .slice bo (len M) cb), (w.heap.size, .slice ao (len N) ca)] [(.slice da (len (N - M)) dk, digs (N - M)), (.slice co (len K) cc, digs K), (.slice bo (len M) cb, digs M), (.slice ao (len N) ca, digs N)] _) := Lib.hid (((E2.out.below hb).numN (hd.out : Nt _ _ (N - M))))
  clear p1 f1 p2 f2 E2 hb hd
  have E4 : Hid (EnvB w [(w2.heap.size, .slice da (len (N - M)) dk), (w.heap.size + 1 + 1 + 1, .slice none 0 0), (w.heap.size + 1 + 1, .slice co (len K) cc), (w.heap.size + 1, .slice bo (len M) cb), (w.heap.size, .slice ao (len N) ca)] [(.slice da (len (N - M)) dk, digs (N - M)), (.slice co (len K) cc, digs K), (.slice bo (len M) cb, digs M), (.slice ao (len N) ca, digs N)] _) := Lib.hid ((E3.out.push (.slice da (len (N - M)) dk) 24 ⟨_, _, _, rfl⟩ (w2.heap.size) (by simp)))
  obtain ⟨p3, f3, -, -, -⟩ := E4.out.box 1 rfl
  have E5 : Hid (EnvB w [(w2.heap.size, .slice da (len (N - M)) dk), (w.heap.size + 1 + 1 + 1, .slice da (len (N - M)) dk), (w.heap.size + 1 + 1, .slice co (len K) cc), (w.heap.size + 1, .slice bo (len M) cb), (w.heap.size, .slice ao (len N) ca)] [(.slice da (len (N - M)) dk, digs (N - M)), (.slice co (len K) cc, digs K), (.slice bo (len M) cb, digs M), (.slice ao (len N) ca, digs N)] _) := Lib.hid ((E4.out.set 1 (.slice da (len (N - M)) dk) rfl ⟨_, _, _, rfl⟩))
  have hfin := Lib.hid E5.out
  obtain ⟨rc, -, -, -, -⟩ := E5.out.box 1 rfl
  go_wp2
  exact bodyPost_ret (v := .agg #[.slice da (len (N - M)) dk]) (by simp [results, Try.results55, go_sem, rc]) rfl ⟨⟨_, _, rfl, Lib.hid (hfin.out.nt 0 rfl)⟩, hfin.out.1⟩
theorem add_c {a b c : Value} {N M K r : Nat} {w : World} (hr : (N + M) % K = r) (hn : N < K) (hm : M < K) (hk : len K ≤ 32) (ha : Nt w a N) (hb : Nt w b M) (hc : Nt w c K) :
    Calls Try.prog 62 #[.agg #[a], .agg #[b], .agg #[c]] w fun e w' => RetV r e w' ∧ Below w.heap.size w w' := by
  obtain ⟨ao, ca, rfl, _⟩ := ha.open
  obtain ⟨bo, cb, rfl, _⟩ := hb.open
  obtain ⟨co, cc, rfl, _⟩ := hc.open
  exact add_w ao ca bo cb co cc N M K _ r w ha hb hc rfl hr hn hm hk
theorem mul_c {a b c : Value} {N M K r : Nat} {w : World} (hr : N * M % K = r) (hn : N < K) (hm : M < K) (hk : len K ≤ 32) (ha : Nt w a N) (hb : Nt w b M) (hc : Nt w c K) :
    Calls Try.prog 54 #[.agg #[a], .agg #[b], .agg #[c]] w fun e w' => RetV r e w' ∧ Below w.heap.size w w' := by
  obtain ⟨ao, ca, rfl, _⟩ := ha.open
  obtain ⟨bo, cb, rfl, _⟩ := hb.open
  obtain ⟨co, cc, rfl, _⟩ := hc.open
  exact mul_w ao ca bo cb co cc N M K _ r w ha hb hc rfl hr hn hm hk
theorem sub_c {a b c : Value} {N M K r : Nat} {w : World} (hr : subm N M K = r) (hn : N < K) (hm : M < K) (hk : len K ≤ 32) (ha : Nt w a N) (hb : Nt w b M) (hc : Nt w c K) :
    Calls Try.prog 55 #[.agg #[a], .agg #[b], .agg #[c]] w fun e w' => RetV r e w' ∧ Below w.heap.size w w' := by
  obtain ⟨ao, ca, rfl, _⟩ := ha.open
  obtain ⟨bo, cb, rfl, _⟩ := hb.open
  obtain ⟨co, cc, rfl, _⟩ := hc.open
  subst hr
  unfold subm
  split
  · exact sub_lt ao ca bo cb co cc N M K w ha hb hc hn hm hk (by assumption)
  · exact sub_ge ao ca bo cb co cc N M K w ha hb hc hn hm hk (by assumption)
end Go.Proofs.Ythphmgdmhlimjaa
