/- NatmodCrt: the walk. -/
import Derived.Test.YthphmgdmhlimjaaModFrame
import Derived.Test.YthphmgdmhlimjaaModL4
namespace Go.Proofs.Ythphmgdmhlimjaa
open Go.RowKit NatMath
set_option linter.unusedVariables false
section
variable {a b c d : Value} {w : World}
theorem crt_z1 {la lp lb lq : List Nat} (h : vld la = false ∨ vld lb = false ∨ mdl lp = false ∨ mdl lq = false) (ha : Sl w a la) (hb : Sl w b lp) (hc : Sl w c lb) (hd : Sl w d lq) :
    Calls Try.prog 14 #[.agg #[a], .agg #[b], .agg #[c], .agg #[d]] w fun e w' => ResZ 1 e ∧ Below w.heap.size w w' := by
  obtain ⟨ao, ca, rfl, _⟩ := ha.open
  obtain ⟨bo, cb, rfl, _⟩ := hb.open
  obtain ⟨co, cc, rfl, _⟩ := hc.open
  obtain ⟨dq, cd, rfl, _⟩ := hd.open
  cases k0 : vld la
  · exact calls_z (Crt_b1 ao ca bo cb co cc dq cd la lp lb lq w ha hb hc hd k0)
  · cases k1 : vld lb
    · exact calls_z (Crt_b2 ao ca bo cb co cc dq cd la lp lb lq w ha hb hc hd k0 k1)
    · cases k2 : mdl lp
      · exact calls_z (Crt_b3 ao ca bo cb co cc dq cd la lp lb lq w ha hb hc hd k0 k1 k2)
      · cases k3 : mdl lq
        · exact calls_z (Crt_b4 ao ca bo cb co cc dq cd la lp lb lq w ha hb hc hd k0 k1 k2 k3)
        · simp [k0, k1, k2, k3] at h
variable {N P M Q : Nat}
theorem crt_z2 (h : ¬ (N < P ∧ M < Q)) (h1 : len N ≤ 64) (h2 : len M ≤ 64) (p0 : P ≠ 0) (hp : len P ≤ 32) (q0 : Q ≠ 0) (hq : len Q ≤ 32) (ha : Nt w a N) (hb : Nt w b P) (hc : Nt w c M) (hd : Nt w d Q) :
    Calls Try.prog 14 #[.agg #[a], .agg #[b], .agg #[c], .agg #[d]] w fun e w' => ResZ 2 e ∧ Below w.heap.size w w' := by
  obtain ⟨ao, ca, rfl, _⟩ := ha.open
  obtain ⟨bo, cb, rfl, _⟩ := hb.open
  obtain ⟨co, cc, rfl, _⟩ := hc.open
  obtain ⟨dq, cd, rfl, _⟩ := hd.open
  by_cases h3 : N < P
  · exact calls_z (Crt_r2 ao ca bo cb co cc dq cd N P M Q w ha hb hc hd h1 h2 p0 hp q0 hq h3 (fun h4 => h ⟨h3, h4⟩))
  · exact calls_z (Crt_r1 ao ca bo cb co cc dq cd N P M Q w ha hb hc hd h1 h2 p0 hp q0 hq h3)
theorem inv_of_gcd (q0 : Q ≠ 0) : invG (P % Q) Q = Nat.gcd P Q := by
  rw [invG_eq q0, show Nat.gcd (P % Q) Q = Nat.gcd P Q from (Nat.gcd_rec Q P).symm.trans (Nat.gcd_comm Q P)]
theorem crt_z10 (h : Nat.gcd P Q ≠ 1) (hn : N < P) (hm : M < Q) (hp : len P ≤ 32) (hq : len Q ≤ 32) (ha : Nt w a N) (hb : Nt w b P) (hc : Nt w c M) (hd : Nt w d Q) :
    Calls Try.prog 14 #[.agg #[a], .agg #[b], .agg #[c], .agg #[d]] w fun e w' => ResZ 10 e ∧ Below w.heap.size w w' := by
  obtain ⟨ao, ca, rfl, _⟩ := ha.open
  obtain ⟨bo, cb, rfl, _⟩ := hb.open
  obtain ⟨co, cc, rfl, _⟩ := hc.open
  obtain ⟨dq, cd, rfl, _⟩ := hd.open
  exact calls_z (Crt_n ao ca bo cb co cc dq cd N P M Q w ha hb hc hd hn hm hp hq (by rw [inv_of_gcd (by omega)]; exact decide_eq_false h))
theorem crt_z9 (h : Nat.gcd P Q = 1) (hb9 : ¬ len (P * Q) ≤ 32) (hn : N < P) (hm : M < Q) (hp : len P ≤ 32) (hq : len Q ≤ 32) (ha : Nt w a N) (hb : Nt w b P) (hc : Nt w c M) (hd : Nt w d Q) :
    Calls Try.prog 14 #[.agg #[a], .agg #[b], .agg #[c], .agg #[d]] w fun e w' => ResZ 9 e ∧ Below w.heap.size w w' := by
  obtain ⟨ao, ca, rfl, _⟩ := ha.open
  obtain ⟨bo, cb, rfl, _⟩ := hb.open
  obtain ⟨co, cc, rfl, _⟩ := hc.open
  obtain ⟨dq, cd, rfl, _⟩ := hd.open
  exact calls_z (Crt_g ao ca bo cb co cc dq cd N P M Q w ha hb hc hd hn hm hp hq (by rw [inv_of_gcd (by omega)]; exact decide_eq_true h) hb9)
theorem crt_m {r : Nat} (hr : crtV N P M Q = r) (h : Nat.gcd P Q = 1) (hb9 : len (P * Q) ≤ 32) (hn : N < P) (hm : M < Q) (hp : len P ≤ 32) (hq : len Q ≤ 32) (ha : Nt w a N) (hb : Nt w b P) (hc : Nt w c M) (hd : Nt w d Q) :
    Calls Try.prog 14 #[.agg #[a], .agg #[b], .agg #[c], .agg #[d]] w fun e w' => ResN r 0 e w' ∧ Below w.heap.size w w' := by
  subst hr
  obtain ⟨ao, ca, rfl, _⟩ := ha.open
  obtain ⟨bo, cb, rfl, _⟩ := hb.open
  obtain ⟨co, cc, rfl, _⟩ := hc.open
  obtain ⟨dq, cd, rfl, _⟩ := hd.open
  exact Crt_w ao ca bo cb co cc dq cd N P M Q w ha hb hc hd hn hm hp hq (by rw [inv_of_gcd (by omega)]; exact decide_eq_true h) hb9
end
theorem fst0 (l : List Nat) : fstc l [] = if mdl l = true then 0 else 1 := by unfold fstc; simp
theorem fst0_f {l : List Nat} (h : mdl l = false) : fstc l [] = 1 := by rw [fst0]; simp [h]
theorem fst0_t {l : List Nat} (h : mdl l = true) : fstc l [] = 0 := by rw [fst0]; simp [h]
theorem len_big {P Q : Nat} (p0 : P ≠ 0) (q0 : Q ≠ 0) (h : 34 ≤ len P + len Q) : ¬ len (P * Q) ≤ 32 := by
  intro h1
  have h2 := len_le_iff.1 h1
  have h3 := Nat.mul_le_mul (Bp_len_le p0) (Bp_len_le q0)
  rw [← Bp_add] at h3
  have h4 : 32 ≤ len P - 1 + (len Q - 1) := by
    have a1 : len P ≠ 0 := fun h => p0 (len_eq_zero.1 h)
    have a2 : len Q ≠ 0 := fun h => q0 (len_eq_zero.1 h)
    omega
  have h5 := Bp_le h4
  omega

set_option maxRecDepth 100000 in
set_option maxHeartbeats 1000000 in
theorem Crt_big0 (ao : Option Addr) (ca : Nat) (bo : Option Addr) (cb : Nat) (co : Option Addr) (cc : Nat) (dq : Option Addr) (cd : Nat) (la lp lb lq : List Nat)  (w : World) (ha : Sl w (.slice ao la.length ca) la) (hb : Sl w (.slice bo lp.length cb) lp) (hc : Sl w (.slice co lb.length cc) lb) (hd : Sl w (.slice dq lq.length cd) lq) (hf0 : ¬ (la.length ≤ 40 ∧ lp.length ≤ 40 ∧ lb.length ≤ 40 ∧ lq.length ≤ 40)) :
    Calls Try.prog 3 #[.agg #[.slice ao la.length ca], .agg #[.slice bo lp.length cb], .agg #[.slice co lb.length cc], .agg #[.slice dq lq.length cd]] w fun e w' => e = .returned (.bool true) ∧ Below w.heap.size w w' := by
  have hf := Lib.hid hf0
  clear hf0
  have E0 : Hid (EnvB w [] [(.slice dq lq.length cd, lq), (.slice co lb.length cc, lb), (.slice bo lp.length cb, lp), (.slice ao la.length ca, la)] w) := Lib.hid (((((EnvB.start w).num ha).num hb).num hc).num hd)
  clear ha hb hc hd
  go_enter Try.func3, Try.ntmps3
  go_wp2_with fail
  have E1 : Hid (EnvB w [(w.heap.size + 1 + 1 + 1, .slice dq lq.length cd), (w.heap.size + 1 + 1, .slice co lb.length cc), (w.heap.size + 1, .slice bo lp.length cb), (w.heap.size, .slice ao la.length ca)] [(.slice dq lq.length cd, lq), (.slice co lb.length cc, lb), (.slice bo lp.length cb, lp), (.slice ao la.length ca, la)] _) := Lib.hid (((((E0.out.push (.slice ao la.length ca) 24 ⟨_, _, _, rfl⟩ (w.heap.size) (by simp)).push (.slice bo lp.length cb) 24 ⟨_, _, _, rfl⟩ (w.heap.size + 1) (by simp)).push (.slice co lb.length cc) 24 ⟨_, _, _, rfl⟩ (w.heap.size + 1 + 1) (by simp)).push (.slice dq lq.length cd) 24 ⟨_, _, _, rfl⟩ (w.heap.size + 1 + 1 + 1) (by simp)))
  refine (awake_c _).mono ?_
  rintro e w1 ⟨rfl, hb⟩
  have E2 : Hid (EnvB w [(w.heap.size + 1 + 1 + 1, .slice dq lq.length cd), (w.heap.size + 1 + 1, .slice co lb.length cc), (w.heap.size + 1, .slice bo lp.length cb), (w.heap.size, .slice ao la.length ca)] [(.slice dq lq.length cd, lq), (.slice co lb.length cc, lb), (.slice bo lp.length cb, lp), (.slice ao la.length ca, la)] _) := Lib.hid ((E1.out.below hb))
  clear E1 E0 hb
  obtain ⟨p1, f1, -, -, -⟩ := E2.out.box 3 rfl
  obtain ⟨p2, f2, -, -, -⟩ := E2.out.box 2 rfl
  obtain ⟨p3, f3, -, -, -⟩ := E2.out.box 1 rfl
  obtain ⟨p4, f4, -, -, -⟩ := E2.out.box 0 rfl
  go_wp2_with fail
  refine (few4_f _ _ _ (la) _ _ _ (lp) _ _ _ (lb) _ _ _ (lq) 40 _ (E2.out.sl 3 rfl) (E2.out.sl 2 rfl) (E2.out.sl 1 rfl) (E2.out.sl 0 rfl) hf.out _ (by simp)).mono ?_
  rintro e w2 ⟨rfl, hb⟩
  have E3 : Hid (EnvB w [(w.heap.size + 1 + 1 + 1, .slice dq lq.length cd), (w.heap.size + 1 + 1, .slice co lb.length cc), (w.heap.size + 1, .slice bo lp.length cb), (w.heap.size, .slice ao la.length ca)] [(.slice dq lq.length cd, lq), (.slice co lb.length cc, lb), (.slice bo lp.length cb, lp), (.slice ao la.length ca, la)] _) := Lib.hid ((E2.out.below hb))
  clear p1 f1 p2 f2 p3 f3 p4 f4 E2 hb
  go_wp2_with fail
  refine (awake_c _).mono ?_
  rintro e w3 ⟨rfl, hb⟩
  have E4 : Hid (EnvB w [(w.heap.size + 1 + 1 + 1, .slice dq lq.length cd), (w.heap.size + 1 + 1, .slice co lb.length cc), (w.heap.size + 1, .slice bo lp.length cb), (w.heap.size, .slice ao la.length ca)] [(.slice dq lq.length cd, lq), (.slice co lb.length cc, lb), (.slice bo lp.length cb, lp), (.slice ao la.length ca, la)] _) := Lib.hid ((E3.out.below hb))
  clear E3 hb
  have hfin := Lib.hid E4.out.1
  go_wp2
  go_ret
  exact ⟨rfl, hfin.out⟩
set_option maxRecDepth 100000 in
set_option maxHeartbeats 1000000 in
theorem Crt_bigC (ao : Option Addr) (ca : Nat) (bo : Option Addr) (cb : Nat) (co : Option Addr) (cc : Nat) (dq : Option Addr) (cd : Nat) (la lp lb lq : List Nat)  (w : World) (ha : Sl w (.slice ao la.length ca) la) (hb : Sl w (.slice bo lp.length cb) lp) (hc : Sl w (.slice co lb.length cc) lb) (hd : Sl w (.slice dq lq.length cd) lq) (hf0 : la.length ≤ 40 ∧ lp.length ≤ 40 ∧ lb.length ≤ 40 ∧ lq.length ≤ 40) (hf60 : ¬ (lp.length ≤ 6 ∧ lq.length ≤ 6)) (hs0 : lp.length + lq.length < 34) :
    Calls Try.prog 3 #[.agg #[.slice ao la.length ca], .agg #[.slice bo lp.length cb], .agg #[.slice co lb.length cc], .agg #[.slice dq lq.length cd]] w fun e w' => e = .returned (.bool true) ∧ Below w.heap.size w w' := by
  have hf := Lib.hid hf0
  have hf6 := Lib.hid hf60
  have hs := Lib.hid hs0
  have hwr : Hid (wrap64 ((lp.length : Nat) + (lq.length : Nat) : Int) = ((lp.length : Nat) + (lq.length : Nat) : Int) ∧ lp.length ≤ 40 ∧ lq.length ≤ 40) := Lib.hid ⟨IntWalk.wrap64_in _ ⟨by omega, by omega⟩, by omega, by omega⟩
  clear hf0 hf60 hs0
  have E0 : Hid (EnvB w [] [(.slice dq lq.length cd, lq), (.slice co lb.length cc, lb), (.slice bo lp.length cb, lp), (.slice ao la.length ca, la)] w) := Lib.hid (((((EnvB.start w).num ha).num hb).num hc).num hd)
  clear ha hb hc hd
  go_enter Try.func3, Try.ntmps3
  go_wp2_with fail
  have E1 : Hid (EnvB w [(w.heap.size + 1 + 1 + 1, .slice dq lq.length cd), (w.heap.size + 1 + 1, .slice co lb.length cc), (w.heap.size + 1, .slice bo lp.length cb), (w.heap.size, .slice ao la.length ca)] [(.slice dq lq.length cd, lq), (.slice co lb.length cc, lb), (.slice bo lp.length cb, lp), (.slice ao la.length ca, la)] _) := Lib.hid (((((E0.out.push (.slice ao la.length ca) 24 ⟨_, _, _, rfl⟩ (w.heap.size) (by simp)).push (.slice bo lp.length cb) 24 ⟨_, _, _, rfl⟩ (w.heap.size + 1) (by simp)).push (.slice co lb.length cc) 24 ⟨_, _, _, rfl⟩ (w.heap.size + 1 + 1) (by simp)).push (.slice dq lq.length cd) 24 ⟨_, _, _, rfl⟩ (w.heap.size + 1 + 1 + 1) (by simp)))
  refine (awake_c _).mono ?_
  rintro e w1 ⟨rfl, hb⟩
  have E2 : Hid (EnvB w [(w.heap.size + 1 + 1 + 1, .slice dq lq.length cd), (w.heap.size + 1 + 1, .slice co lb.length cc), (w.heap.size + 1, .slice bo lp.length cb), (w.heap.size, .slice ao la.length ca)] [(.slice dq lq.length cd, lq), (.slice co lb.length cc, lb), (.slice bo lp.length cb, lp), (.slice ao la.length ca, la)] _) := Lib.hid ((E1.out.below hb))
  clear E1 E0 hb
  obtain ⟨p1, f1, -, -, -⟩ := E2.out.box 3 rfl
  obtain ⟨p2, f2, -, -, -⟩ := E2.out.box 2 rfl
  obtain ⟨p3, f3, -, -, -⟩ := E2.out.box 1 rfl
  obtain ⟨p4, f4, -, -, -⟩ := E2.out.box 0 rfl
  go_wp2_with fail
  refine (few4_t _ _ _ (la) _ _ _ (lp) _ _ _ (lb) _ _ _ (lq) 40 _ (E2.out.sl 3 rfl) (E2.out.sl 2 rfl) (E2.out.sl 1 rfl) (E2.out.sl 0 rfl) hf.out _ (by simp)).mono ?_
  rintro e w2 ⟨rfl, hb⟩
  have E3 : Hid (EnvB w [(w.heap.size + 1 + 1 + 1, .slice dq lq.length cd), (w.heap.size + 1 + 1, .slice co lb.length cc), (w.heap.size + 1, .slice bo lp.length cb), (w.heap.size, .slice ao la.length ca)] [(.slice dq lq.length cd, lq), (.slice co lb.length cc, lb), (.slice bo lp.length cb, lp), (.slice ao la.length ca, la)] _) := Lib.hid ((E2.out.below hb))
  clear p1 f1 p2 f2 p3 f3 p4 f4 E2 hb
  obtain ⟨p5, f5, -, -, -⟩ := E3.out.box 2 rfl
  obtain ⟨p6, f6, -, -, -⟩ := E3.out.box 0 rfl
  go_wp2_with fail
  refine (few2_f _ _ _ (lp) _ _ _ (lq) 6 _ (E3.out.sl 2 rfl) (E3.out.sl 0 rfl) hf6.out _ (by simp)).mono ?_
  rintro e w3 ⟨rfl, hb⟩
  have E4 : Hid (EnvB w [(w.heap.size + 1 + 1 + 1, .slice dq lq.length cd), (w.heap.size + 1 + 1, .slice co lb.length cc), (w.heap.size + 1, .slice bo lp.length cb), (w.heap.size, .slice ao la.length ca)] [(.slice dq lq.length cd, lq), (.slice co lb.length cc, lb), (.slice bo lp.length cb, lp), (.slice ao la.length ca, la)] _) := Lib.hid ((E3.out.below hb))
  clear p5 f5 p6 f6 E3 hb
  obtain ⟨p7, f7, -, -, -⟩ := E4.out.box 2 rfl
  obtain ⟨p8, f8, -, -, -⟩ := E4.out.box 0 rfl
  go_wp2_with fail
  all_goals (try (exfalso; obtain ⟨hw1, hw2, hw3⟩ := hwr.out; have hw4 := hs.out; clear hwr; omega))
  refine (awake_c _).mono ?_
  rintro e w4 ⟨rfl, hb⟩
  have E5 : Hid (EnvB w [(w.heap.size + 1 + 1 + 1, .slice dq lq.length cd), (w.heap.size + 1 + 1, .slice co lb.length cc), (w.heap.size + 1, .slice bo lp.length cb), (w.heap.size, .slice ao la.length ca)] [(.slice dq lq.length cd, lq), (.slice co lb.length cc, lb), (.slice bo lp.length cb, lp), (.slice ao la.length ca, la)] _) := Lib.hid ((E4.out.below hb))
  clear p7 f7 p8 f8 E4 hb
  have hfin := Lib.hid E5.out.1
  go_wp2
  go_ret
  exact ⟨rfl, hfin.out⟩
set_option maxRecDepth 100000 in
set_option maxHeartbeats 1000000 in
theorem Crt_bA0 (ao : Option Addr) (ca : Nat) (bo : Option Addr) (cb : Nat) (co : Option Addr) (cc : Nat) (dq : Option Addr) (cd : Nat) (la lp lb lq : List Nat)  (w : World) (ha : Sl w (.slice ao la.length ca) la) (hb : Sl w (.slice bo lp.length cb) lp) (hc : Sl w (.slice co lb.length cc) lb) (hd : Sl w (.slice dq lq.length cd) lq) (hf0 : la.length ≤ 40 ∧ lp.length ≤ 40 ∧ lb.length ≤ 40 ∧ lq.length ≤ 40) (hf60 : lp.length ≤ 6 ∧ lq.length ≤ 6) (k20 : mdl lp = false) :
    Calls Try.prog 3 #[.agg #[.slice ao la.length ca], .agg #[.slice bo lp.length cb], .agg #[.slice co lb.length cc], .agg #[.slice dq lq.length cd]] w fun e w' => e = .returned (.bool true) ∧ Below w.heap.size w w' := by
  have hf := Lib.hid hf0
  have hf6 := Lib.hid hf60
  have k2 := Lib.hid k20
  have hwr : Hid (wrap64 ((lp.length : Nat) + (lq.length : Nat) : Int) = ((lp.length : Nat) + (lq.length : Nat) : Int) ∧ lp.length ≤ 40 ∧ lq.length ≤ 40) := Lib.hid ⟨IntWalk.wrap64_in _ ⟨by omega, by omega⟩, by omega, by omega⟩
  clear hf0 hf60 k20
  have E0 : Hid (EnvB w [] [(.slice dq lq.length cd, lq), (.slice co lb.length cc, lb), (.slice bo lp.length cb, lp), (.slice ao la.length ca, la)] w) := Lib.hid (((((EnvB.start w).num ha).num hb).num hc).num hd)
  clear ha hb hc hd
  go_enter Try.func3, Try.ntmps3
  go_wp2_with fail
  have E1 : Hid (EnvB w [(w.heap.size + 1 + 1 + 1, .slice dq lq.length cd), (w.heap.size + 1 + 1, .slice co lb.length cc), (w.heap.size + 1, .slice bo lp.length cb), (w.heap.size, .slice ao la.length ca)] [(.slice dq lq.length cd, lq), (.slice co lb.length cc, lb), (.slice bo lp.length cb, lp), (.slice ao la.length ca, la)] _) := Lib.hid (((((E0.out.push (.slice ao la.length ca) 24 ⟨_, _, _, rfl⟩ (w.heap.size) (by simp)).push (.slice bo lp.length cb) 24 ⟨_, _, _, rfl⟩ (w.heap.size + 1) (by simp)).push (.slice co lb.length cc) 24 ⟨_, _, _, rfl⟩ (w.heap.size + 1 + 1) (by simp)).push (.slice dq lq.length cd) 24 ⟨_, _, _, rfl⟩ (w.heap.size + 1 + 1 + 1) (by simp)))
  refine (awake_c _).mono ?_
  rintro e w1 ⟨rfl, hb⟩
  have E2 : Hid (EnvB w [(w.heap.size + 1 + 1 + 1, .slice dq lq.length cd), (w.heap.size + 1 + 1, .slice co lb.length cc), (w.heap.size + 1, .slice bo lp.length cb), (w.heap.size, .slice ao la.length ca)] [(.slice dq lq.length cd, lq), (.slice co lb.length cc, lb), (.slice bo lp.length cb, lp), (.slice ao la.length ca, la)] _) := Lib.hid ((E1.out.below hb))
  clear E1 E0 hb
  obtain ⟨p1, f1, -, -, -⟩ := E2.out.box 3 rfl
  obtain ⟨p2, f2, -, -, -⟩ := E2.out.box 2 rfl
  obtain ⟨p3, f3, -, -, -⟩ := E2.out.box 1 rfl
  obtain ⟨p4, f4, -, -, -⟩ := E2.out.box 0 rfl
  go_wp2_with fail
  refine (few4_t _ _ _ (la) _ _ _ (lp) _ _ _ (lb) _ _ _ (lq) 40 _ (E2.out.sl 3 rfl) (E2.out.sl 2 rfl) (E2.out.sl 1 rfl) (E2.out.sl 0 rfl) hf.out _ (by simp)).mono ?_
  rintro e w2 ⟨rfl, hb⟩
  have E3 : Hid (EnvB w [(w.heap.size + 1 + 1 + 1, .slice dq lq.length cd), (w.heap.size + 1 + 1, .slice co lb.length cc), (w.heap.size + 1, .slice bo lp.length cb), (w.heap.size, .slice ao la.length ca)] [(.slice dq lq.length cd, lq), (.slice co lb.length cc, lb), (.slice bo lp.length cb, lp), (.slice ao la.length ca, la)] _) := Lib.hid ((E2.out.below hb))
  clear p1 f1 p2 f2 p3 f3 p4 f4 E2 hb
  obtain ⟨p5, f5, -, -, -⟩ := E3.out.box 2 rfl
  obtain ⟨p6, f6, -, -, -⟩ := E3.out.box 0 rfl
  go_wp2_with fail
  refine (few2_t _ _ _ (lp) _ _ _ (lq) 6 _ (E3.out.sl 2 rfl) (E3.out.sl 0 rfl) hf6.out _ (by simp)).mono ?_
  rintro e w3 ⟨rfl, hb⟩
  have E4 : Hid (EnvB w [(w.heap.size + 1 + 1 + 1, .slice dq lq.length cd), (w.heap.size + 1 + 1, .slice co lb.length cc), (w.heap.size + 1, .slice bo lp.length cb), (w.heap.size, .slice ao la.length ca)] [(.slice dq lq.length cd, lq), (.slice co lb.length cc, lb), (.slice bo lp.length cb, lp), (.slice ao la.length ca, la)] _) := Lib.hid ((E3.out.below hb))
  clear p5 f5 p6 f6 E3 hb
  obtain ⟨p7, f7, -, -, -⟩ := E4.out.box 3 rfl
  obtain ⟨p8, f8, -, -, -⟩ := E4.out.box 2 rfl
  obtain ⟨p9, f9, -, -, -⟩ := E4.out.box 1 rfl
  obtain ⟨p10, f10, -, -, -⟩ := E4.out.box 0 rfl
  go_wp2_with fail
  refine (crt_z1 (.inr (.inr (.inl k2.out))) (E4.out.sl 3 rfl) (E4.out.sl 2 rfl) (E4.out.sl 1 rfl) (E4.out.sl 0 rfl)).mono ?_
  rintro e w4 ⟨⟨xa, xk, rfl⟩, hb⟩
  have E5 : Hid (EnvB w [(w.heap.size + 1 + 1 + 1, .slice dq lq.length cd), (w.heap.size + 1 + 1, .slice co lb.length cc), (w.heap.size + 1, .slice bo lp.length cb), (w.heap.size, .slice ao la.length ca)] [(.slice dq lq.length cd, lq), (.slice co lb.length cc, lb), (.slice bo lp.length cb, lp), (.slice ao la.length ca, la)] _) := Lib.hid ((E4.out.below hb))
  clear p7 f7 p8 f8 p9 f9 p10 f10 E4 hb
  have E6 : Hid (EnvB w [(w4.heap.size, .slice xa 0 xk), (w.heap.size + 1 + 1 + 1, .slice dq lq.length cd), (w.heap.size + 1 + 1, .slice co lb.length cc), (w.heap.size + 1, .slice bo lp.length cb), (w.heap.size, .slice ao la.length ca)] [(.slice dq lq.length cd, lq), (.slice co lb.length cc, lb), (.slice bo lp.length cb, lp), (.slice ao la.length ca, la)] _) := Lib.hid ((E5.out.push (.slice xa 0 xk) 24 ⟨_, _, _, rfl⟩ (w4.heap.size) (by simp)))
  obtain ⟨p11, f11, -, -, -⟩ := E6.out.box 3 rfl
  go_wp2_with fail
  refine (first0_c _ _ _ (lp) 1 _ (fst0_f k2.out) (E6.out.sl 2 rfl)).mono ?_
  rintro e w5 ⟨rfl, hb⟩
  have E7 : Hid (EnvB w [(w4.heap.size, .slice xa 0 xk), (w.heap.size + 1 + 1 + 1, .slice dq lq.length cd), (w.heap.size + 1 + 1, .slice co lb.length cc), (w.heap.size + 1, .slice bo lp.length cb), (w.heap.size, .slice ao la.length ca)] [(.slice dq lq.length cd, lq), (.slice co lb.length cc, lb), (.slice bo lp.length cb, lp), (.slice ao la.length ca, la)] _) := Lib.hid ((E6.out.below hb))
  clear p11 f11 E6 E5 hb
  obtain ⟨p12, f12, -, -, -⟩ := E7.out.box 0 rfl
  have hfin := Lib.hid E7.out.1
  go_wp2
  go_ret
  exact ⟨rfl, hfin.out⟩
set_option maxRecDepth 100000 in
set_option maxHeartbeats 1000000 in
theorem Crt_bA1 (ao : Option Addr) (ca : Nat) (bo : Option Addr) (cb : Nat) (co : Option Addr) (cc : Nat) (dq : Option Addr) (cd : Nat) (la lp lb lq : List Nat)  (w : World) (ha : Sl w (.slice ao la.length ca) la) (hb : Sl w (.slice bo lp.length cb) lp) (hc : Sl w (.slice co lb.length cc) lb) (hd : Sl w (.slice dq lq.length cd) lq) (hf0 : la.length ≤ 40 ∧ lp.length ≤ 40 ∧ lb.length ≤ 40 ∧ lq.length ≤ 40) (hf60 : lp.length ≤ 6 ∧ lq.length ≤ 6) (k20 : mdl lp = true) (k30 : mdl lq = false) :
    Calls Try.prog 3 #[.agg #[.slice ao la.length ca], .agg #[.slice bo lp.length cb], .agg #[.slice co lb.length cc], .agg #[.slice dq lq.length cd]] w fun e w' => e = .returned (.bool true) ∧ Below w.heap.size w w' := by
  have hf := Lib.hid hf0
  have hf6 := Lib.hid hf60
  have k2 := Lib.hid k20
  have k3 := Lib.hid k30
  have hwr : Hid (wrap64 ((lp.length : Nat) + (lq.length : Nat) : Int) = ((lp.length : Nat) + (lq.length : Nat) : Int) ∧ lp.length ≤ 40 ∧ lq.length ≤ 40) := Lib.hid ⟨IntWalk.wrap64_in _ ⟨by omega, by omega⟩, by omega, by omega⟩
  clear hf0 hf60 k20 k30
  have E0 : Hid (EnvB w [] [(.slice dq lq.length cd, lq), (.slice co lb.length cc, lb), (.slice bo lp.length cb, lp), (.slice ao la.length ca, la)] w) := Lib.hid (((((EnvB.start w).num ha).num hb).num hc).num hd)
  clear ha hb hc hd
  go_enter Try.func3, Try.ntmps3
  go_wp2_with fail
  have E1 : Hid (EnvB w [(w.heap.size + 1 + 1 + 1, .slice dq lq.length cd), (w.heap.size + 1 + 1, .slice co lb.length cc), (w.heap.size + 1, .slice bo lp.length cb), (w.heap.size, .slice ao la.length ca)] [(.slice dq lq.length cd, lq), (.slice co lb.length cc, lb), (.slice bo lp.length cb, lp), (.slice ao la.length ca, la)] _) := Lib.hid (((((E0.out.push (.slice ao la.length ca) 24 ⟨_, _, _, rfl⟩ (w.heap.size) (by simp)).push (.slice bo lp.length cb) 24 ⟨_, _, _, rfl⟩ (w.heap.size + 1) (by simp)).push (.slice co lb.length cc) 24 ⟨_, _, _, rfl⟩ (w.heap.size + 1 + 1) (by simp)).push (.slice dq lq.length cd) 24 ⟨_, _, _, rfl⟩ (w.heap.size + 1 + 1 + 1) (by simp)))
  refine (awake_c _).mono ?_
  rintro e w1 ⟨rfl, hb⟩
  have E2 : Hid (EnvB w [(w.heap.size + 1 + 1 + 1, .slice dq lq.length cd), (w.heap.size + 1 + 1, .slice co lb.length cc), (w.heap.size + 1, .slice bo lp.length cb), (w.heap.size, .slice ao la.length ca)] [(.slice dq lq.length cd, lq), (.slice co lb.length cc, lb), (.slice bo lp.length cb, lp), (.slice ao la.length ca, la)] _) := Lib.hid ((E1.out.below hb))
  clear E1 E0 hb
  obtain ⟨p1, f1, -, -, -⟩ := E2.out.box 3 rfl
  obtain ⟨p2, f2, -, -, -⟩ := E2.out.box 2 rfl
  obtain ⟨p3, f3, -, -, -⟩ := E2.out.box 1 rfl
  obtain ⟨p4, f4, -, -, -⟩ := E2.out.box 0 rfl
  go_wp2_with fail
  refine (few4_t _ _ _ (la) _ _ _ (lp) _ _ _ (lb) _ _ _ (lq) 40 _ (E2.out.sl 3 rfl) (E2.out.sl 2 rfl) (E2.out.sl 1 rfl) (E2.out.sl 0 rfl) hf.out _ (by simp)).mono ?_
  rintro e w2 ⟨rfl, hb⟩
  have E3 : Hid (EnvB w [(w.heap.size + 1 + 1 + 1, .slice dq lq.length cd), (w.heap.size + 1 + 1, .slice co lb.length cc), (w.heap.size + 1, .slice bo lp.length cb), (w.heap.size, .slice ao la.length ca)] [(.slice dq lq.length cd, lq), (.slice co lb.length cc, lb), (.slice bo lp.length cb, lp), (.slice ao la.length ca, la)] _) := Lib.hid ((E2.out.below hb))
  clear p1 f1 p2 f2 p3 f3 p4 f4 E2 hb
  obtain ⟨p5, f5, -, -, -⟩ := E3.out.box 2 rfl
  obtain ⟨p6, f6, -, -, -⟩ := E3.out.box 0 rfl
  go_wp2_with fail
  refine (few2_t _ _ _ (lp) _ _ _ (lq) 6 _ (E3.out.sl 2 rfl) (E3.out.sl 0 rfl) hf6.out _ (by simp)).mono ?_
  rintro e w3 ⟨rfl, hb⟩
  have E4 : Hid (EnvB w [(w.heap.size + 1 + 1 + 1, .slice dq lq.length cd), (w.heap.size + 1 + 1, .slice co lb.length cc), (w.heap.size + 1, .slice bo lp.length cb), (w.heap.size, .slice ao la.length ca)] [(.slice dq lq.length cd, lq), (.slice co lb.length cc, lb), (.slice bo lp.length cb, lp), (.slice ao la.length ca, la)] _) := Lib.hid ((E3.out.below hb))
  clear p5 f5 p6 f6 E3 hb
  obtain ⟨p7, f7, -, -, -⟩ := E4.out.box 3 rfl
  obtain ⟨p8, f8, -, -, -⟩ := E4.out.box 2 rfl
  obtain ⟨p9, f9, -, -, -⟩ := E4.out.box 1 rfl
  obtain ⟨p10, f10, -, -, -⟩ := E4.out.box 0 rfl
  go_wp2_with fail
  refine (crt_z1 (.inr (.inr (.inr k3.out))) (E4.out.sl 3 rfl) (E4.out.sl 2 rfl) (E4.out.sl 1 rfl) (E4.out.sl 0 rfl)).mono ?_
  rintro e w4 ⟨⟨xa, xk, rfl⟩, hb⟩
  have E5 : Hid (EnvB w [(w.heap.size + 1 + 1 + 1, .slice dq lq.length cd), (w.heap.size + 1 + 1, .slice co lb.length cc), (w.heap.size + 1, .slice bo lp.length cb), (w.heap.size, .slice ao la.length ca)] [(.slice dq lq.length cd, lq), (.slice co lb.length cc, lb), (.slice bo lp.length cb, lp), (.slice ao la.length ca, la)] _) := Lib.hid ((E4.out.below hb))
  clear p7 f7 p8 f8 p9 f9 p10 f10 E4 hb
  have E6 : Hid (EnvB w [(w4.heap.size, .slice xa 0 xk), (w.heap.size + 1 + 1 + 1, .slice dq lq.length cd), (w.heap.size + 1 + 1, .slice co lb.length cc), (w.heap.size + 1, .slice bo lp.length cb), (w.heap.size, .slice ao la.length ca)] [(.slice dq lq.length cd, lq), (.slice co lb.length cc, lb), (.slice bo lp.length cb, lp), (.slice ao la.length ca, la)] _) := Lib.hid ((E5.out.push (.slice xa 0 xk) 24 ⟨_, _, _, rfl⟩ (w4.heap.size) (by simp)))
  obtain ⟨p11, f11, -, -, -⟩ := E6.out.box 3 rfl
  go_wp2_with fail
  refine (first0_c _ _ _ (lp) 0 _ (fst0_t k2.out) (E6.out.sl 2 rfl)).mono ?_
  rintro e w5 ⟨rfl, hb⟩
  have E7 : Hid (EnvB w [(w4.heap.size, .slice xa 0 xk), (w.heap.size + 1 + 1 + 1, .slice dq lq.length cd), (w.heap.size + 1 + 1, .slice co lb.length cc), (w.heap.size + 1, .slice bo lp.length cb), (w.heap.size, .slice ao la.length ca)] [(.slice dq lq.length cd, lq), (.slice co lb.length cc, lb), (.slice bo lp.length cb, lp), (.slice ao la.length ca, la)] _) := Lib.hid ((E6.out.below hb))
  clear p11 f11 E6 E5 hb
  obtain ⟨p12, f12, -, -, -⟩ := E7.out.box 1 rfl
  go_wp2_with fail
  refine (first0_c _ _ _ (lq) 1 _ (fst0_f k3.out) (E7.out.sl 0 rfl)).mono ?_
  rintro e w6 ⟨rfl, hb⟩
  have E8 : Hid (EnvB w [(w4.heap.size, .slice xa 0 xk), (w.heap.size + 1 + 1 + 1, .slice dq lq.length cd), (w.heap.size + 1 + 1, .slice co lb.length cc), (w.heap.size + 1, .slice bo lp.length cb), (w.heap.size, .slice ao la.length ca)] [(.slice dq lq.length cd, lq), (.slice co lb.length cc, lb), (.slice bo lp.length cb, lp), (.slice ao la.length ca, la)] _) := Lib.hid ((E7.out.below hb))
  clear p12 f12 E7 hb
  obtain ⟨p13, f13, -, -, -⟩ := E8.out.box 0 rfl
  have hfin := Lib.hid E8.out.1
  go_wp2
  go_ret
  exact ⟨rfl, hfin.out⟩
set_option maxRecDepth 100000 in
set_option maxHeartbeats 1000000 in
theorem Crt_bA2 (ao : Option Addr) (ca : Nat) (bo : Option Addr) (cb : Nat) (co : Option Addr) (cc : Nat) (dq : Option Addr) (cd : Nat) (la lp lb lq : List Nat)  (w : World) (ha : Sl w (.slice ao la.length ca) la) (hb : Sl w (.slice bo lp.length cb) lp) (hc : Sl w (.slice co lb.length cc) lb) (hd : Sl w (.slice dq lq.length cd) lq) (hf0 : la.length ≤ 40 ∧ lp.length ≤ 40 ∧ lb.length ≤ 40 ∧ lq.length ≤ 40) (hf60 : lp.length ≤ 6 ∧ lq.length ≤ 6) (k20 : mdl lp = true) (k30 : mdl lq = true) (k00 : vld la = false) :
    Calls Try.prog 3 #[.agg #[.slice ao la.length ca], .agg #[.slice bo lp.length cb], .agg #[.slice co lb.length cc], .agg #[.slice dq lq.length cd]] w fun e w' => e = .returned (.bool true) ∧ Below w.heap.size w w' := by
  have hf := Lib.hid hf0
  have hf6 := Lib.hid hf60
  have k2 := Lib.hid k20
  have k3 := Lib.hid k30
  have k0 := Lib.hid k00
  have hwr : Hid (wrap64 ((lp.length : Nat) + (lq.length : Nat) : Int) = ((lp.length : Nat) + (lq.length : Nat) : Int) ∧ lp.length ≤ 40 ∧ lq.length ≤ 40) := Lib.hid ⟨IntWalk.wrap64_in _ ⟨by omega, by omega⟩, by omega, by omega⟩
  clear hf0 hf60 k20 k30 k00
  have E0 : Hid (EnvB w [] [(.slice dq lq.length cd, lq), (.slice co lb.length cc, lb), (.slice bo lp.length cb, lp), (.slice ao la.length ca, la)] w) := Lib.hid (((((EnvB.start w).num ha).num hb).num hc).num hd)
  clear ha hb hc hd
  go_enter Try.func3, Try.ntmps3
  go_wp2_with fail
  have E1 : Hid (EnvB w [(w.heap.size + 1 + 1 + 1, .slice dq lq.length cd), (w.heap.size + 1 + 1, .slice co lb.length cc), (w.heap.size + 1, .slice bo lp.length cb), (w.heap.size, .slice ao la.length ca)] [(.slice dq lq.length cd, lq), (.slice co lb.length cc, lb), (.slice bo lp.length cb, lp), (.slice ao la.length ca, la)] _) := Lib.hid (((((E0.out.push (.slice ao la.length ca) 24 ⟨_, _, _, rfl⟩ (w.heap.size) (by simp)).push (.slice bo lp.length cb) 24 ⟨_, _, _, rfl⟩ (w.heap.size + 1) (by simp)).push (.slice co lb.length cc) 24 ⟨_, _, _, rfl⟩ (w.heap.size + 1 + 1) (by simp)).push (.slice dq lq.length cd) 24 ⟨_, _, _, rfl⟩ (w.heap.size + 1 + 1 + 1) (by simp)))
  refine (awake_c _).mono ?_
  rintro e w1 ⟨rfl, hb⟩
  have E2 : Hid (EnvB w [(w.heap.size + 1 + 1 + 1, .slice dq lq.length cd), (w.heap.size + 1 + 1, .slice co lb.length cc), (w.heap.size + 1, .slice bo lp.length cb), (w.heap.size, .slice ao la.length ca)] [(.slice dq lq.length cd, lq), (.slice co lb.length cc, lb), (.slice bo lp.length cb, lp), (.slice ao la.length ca, la)] _) := Lib.hid ((E1.out.below hb))
  clear E1 E0 hb
  obtain ⟨p1, f1, -, -, -⟩ := E2.out.box 3 rfl
  obtain ⟨p2, f2, -, -, -⟩ := E2.out.box 2 rfl
  obtain ⟨p3, f3, -, -, -⟩ := E2.out.box 1 rfl
  obtain ⟨p4, f4, -, -, -⟩ := E2.out.box 0 rfl
  go_wp2_with fail
  refine (few4_t _ _ _ (la) _ _ _ (lp) _ _ _ (lb) _ _ _ (lq) 40 _ (E2.out.sl 3 rfl) (E2.out.sl 2 rfl) (E2.out.sl 1 rfl) (E2.out.sl 0 rfl) hf.out _ (by simp)).mono ?_
  rintro e w2 ⟨rfl, hb⟩
  have E3 : Hid (EnvB w [(w.heap.size + 1 + 1 + 1, .slice dq lq.length cd), (w.heap.size + 1 + 1, .slice co lb.length cc), (w.heap.size + 1, .slice bo lp.length cb), (w.heap.size, .slice ao la.length ca)] [(.slice dq lq.length cd, lq), (.slice co lb.length cc, lb), (.slice bo lp.length cb, lp), (.slice ao la.length ca, la)] _) := Lib.hid ((E2.out.below hb))
  clear p1 f1 p2 f2 p3 f3 p4 f4 E2 hb
  obtain ⟨p5, f5, -, -, -⟩ := E3.out.box 2 rfl
  obtain ⟨p6, f6, -, -, -⟩ := E3.out.box 0 rfl
  go_wp2_with fail
  refine (few2_t _ _ _ (lp) _ _ _ (lq) 6 _ (E3.out.sl 2 rfl) (E3.out.sl 0 rfl) hf6.out _ (by simp)).mono ?_
  rintro e w3 ⟨rfl, hb⟩
  have E4 : Hid (EnvB w [(w.heap.size + 1 + 1 + 1, .slice dq lq.length cd), (w.heap.size + 1 + 1, .slice co lb.length cc), (w.heap.size + 1, .slice bo lp.length cb), (w.heap.size, .slice ao la.length ca)] [(.slice dq lq.length cd, lq), (.slice co lb.length cc, lb), (.slice bo lp.length cb, lp), (.slice ao la.length ca, la)] _) := Lib.hid ((E3.out.below hb))
  clear p5 f5 p6 f6 E3 hb
  obtain ⟨p7, f7, -, -, -⟩ := E4.out.box 3 rfl
  obtain ⟨p8, f8, -, -, -⟩ := E4.out.box 2 rfl
  obtain ⟨p9, f9, -, -, -⟩ := E4.out.box 1 rfl
  obtain ⟨p10, f10, -, -, -⟩ := E4.out.box 0 rfl
  go_wp2_with fail
  refine (crt_z1 (.inl k0.out) (E4.out.sl 3 rfl) (E4.out.sl 2 rfl) (E4.out.sl 1 rfl) (E4.out.sl 0 rfl)).mono ?_
  rintro e w4 ⟨⟨xa, xk, rfl⟩, hb⟩
  have E5 : Hid (EnvB w [(w.heap.size + 1 + 1 + 1, .slice dq lq.length cd), (w.heap.size + 1 + 1, .slice co lb.length cc), (w.heap.size + 1, .slice bo lp.length cb), (w.heap.size, .slice ao la.length ca)] [(.slice dq lq.length cd, lq), (.slice co lb.length cc, lb), (.slice bo lp.length cb, lp), (.slice ao la.length ca, la)] _) := Lib.hid ((E4.out.below hb))
  clear p7 f7 p8 f8 p9 f9 p10 f10 E4 hb
  have E6 : Hid (EnvB w [(w4.heap.size, .slice xa 0 xk), (w.heap.size + 1 + 1 + 1, .slice dq lq.length cd), (w.heap.size + 1 + 1, .slice co lb.length cc), (w.heap.size + 1, .slice bo lp.length cb), (w.heap.size, .slice ao la.length ca)] [(.slice dq lq.length cd, lq), (.slice co lb.length cc, lb), (.slice bo lp.length cb, lp), (.slice ao la.length ca, la)] _) := Lib.hid ((E5.out.push (.slice xa 0 xk) 24 ⟨_, _, _, rfl⟩ (w4.heap.size) (by simp)))
  obtain ⟨p11, f11, -, -, -⟩ := E6.out.box 3 rfl
  go_wp2_with fail
  refine (first0_c _ _ _ (lp) 0 _ (fst0_t k2.out) (E6.out.sl 2 rfl)).mono ?_
  rintro e w5 ⟨rfl, hb⟩
  have E7 : Hid (EnvB w [(w4.heap.size, .slice xa 0 xk), (w.heap.size + 1 + 1 + 1, .slice dq lq.length cd), (w.heap.size + 1 + 1, .slice co lb.length cc), (w.heap.size + 1, .slice bo lp.length cb), (w.heap.size, .slice ao la.length ca)] [(.slice dq lq.length cd, lq), (.slice co lb.length cc, lb), (.slice bo lp.length cb, lp), (.slice ao la.length ca, la)] _) := Lib.hid ((E6.out.below hb))
  clear p11 f11 E6 E5 hb
  obtain ⟨p12, f12, -, -, -⟩ := E7.out.box 1 rfl
  go_wp2_with fail
  refine (first0_c _ _ _ (lq) 0 _ (fst0_t k3.out) (E7.out.sl 0 rfl)).mono ?_
  rintro e w6 ⟨rfl, hb⟩
  have E8 : Hid (EnvB w [(w4.heap.size, .slice xa 0 xk), (w.heap.size + 1 + 1 + 1, .slice dq lq.length cd), (w.heap.size + 1 + 1, .slice co lb.length cc), (w.heap.size + 1, .slice bo lp.length cb), (w.heap.size, .slice ao la.length ca)] [(.slice dq lq.length cd, lq), (.slice co lb.length cc, lb), (.slice bo lp.length cb, lp), (.slice ao la.length ca, la)] _) := Lib.hid ((E7.out.below hb))
  clear p12 f12 E7 hb
  obtain ⟨p13, f13, -, -, -⟩ := E8.out.box 4 rfl
  go_wp2_with fail
  refine (rValid_of k0.out (E8.out.sl 3 rfl)).mono ?_
  rintro e w7 ⟨rfl, hb⟩
  have E9 : Hid (EnvB w [(w4.heap.size, .slice xa 0 xk), (w.heap.size + 1 + 1 + 1, .slice dq lq.length cd), (w.heap.size + 1 + 1, .slice co lb.length cc), (w.heap.size + 1, .slice bo lp.length cb), (w.heap.size, .slice ao la.length ca)] [(.slice dq lq.length cd, lq), (.slice co lb.length cc, lb), (.slice bo lp.length cb, lp), (.slice ao la.length ca, la)] _) := Lib.hid ((E8.out.below hb))
  clear p13 f13 E8 hb
  obtain ⟨p14, f14, -, -, -⟩ := E9.out.box 0 rfl
  have hfin := Lib.hid E9.out.1
  go_wp2
  go_ret
  exact ⟨rfl, hfin.out⟩
set_option maxRecDepth 100000 in
set_option maxHeartbeats 1000000 in
theorem Crt_bA3 (ao : Option Addr) (ca : Nat) (bo : Option Addr) (cb : Nat) (co : Option Addr) (cc : Nat) (dq : Option Addr) (cd : Nat) (la lp lb lq : List Nat)  (w : World) (ha : Sl w (.slice ao la.length ca) la) (hb : Sl w (.slice bo lp.length cb) lp) (hc : Sl w (.slice co lb.length cc) lb) (hd : Sl w (.slice dq lq.length cd) lq) (hf0 : la.length ≤ 40 ∧ lp.length ≤ 40 ∧ lb.length ≤ 40 ∧ lq.length ≤ 40) (hf60 : lp.length ≤ 6 ∧ lq.length ≤ 6) (k20 : mdl lp = true) (k30 : mdl lq = true) (k00 : vld la = true) (k10 : vld lb = false) :
    Calls Try.prog 3 #[.agg #[.slice ao la.length ca], .agg #[.slice bo lp.length cb], .agg #[.slice co lb.length cc], .agg #[.slice dq lq.length cd]] w fun e w' => e = .returned (.bool true) ∧ Below w.heap.size w w' := by
  have hf := Lib.hid hf0
  have hf6 := Lib.hid hf60
  have k2 := Lib.hid k20
  have k3 := Lib.hid k30
  have k0 := Lib.hid k00
  have k1 := Lib.hid k10
  have hwr : Hid (wrap64 ((lp.length : Nat) + (lq.length : Nat) : Int) = ((lp.length : Nat) + (lq.length : Nat) : Int) ∧ lp.length ≤ 40 ∧ lq.length ≤ 40) := Lib.hid ⟨IntWalk.wrap64_in _ ⟨by omega, by omega⟩, by omega, by omega⟩
  clear hf0 hf60 k20 k30 k00 k10
  have E0 : Hid (EnvB w [] [(.slice dq lq.length cd, lq), (.slice co lb.length cc, lb), (.slice bo lp.length cb, lp), (.slice ao la.length ca, la)] w) := Lib.hid (((((EnvB.start w).num ha).num hb).num hc).num hd)
  clear ha hb hc hd
  go_enter Try.func3, Try.ntmps3
  go_wp2_with fail
  have E1 : Hid (EnvB w [(w.heap.size + 1 + 1 + 1, .slice dq lq.length cd), (w.heap.size + 1 + 1, .slice co lb.length cc), (w.heap.size + 1, .slice bo lp.length cb), (w.heap.size, .slice ao la.length ca)] [(.slice dq lq.length cd, lq), (.slice co lb.length cc, lb), (.slice bo lp.length cb, lp), (.slice ao la.length ca, la)] _) := Lib.hid (((((E0.out.push (.slice ao la.length ca) 24 ⟨_, _, _, rfl⟩ (w.heap.size) (by simp)).push (.slice bo lp.length cb) 24 ⟨_, _, _, rfl⟩ (w.heap.size + 1) (by simp)).push (.slice co lb.length cc) 24 ⟨_, _, _, rfl⟩ (w.heap.size + 1 + 1) (by simp)).push (.slice dq lq.length cd) 24 ⟨_, _, _, rfl⟩ (w.heap.size + 1 + 1 + 1) (by simp)))
  refine (awake_c _).mono ?_
  rintro e w1 ⟨rfl, hb⟩
  have E2 : Hid (EnvB w [(w.heap.size + 1 + 1 + 1, .slice dq lq.length cd), (w.heap.size + 1 + 1, .slice co lb.length cc), (w.heap.size + 1, .slice bo lp.length cb), (w.heap.size, .slice ao la.length ca)] [(.slice dq lq.length cd, lq), (.slice co lb.length cc, lb), (.slice bo lp.length cb, lp), (.slice ao la.length ca, la)] _) := Lib.hid ((E1.out.below hb))
  clear E1 E0 hb
  obtain ⟨p1, f1, -, -, -⟩ := E2.out.box 3 rfl
  obtain ⟨p2, f2, -, -, -⟩ := E2.out.box 2 rfl
  obtain ⟨p3, f3, -, -, -⟩ := E2.out.box 1 rfl
  obtain ⟨p4, f4, -, -, -⟩ := E2.out.box 0 rfl
  go_wp2_with fail
  refine (few4_t _ _ _ (la) _ _ _ (lp) _ _ _ (lb) _ _ _ (lq) 40 _ (E2.out.sl 3 rfl) (E2.out.sl 2 rfl) (E2.out.sl 1 rfl) (E2.out.sl 0 rfl) hf.out _ (by simp)).mono ?_
  rintro e w2 ⟨rfl, hb⟩
  have E3 : Hid (EnvB w [(w.heap.size + 1 + 1 + 1, .slice dq lq.length cd), (w.heap.size + 1 + 1, .slice co lb.length cc), (w.heap.size + 1, .slice bo lp.length cb), (w.heap.size, .slice ao la.length ca)] [(.slice dq lq.length cd, lq), (.slice co lb.length cc, lb), (.slice bo lp.length cb, lp), (.slice ao la.length ca, la)] _) := Lib.hid ((E2.out.below hb))
  clear p1 f1 p2 f2 p3 f3 p4 f4 E2 hb
  obtain ⟨p5, f5, -, -, -⟩ := E3.out.box 2 rfl
  obtain ⟨p6, f6, -, -, -⟩ := E3.out.box 0 rfl
  go_wp2_with fail
  refine (few2_t _ _ _ (lp) _ _ _ (lq) 6 _ (E3.out.sl 2 rfl) (E3.out.sl 0 rfl) hf6.out _ (by simp)).mono ?_
  rintro e w3 ⟨rfl, hb⟩
  have E4 : Hid (EnvB w [(w.heap.size + 1 + 1 + 1, .slice dq lq.length cd), (w.heap.size + 1 + 1, .slice co lb.length cc), (w.heap.size + 1, .slice bo lp.length cb), (w.heap.size, .slice ao la.length ca)] [(.slice dq lq.length cd, lq), (.slice co lb.length cc, lb), (.slice bo lp.length cb, lp), (.slice ao la.length ca, la)] _) := Lib.hid ((E3.out.below hb))
  clear p5 f5 p6 f6 E3 hb
  obtain ⟨p7, f7, -, -, -⟩ := E4.out.box 3 rfl
  obtain ⟨p8, f8, -, -, -⟩ := E4.out.box 2 rfl
  obtain ⟨p9, f9, -, -, -⟩ := E4.out.box 1 rfl
  obtain ⟨p10, f10, -, -, -⟩ := E4.out.box 0 rfl
  go_wp2_with fail
  refine (crt_z1 (.inr (.inl k1.out)) (E4.out.sl 3 rfl) (E4.out.sl 2 rfl) (E4.out.sl 1 rfl) (E4.out.sl 0 rfl)).mono ?_
  rintro e w4 ⟨⟨xa, xk, rfl⟩, hb⟩
  have E5 : Hid (EnvB w [(w.heap.size + 1 + 1 + 1, .slice dq lq.length cd), (w.heap.size + 1 + 1, .slice co lb.length cc), (w.heap.size + 1, .slice bo lp.length cb), (w.heap.size, .slice ao la.length ca)] [(.slice dq lq.length cd, lq), (.slice co lb.length cc, lb), (.slice bo lp.length cb, lp), (.slice ao la.length ca, la)] _) := Lib.hid ((E4.out.below hb))
  clear p7 f7 p8 f8 p9 f9 p10 f10 E4 hb
  have E6 : Hid (EnvB w [(w4.heap.size, .slice xa 0 xk), (w.heap.size + 1 + 1 + 1, .slice dq lq.length cd), (w.heap.size + 1 + 1, .slice co lb.length cc), (w.heap.size + 1, .slice bo lp.length cb), (w.heap.size, .slice ao la.length ca)] [(.slice dq lq.length cd, lq), (.slice co lb.length cc, lb), (.slice bo lp.length cb, lp), (.slice ao la.length ca, la)] _) := Lib.hid ((E5.out.push (.slice xa 0 xk) 24 ⟨_, _, _, rfl⟩ (w4.heap.size) (by simp)))
  obtain ⟨p11, f11, -, -, -⟩ := E6.out.box 3 rfl
  go_wp2_with fail
  refine (first0_c _ _ _ (lp) 0 _ (fst0_t k2.out) (E6.out.sl 2 rfl)).mono ?_
  rintro e w5 ⟨rfl, hb⟩
  have E7 : Hid (EnvB w [(w4.heap.size, .slice xa 0 xk), (w.heap.size + 1 + 1 + 1, .slice dq lq.length cd), (w.heap.size + 1 + 1, .slice co lb.length cc), (w.heap.size + 1, .slice bo lp.length cb), (w.heap.size, .slice ao la.length ca)] [(.slice dq lq.length cd, lq), (.slice co lb.length cc, lb), (.slice bo lp.length cb, lp), (.slice ao la.length ca, la)] _) := Lib.hid ((E6.out.below hb))
  clear p11 f11 E6 E5 hb
  obtain ⟨p12, f12, -, -, -⟩ := E7.out.box 1 rfl
  go_wp2_with fail
  refine (first0_c _ _ _ (lq) 0 _ (fst0_t k3.out) (E7.out.sl 0 rfl)).mono ?_
  rintro e w6 ⟨rfl, hb⟩
  have E8 : Hid (EnvB w [(w4.heap.size, .slice xa 0 xk), (w.heap.size + 1 + 1 + 1, .slice dq lq.length cd), (w.heap.size + 1 + 1, .slice co lb.length cc), (w.heap.size + 1, .slice bo lp.length cb), (w.heap.size, .slice ao la.length ca)] [(.slice dq lq.length cd, lq), (.slice co lb.length cc, lb), (.slice bo lp.length cb, lp), (.slice ao la.length ca, la)] _) := Lib.hid ((E7.out.below hb))
  clear p12 f12 E7 hb
  obtain ⟨p13, f13, -, -, -⟩ := E8.out.box 4 rfl
  go_wp2_with fail
  refine (rValid_of k0.out (E8.out.sl 3 rfl)).mono ?_
  rintro e w7 ⟨rfl, hb⟩
  have E9 : Hid (EnvB w [(w4.heap.size, .slice xa 0 xk), (w.heap.size + 1 + 1 + 1, .slice dq lq.length cd), (w.heap.size + 1 + 1, .slice co lb.length cc), (w.heap.size + 1, .slice bo lp.length cb), (w.heap.size, .slice ao la.length ca)] [(.slice dq lq.length cd, lq), (.slice co lb.length cc, lb), (.slice bo lp.length cb, lp), (.slice ao la.length ca, la)] _) := Lib.hid ((E8.out.below hb))
  clear p13 f13 E8 hb
  obtain ⟨p14, f14, -, -, -⟩ := E9.out.box 2 rfl
  go_wp2_with fail
  refine (rValid_of k1.out (E9.out.sl 1 rfl)).mono ?_
  rintro e w8 ⟨rfl, hb⟩
  have E10 : Hid (EnvB w [(w4.heap.size, .slice xa 0 xk), (w.heap.size + 1 + 1 + 1, .slice dq lq.length cd), (w.heap.size + 1 + 1, .slice co lb.length cc), (w.heap.size + 1, .slice bo lp.length cb), (w.heap.size, .slice ao la.length ca)] [(.slice dq lq.length cd, lq), (.slice co lb.length cc, lb), (.slice bo lp.length cb, lp), (.slice ao la.length ca, la)] _) := Lib.hid ((E9.out.below hb))
  clear p14 f14 E9 hb
  obtain ⟨p15, f15, -, -, -⟩ := E10.out.box 0 rfl
  have hfin := Lib.hid E10.out.1
  go_wp2
  go_ret
  exact ⟨rfl, hfin.out⟩
set_option maxRecDepth 100000 in
set_option maxHeartbeats 1000000 in
theorem Crt_rA1 (ao : Option Addr) (ca : Nat) (bo : Option Addr) (cb : Nat) (co : Option Addr) (cc : Nat) (dq : Option Addr) (cd : Nat) (N P M Q : Nat)  (w : World) (ha : Nt w (.slice ao (len N) ca) N) (hb : Nt w (.slice bo (len P) cb) P) (hc : Nt w (.slice co (len M) cc) M) (hd : Nt w (.slice dq (len Q) cd) Q) (hf0 : len N ≤ 40 ∧ len P ≤ 40 ∧ len M ≤ 40 ∧ len Q ≤ 40) (hf60 : len P ≤ 6 ∧ len Q ≤ 6) (k20 : mdl (digs P) = true) (k30 : mdl (digs Q) = true) (k00 : vld (digs N) = true) (k10 : vld (digs M) = true) (p00 : P ≠ 0) (hp0 : len P ≤ 32) (q00 : Q ≠ 0) (hq0 : len Q ≤ 32) (h10 : len N ≤ 64) (h20 : len M ≤ 64) (hp20 : len P ≤ 2000) (hq20 : len Q ≤ 2000) (hn0 : decide (N < P) = false) :
    Calls Try.prog 3 #[.agg #[.slice ao (len N) ca], .agg #[.slice bo (len P) cb], .agg #[.slice co (len M) cc], .agg #[.slice dq (len Q) cd]] w fun e w' => e = .returned (.bool true) ∧ Below w.heap.size w w' := by
  have hf := Lib.hid hf0
  have hf6 := Lib.hid hf60
  have k2 := Lib.hid k20
  have k3 := Lib.hid k30
  have k0 := Lib.hid k00
  have k1 := Lib.hid k10
  have p0 := Lib.hid p00
  have hp := Lib.hid hp0
  have q0 := Lib.hid q00
  have hq := Lib.hid hq0
  have h1 := Lib.hid h10
  have h2 := Lib.hid h20
  have hp2 := Lib.hid hp20
  have hq2 := Lib.hid hq20
  have hn := Lib.hid hn0
  have hwr : Hid (wrap64 ((len P : Nat) + (len Q : Nat) : Int) = ((len P : Nat) + (len Q : Nat) : Int) ∧ len P ≤ 40 ∧ len Q ≤ 40) := Lib.hid ⟨IntWalk.wrap64_in _ ⟨by omega, by omega⟩, by omega, by omega⟩
  clear hf0 hf60 k20 k30 k00 k10 p00 hp0 q00 hq0 h10 h20 hp20 hq20 hn0
  have E0 : Hid (EnvB w [] [(.slice dq (len Q) cd, digs Q), (.slice co (len M) cc, digs M), (.slice bo (len P) cb, digs P), (.slice ao (len N) ca, digs N)] w) := Lib.hid (((((EnvB.start w).numN ha).numN hb).numN hc).numN hd)
  clear ha hb hc hd
  go_enter Try.func3, Try.ntmps3
  go_wp2_with fail
  have E1 : Hid (EnvB w [(w.heap.size + 1 + 1 + 1, .slice dq (len Q) cd), (w.heap.size + 1 + 1, .slice co (len M) cc), (w.heap.size + 1, .slice bo (len P) cb), (w.heap.size, .slice ao (len N) ca)] [(.slice dq (len Q) cd, digs Q), (.slice co (len M) cc, digs M), (.slice bo (len P) cb, digs P), (.slice ao (len N) ca, digs N)] _) := Lib.hid (((((E0.out.push (.slice ao (len N) ca) 24 ⟨_, _, _, rfl⟩ (w.heap.size) (by simp)).push (.slice bo (len P) cb) 24 ⟨_, _, _, rfl⟩ (w.heap.size + 1) (by simp)).push (.slice co (len M) cc) 24 ⟨_, _, _, rfl⟩ (w.heap.size + 1 + 1) (by simp)).push (.slice dq (len Q) cd) 24 ⟨_, _, _, rfl⟩ (w.heap.size + 1 + 1 + 1) (by simp)))
  refine (awake_c _).mono ?_
  rintro e w1 ⟨rfl, hb⟩
  have E2 : Hid (EnvB w [(w.heap.size + 1 + 1 + 1, .slice dq (len Q) cd), (w.heap.size + 1 + 1, .slice co (len M) cc), (w.heap.size + 1, .slice bo (len P) cb), (w.heap.size, .slice ao (len N) ca)] [(.slice dq (len Q) cd, digs Q), (.slice co (len M) cc, digs M), (.slice bo (len P) cb, digs P), (.slice ao (len N) ca, digs N)] _) := Lib.hid ((E1.out.below hb))
  clear E1 E0 hb
  obtain ⟨p1, f1, -, -, -⟩ := E2.out.box 3 rfl
  obtain ⟨p2, f2, -, -, -⟩ := E2.out.box 2 rfl
  obtain ⟨p3, f3, -, -, -⟩ := E2.out.box 1 rfl
  obtain ⟨p4, f4, -, -, -⟩ := E2.out.box 0 rfl
  go_wp2_with fail
  refine (few4_t _ _ _ (digs N) _ _ _ (digs P) _ _ _ (digs M) _ _ _ (digs Q) 40 _ (E2.out.nt 3 rfl) (E2.out.nt 2 rfl) (E2.out.nt 1 rfl) (E2.out.nt 0 rfl) hf.out _ (by simp)).mono ?_
  rintro e w2 ⟨rfl, hb⟩
  have E3 : Hid (EnvB w [(w.heap.size + 1 + 1 + 1, .slice dq (len Q) cd), (w.heap.size + 1 + 1, .slice co (len M) cc), (w.heap.size + 1, .slice bo (len P) cb), (w.heap.size, .slice ao (len N) ca)] [(.slice dq (len Q) cd, digs Q), (.slice co (len M) cc, digs M), (.slice bo (len P) cb, digs P), (.slice ao (len N) ca, digs N)] _) := Lib.hid ((E2.out.below hb))
  clear p1 f1 p2 f2 p3 f3 p4 f4 E2 hb
  obtain ⟨p5, f5, -, -, -⟩ := E3.out.box 2 rfl
  obtain ⟨p6, f6, -, -, -⟩ := E3.out.box 0 rfl
  go_wp2_with fail
  refine (few2_t _ _ _ (digs P) _ _ _ (digs Q) 6 _ (E3.out.nt 2 rfl) (E3.out.nt 0 rfl) hf6.out _ (by simp)).mono ?_
  rintro e w3 ⟨rfl, hb⟩
  have E4 : Hid (EnvB w [(w.heap.size + 1 + 1 + 1, .slice dq (len Q) cd), (w.heap.size + 1 + 1, .slice co (len M) cc), (w.heap.size + 1, .slice bo (len P) cb), (w.heap.size, .slice ao (len N) ca)] [(.slice dq (len Q) cd, digs Q), (.slice co (len M) cc, digs M), (.slice bo (len P) cb, digs P), (.slice ao (len N) ca, digs N)] _) := Lib.hid ((E3.out.below hb))
  clear p5 f5 p6 f6 E3 hb
  obtain ⟨p7, f7, -, -, -⟩ := E4.out.box 3 rfl
  obtain ⟨p8, f8, -, -, -⟩ := E4.out.box 2 rfl
  obtain ⟨p9, f9, -, -, -⟩ := E4.out.box 1 rfl
  obtain ⟨p10, f10, -, -, -⟩ := E4.out.box 0 rfl
  go_wp2_with fail
  refine (crt_z2 (fun h => by have := hn.out; simp [h.1] at this) h1.out h2.out p0.out hp.out q0.out hq.out (E4.out.nt 3 rfl) (E4.out.nt 2 rfl) (E4.out.nt 1 rfl) (E4.out.nt 0 rfl)).mono ?_
  rintro e w4 ⟨⟨xa, xk, rfl⟩, hb⟩
  have E5 : Hid (EnvB w [(w.heap.size + 1 + 1 + 1, .slice dq (len Q) cd), (w.heap.size + 1 + 1, .slice co (len M) cc), (w.heap.size + 1, .slice bo (len P) cb), (w.heap.size, .slice ao (len N) ca)] [(.slice dq (len Q) cd, digs Q), (.slice co (len M) cc, digs M), (.slice bo (len P) cb, digs P), (.slice ao (len N) ca, digs N)] _) := Lib.hid ((E4.out.below hb))
  clear p7 f7 p8 f8 p9 f9 p10 f10 E4 hb
  have E6 : Hid (EnvB w [(w4.heap.size, .slice xa 0 xk), (w.heap.size + 1 + 1 + 1, .slice dq (len Q) cd), (w.heap.size + 1 + 1, .slice co (len M) cc), (w.heap.size + 1, .slice bo (len P) cb), (w.heap.size, .slice ao (len N) ca)] [(.slice dq (len Q) cd, digs Q), (.slice co (len M) cc, digs M), (.slice bo (len P) cb, digs P), (.slice ao (len N) ca, digs N)] _) := Lib.hid ((E5.out.push (.slice xa 0 xk) 24 ⟨_, _, _, rfl⟩ (w4.heap.size) (by simp)))
  obtain ⟨p11, f11, -, -, -⟩ := E6.out.box 3 rfl
  go_wp2_with fail
  refine (first0_c _ _ _ (digs P) 0 _ (fst0_t k2.out) (E6.out.nt 2 rfl)).mono ?_
  rintro e w5 ⟨rfl, hb⟩
  have E7 : Hid (EnvB w [(w4.heap.size, .slice xa 0 xk), (w.heap.size + 1 + 1 + 1, .slice dq (len Q) cd), (w.heap.size + 1 + 1, .slice co (len M) cc), (w.heap.size + 1, .slice bo (len P) cb), (w.heap.size, .slice ao (len N) ca)] [(.slice dq (len Q) cd, digs Q), (.slice co (len M) cc, digs M), (.slice bo (len P) cb, digs P), (.slice ao (len N) ca, digs N)] _) := Lib.hid ((E6.out.below hb))
  clear p11 f11 E6 E5 hb
  obtain ⟨p12, f12, -, -, -⟩ := E7.out.box 1 rfl
  go_wp2_with fail
  refine (first0_c _ _ _ (digs Q) 0 _ (fst0_t k3.out) (E7.out.nt 0 rfl)).mono ?_
  rintro e w6 ⟨rfl, hb⟩
  have E8 : Hid (EnvB w [(w4.heap.size, .slice xa 0 xk), (w.heap.size + 1 + 1 + 1, .slice dq (len Q) cd), (w.heap.size + 1 + 1, .slice co (len M) cc), (w.heap.size + 1, .slice bo (len P) cb), (w.heap.size, .slice ao (len N) ca)] [(.slice dq (len Q) cd, digs Q), (.slice co (len M) cc, digs M), (.slice bo (len P) cb, digs P), (.slice ao (len N) ca, digs N)] _) := Lib.hid ((E7.out.below hb))
  clear p12 f12 E7 hb
  obtain ⟨p13, f13, -, -, -⟩ := E8.out.box 4 rfl
  go_wp2_with fail
  refine (rValid_of k0.out (E8.out.nt 3 rfl)).mono ?_
  rintro e w7 ⟨rfl, hb⟩
  have E9 : Hid (EnvB w [(w4.heap.size, .slice xa 0 xk), (w.heap.size + 1 + 1 + 1, .slice dq (len Q) cd), (w.heap.size + 1 + 1, .slice co (len M) cc), (w.heap.size + 1, .slice bo (len P) cb), (w.heap.size, .slice ao (len N) ca)] [(.slice dq (len Q) cd, digs Q), (.slice co (len M) cc, digs M), (.slice bo (len P) cb, digs P), (.slice ao (len N) ca, digs N)] _) := Lib.hid ((E8.out.below hb))
  clear p13 f13 E8 hb
  obtain ⟨p14, f14, -, -, -⟩ := E9.out.box 2 rfl
  go_wp2_with fail
  refine (rValid_of k1.out (E9.out.nt 1 rfl)).mono ?_
  rintro e w8 ⟨rfl, hb⟩
  have E10 : Hid (EnvB w [(w4.heap.size, .slice xa 0 xk), (w.heap.size + 1 + 1 + 1, .slice dq (len Q) cd), (w.heap.size + 1 + 1, .slice co (len M) cc), (w.heap.size + 1, .slice bo (len P) cb), (w.heap.size, .slice ao (len N) ca)] [(.slice dq (len Q) cd, digs Q), (.slice co (len M) cc, digs M), (.slice bo (len P) cb, digs P), (.slice ao (len N) ca, digs N)] _) := Lib.hid ((E9.out.below hb))
  clear p14 f14 E9 hb
  obtain ⟨p15, f15, -, -, -⟩ := E10.out.box 4 rfl
  obtain ⟨p16, f16, -, -, -⟩ := E10.out.box 3 rfl
  go_wp2_with fail
  refine (rLess_c hn.out (E10.out.nt 3 rfl) (E10.out.nt 2 rfl)).mono ?_
  rintro e w9 ⟨rfl, hb⟩
  have E11 : Hid (EnvB w [(w4.heap.size, .slice xa 0 xk), (w.heap.size + 1 + 1 + 1, .slice dq (len Q) cd), (w.heap.size + 1 + 1, .slice co (len M) cc), (w.heap.size + 1, .slice bo (len P) cb), (w.heap.size, .slice ao (len N) ca)] [(.slice dq (len Q) cd, digs Q), (.slice co (len M) cc, digs M), (.slice bo (len P) cb, digs P), (.slice ao (len N) ca, digs N)] _) := Lib.hid ((E10.out.below hb))
  clear p15 f15 p16 f16 E10 hb
  obtain ⟨p17, f17, -, -, -⟩ := E11.out.box 0 rfl
  have hfin := Lib.hid E11.out.1
  go_wp2
  go_ret
  exact ⟨rfl, hfin.out⟩
set_option maxRecDepth 100000 in
set_option maxHeartbeats 1000000 in
theorem Crt_rA2 (ao : Option Addr) (ca : Nat) (bo : Option Addr) (cb : Nat) (co : Option Addr) (cc : Nat) (dq : Option Addr) (cd : Nat) (N P M Q : Nat)  (w : World) (ha : Nt w (.slice ao (len N) ca) N) (hb : Nt w (.slice bo (len P) cb) P) (hc : Nt w (.slice co (len M) cc) M) (hd : Nt w (.slice dq (len Q) cd) Q) (hf0 : len N ≤ 40 ∧ len P ≤ 40 ∧ len M ≤ 40 ∧ len Q ≤ 40) (hf60 : len P ≤ 6 ∧ len Q ≤ 6) (k20 : mdl (digs P) = true) (k30 : mdl (digs Q) = true) (k00 : vld (digs N) = true) (k10 : vld (digs M) = true) (p00 : P ≠ 0) (hp0 : len P ≤ 32) (q00 : Q ≠ 0) (hq0 : len Q ≤ 32) (h10 : len N ≤ 64) (h20 : len M ≤ 64) (hp20 : len P ≤ 2000) (hq20 : len Q ≤ 2000) (hn0 : decide (N < P) = true) (hm0 : decide (M < Q) = false) :
    Calls Try.prog 3 #[.agg #[.slice ao (len N) ca], .agg #[.slice bo (len P) cb], .agg #[.slice co (len M) cc], .agg #[.slice dq (len Q) cd]] w fun e w' => e = .returned (.bool true) ∧ Below w.heap.size w w' := by
  have hf := Lib.hid hf0
  have hf6 := Lib.hid hf60
  have k2 := Lib.hid k20
  have k3 := Lib.hid k30
  have k0 := Lib.hid k00
  have k1 := Lib.hid k10
  have p0 := Lib.hid p00
  have hp := Lib.hid hp0
  have q0 := Lib.hid q00
  have hq := Lib.hid hq0
  have h1 := Lib.hid h10
  have h2 := Lib.hid h20
  have hp2 := Lib.hid hp20
  have hq2 := Lib.hid hq20
  have hn := Lib.hid hn0
  have hm := Lib.hid hm0
  have hwr : Hid (wrap64 ((len P : Nat) + (len Q : Nat) : Int) = ((len P : Nat) + (len Q : Nat) : Int) ∧ len P ≤ 40 ∧ len Q ≤ 40) := Lib.hid ⟨IntWalk.wrap64_in _ ⟨by omega, by omega⟩, by omega, by omega⟩
  clear hf0 hf60 k20 k30 k00 k10 p00 hp0 q00 hq0 h10 h20 hp20 hq20 hn0 hm0
  have E0 : Hid (EnvB w [] [(.slice dq (len Q) cd, digs Q), (.slice co (len M) cc, digs M), (.slice bo (len P) cb, digs P), (.slice ao (len N) ca, digs N)] w) := Lib.hid (((((EnvB.start w).numN ha).numN hb).numN hc).numN hd)
  clear ha hb hc hd
  go_enter Try.func3, Try.ntmps3
  go_wp2_with fail
  have E1 : Hid (EnvB w [(w.heap.size + 1 + 1 + 1, .slice dq (len Q) cd), (w.heap.size + 1 + 1, .slice co (len M) cc), (w.heap.size + 1, .slice bo (len P) cb), (w.heap.size, .slice ao (len N) ca)] [(.slice dq (len Q) cd, digs Q), (.slice co (len M) cc, digs M), (.slice bo (len P) cb, digs P), (.slice ao (len N) ca, digs N)] _) := Lib.hid (((((E0.out.push (.slice ao (len N) ca) 24 ⟨_, _, _, rfl⟩ (w.heap.size) (by simp)).push (.slice bo (len P) cb) 24 ⟨_, _, _, rfl⟩ (w.heap.size + 1) (by simp)).push (.slice co (len M) cc) 24 ⟨_, _, _, rfl⟩ (w.heap.size + 1 + 1) (by simp)).push (.slice dq (len Q) cd) 24 ⟨_, _, _, rfl⟩ (w.heap.size + 1 + 1 + 1) (by simp)))
  refine (awake_c _).mono ?_
  rintro e w1 ⟨rfl, hb⟩
  have E2 : Hid (EnvB w [(w.heap.size + 1 + 1 + 1, .slice dq (len Q) cd), (w.heap.size + 1 + 1, .slice co (len M) cc), (w.heap.size + 1, .slice bo (len P) cb), (w.heap.size, .slice ao (len N) ca)] [(.slice dq (len Q) cd, digs Q), (.slice co (len M) cc, digs M), (.slice bo (len P) cb, digs P), (.slice ao (len N) ca, digs N)] _) := Lib.hid ((E1.out.below hb))
  clear E1 E0 hb
  obtain ⟨p1, f1, -, -, -⟩ := E2.out.box 3 rfl
  obtain ⟨p2, f2, -, -, -⟩ := E2.out.box 2 rfl
  obtain ⟨p3, f3, -, -, -⟩ := E2.out.box 1 rfl
  obtain ⟨p4, f4, -, -, -⟩ := E2.out.box 0 rfl
  go_wp2_with fail
  refine (few4_t _ _ _ (digs N) _ _ _ (digs P) _ _ _ (digs M) _ _ _ (digs Q) 40 _ (E2.out.nt 3 rfl) (E2.out.nt 2 rfl) (E2.out.nt 1 rfl) (E2.out.nt 0 rfl) hf.out _ (by simp)).mono ?_
  rintro e w2 ⟨rfl, hb⟩
  have E3 : Hid (EnvB w [(w.heap.size + 1 + 1 + 1, .slice dq (len Q) cd), (w.heap.size + 1 + 1, .slice co (len M) cc), (w.heap.size + 1, .slice bo (len P) cb), (w.heap.size, .slice ao (len N) ca)] [(.slice dq (len Q) cd, digs Q), (.slice co (len M) cc, digs M), (.slice bo (len P) cb, digs P), (.slice ao (len N) ca, digs N)] _) := Lib.hid ((E2.out.below hb))
  clear p1 f1 p2 f2 p3 f3 p4 f4 E2 hb
  obtain ⟨p5, f5, -, -, -⟩ := E3.out.box 2 rfl
  obtain ⟨p6, f6, -, -, -⟩ := E3.out.box 0 rfl
  go_wp2_with fail
  refine (few2_t _ _ _ (digs P) _ _ _ (digs Q) 6 _ (E3.out.nt 2 rfl) (E3.out.nt 0 rfl) hf6.out _ (by simp)).mono ?_
  rintro e w3 ⟨rfl, hb⟩
  have E4 : Hid (EnvB w [(w.heap.size + 1 + 1 + 1, .slice dq (len Q) cd), (w.heap.size + 1 + 1, .slice co (len M) cc), (w.heap.size + 1, .slice bo (len P) cb), (w.heap.size, .slice ao (len N) ca)] [(.slice dq (len Q) cd, digs Q), (.slice co (len M) cc, digs M), (.slice bo (len P) cb, digs P), (.slice ao (len N) ca, digs N)] _) := Lib.hid ((E3.out.below hb))
  clear p5 f5 p6 f6 E3 hb
  obtain ⟨p7, f7, -, -, -⟩ := E4.out.box 3 rfl
  obtain ⟨p8, f8, -, -, -⟩ := E4.out.box 2 rfl
  obtain ⟨p9, f9, -, -, -⟩ := E4.out.box 1 rfl
  obtain ⟨p10, f10, -, -, -⟩ := E4.out.box 0 rfl
  go_wp2_with fail
  refine (crt_z2 (fun h => by have := hm.out; simp [h.2] at this) h1.out h2.out p0.out hp.out q0.out hq.out (E4.out.nt 3 rfl) (E4.out.nt 2 rfl) (E4.out.nt 1 rfl) (E4.out.nt 0 rfl)).mono ?_
  rintro e w4 ⟨⟨xa, xk, rfl⟩, hb⟩
  have E5 : Hid (EnvB w [(w.heap.size + 1 + 1 + 1, .slice dq (len Q) cd), (w.heap.size + 1 + 1, .slice co (len M) cc), (w.heap.size + 1, .slice bo (len P) cb), (w.heap.size, .slice ao (len N) ca)] [(.slice dq (len Q) cd, digs Q), (.slice co (len M) cc, digs M), (.slice bo (len P) cb, digs P), (.slice ao (len N) ca, digs N)] _) := Lib.hid ((E4.out.below hb))
  clear p7 f7 p8 f8 p9 f9 p10 f10 E4 hb
  have E6 : Hid (EnvB w [(w4.heap.size, .slice xa 0 xk), (w.heap.size + 1 + 1 + 1, .slice dq (len Q) cd), (w.heap.size + 1 + 1, .slice co (len M) cc), (w.heap.size + 1, .slice bo (len P) cb), (w.heap.size, .slice ao (len N) ca)] [(.slice dq (len Q) cd, digs Q), (.slice co (len M) cc, digs M), (.slice bo (len P) cb, digs P), (.slice ao (len N) ca, digs N)] _) := Lib.hid ((E5.out.push (.slice xa 0 xk) 24 ⟨_, _, _, rfl⟩ (w4.heap.size) (by simp)))
  obtain ⟨p11, f11, -, -, -⟩ := E6.out.box 3 rfl
  go_wp2_with fail
  refine (first0_c _ _ _ (digs P) 0 _ (fst0_t k2.out) (E6.out.nt 2 rfl)).mono ?_
  rintro e w5 ⟨rfl, hb⟩
  have E7 : Hid (EnvB w [(w4.heap.size, .slice xa 0 xk), (w.heap.size + 1 + 1 + 1, .slice dq (len Q) cd), (w.heap.size + 1 + 1, .slice co (len M) cc), (w.heap.size + 1, .slice bo (len P) cb), (w.heap.size, .slice ao (len N) ca)] [(.slice dq (len Q) cd, digs Q), (.slice co (len M) cc, digs M), (.slice bo (len P) cb, digs P), (.slice ao (len N) ca, digs N)] _) := Lib.hid ((E6.out.below hb))
  clear p11 f11 E6 E5 hb
  obtain ⟨p12, f12, -, -, -⟩ := E7.out.box 1 rfl
  go_wp2_with fail
  refine (first0_c _ _ _ (digs Q) 0 _ (fst0_t k3.out) (E7.out.nt 0 rfl)).mono ?_
  rintro e w6 ⟨rfl, hb⟩
  have E8 : Hid (EnvB w [(w4.heap.size, .slice xa 0 xk), (w.heap.size + 1 + 1 + 1, .slice dq (len Q) cd), (w.heap.size + 1 + 1, .slice co (len M) cc), (w.heap.size + 1, .slice bo (len P) cb), (w.heap.size, .slice ao (len N) ca)] [(.slice dq (len Q) cd, digs Q), (.slice co (len M) cc, digs M), (.slice bo (len P) cb, digs P), (.slice ao (len N) ca, digs N)] _) := Lib.hid ((E7.out.below hb))
  clear p12 f12 E7 hb
  obtain ⟨p13, f13, -, -, -⟩ := E8.out.box 4 rfl
  go_wp2_with fail
  refine (rValid_of k0.out (E8.out.nt 3 rfl)).mono ?_
  rintro e w7 ⟨rfl, hb⟩
  have E9 : Hid (EnvB w [(w4.heap.size, .slice xa 0 xk), (w.heap.size + 1 + 1 + 1, .slice dq (len Q) cd), (w.heap.size + 1 + 1, .slice co (len M) cc), (w.heap.size + 1, .slice bo (len P) cb), (w.heap.size, .slice ao (len N) ca)] [(.slice dq (len Q) cd, digs Q), (.slice co (len M) cc, digs M), (.slice bo (len P) cb, digs P), (.slice ao (len N) ca, digs N)] _) := Lib.hid ((E8.out.below hb))
  clear p13 f13 E8 hb
  obtain ⟨p14, f14, -, -, -⟩ := E9.out.box 2 rfl
  go_wp2_with fail
  refine (rValid_of k1.out (E9.out.nt 1 rfl)).mono ?_
  rintro e w8 ⟨rfl, hb⟩
  have E10 : Hid (EnvB w [(w4.heap.size, .slice xa 0 xk), (w.heap.size + 1 + 1 + 1, .slice dq (len Q) cd), (w.heap.size + 1 + 1, .slice co (len M) cc), (w.heap.size + 1, .slice bo (len P) cb), (w.heap.size, .slice ao (len N) ca)] [(.slice dq (len Q) cd, digs Q), (.slice co (len M) cc, digs M), (.slice bo (len P) cb, digs P), (.slice ao (len N) ca, digs N)] _) := Lib.hid ((E9.out.below hb))
  clear p14 f14 E9 hb
  obtain ⟨p15, f15, -, -, -⟩ := E10.out.box 4 rfl
  obtain ⟨p16, f16, -, -, -⟩ := E10.out.box 3 rfl
  go_wp2_with fail
  refine (rLess_c hn.out (E10.out.nt 3 rfl) (E10.out.nt 2 rfl)).mono ?_
  rintro e w9 ⟨rfl, hb⟩
  have E11 : Hid (EnvB w [(w4.heap.size, .slice xa 0 xk), (w.heap.size + 1 + 1 + 1, .slice dq (len Q) cd), (w.heap.size + 1 + 1, .slice co (len M) cc), (w.heap.size + 1, .slice bo (len P) cb), (w.heap.size, .slice ao (len N) ca)] [(.slice dq (len Q) cd, digs Q), (.slice co (len M) cc, digs M), (.slice bo (len P) cb, digs P), (.slice ao (len N) ca, digs N)] _) := Lib.hid ((E10.out.below hb))
  clear p15 f15 p16 f16 E10 hb
  obtain ⟨p17, f17, -, -, -⟩ := E11.out.box 2 rfl
  obtain ⟨p18, f18, -, -, -⟩ := E11.out.box 1 rfl
  go_wp2_with fail
  refine (rLess_c hm.out (E11.out.nt 1 rfl) (E11.out.nt 0 rfl)).mono ?_
  rintro e w10 ⟨rfl, hb⟩
  have E12 : Hid (EnvB w [(w4.heap.size, .slice xa 0 xk), (w.heap.size + 1 + 1 + 1, .slice dq (len Q) cd), (w.heap.size + 1 + 1, .slice co (len M) cc), (w.heap.size + 1, .slice bo (len P) cb), (w.heap.size, .slice ao (len N) ca)] [(.slice dq (len Q) cd, digs Q), (.slice co (len M) cc, digs M), (.slice bo (len P) cb, digs P), (.slice ao (len N) ca, digs N)] _) := Lib.hid ((E11.out.below hb))
  clear p17 f17 p18 f18 E11 hb
  obtain ⟨p19, f19, -, -, -⟩ := E12.out.box 0 rfl
  have hfin := Lib.hid E12.out.1
  go_wp2
  go_ret
  exact ⟨rfl, hfin.out⟩
set_option maxRecDepth 100000 in
set_option maxHeartbeats 1000000 in
theorem Crt_nA (ao : Option Addr) (ca : Nat) (bo : Option Addr) (cb : Nat) (co : Option Addr) (cc : Nat) (dq : Option Addr) (cd : Nat) (N P M Q : Nat) (r1 : Nat) (w : World) (ha : Nt w (.slice ao (len N) ca) N) (hb : Nt w (.slice bo (len P) cb) P) (hc : Nt w (.slice co (len M) cc) M) (hd : Nt w (.slice dq (len Q) cd) Q) (hf0 : len N ≤ 40 ∧ len P ≤ 40 ∧ len M ≤ 40 ∧ len Q ≤ 40) (hf60 : len P ≤ 6 ∧ len Q ≤ 6) (k20 : mdl (digs P) = true) (k30 : mdl (digs Q) = true) (k00 : vld (digs N) = true) (k10 : vld (digs M) = true) (p00 : P ≠ 0) (hp0 : len P ≤ 32) (q00 : Q ≠ 0) (hq0 : len Q ≤ 32) (h10 : len N ≤ 64) (h20 : len M ≤ 64) (hp20 : len P ≤ 2000) (hq20 : len Q ≤ 2000) (hn0 : decide (N < P) = true) (hm0 : decide (M < Q) = true) (hn10 : N < P) (hm10 : M < Q) (hr10 : Nat.gcd P Q = r1) (hx0 : decide (r1 = 1) = false) :
    Calls Try.prog 3 #[.agg #[.slice ao (len N) ca], .agg #[.slice bo (len P) cb], .agg #[.slice co (len M) cc], .agg #[.slice dq (len Q) cd]] w fun e w' => e = .returned (.bool true) ∧ Below w.heap.size w w' := by
  have hf := Lib.hid hf0
  have hf6 := Lib.hid hf60
  have k2 := Lib.hid k20
  have k3 := Lib.hid k30
  have k0 := Lib.hid k00
  have k1 := Lib.hid k10
  have p0 := Lib.hid p00
  have hp := Lib.hid hp0
  have q0 := Lib.hid q00
  have hq := Lib.hid hq0
  have h1 := Lib.hid h10
  have h2 := Lib.hid h20
  have hp2 := Lib.hid hp20
  have hq2 := Lib.hid hq20
  have hn := Lib.hid hn0
  have hm := Lib.hid hm0
  have hn1 := Lib.hid hn10
  have hm1 := Lib.hid hm10
  have hr1 := Lib.hid hr10
  have hx := Lib.hid hx0
  have hwr : Hid (wrap64 ((len P : Nat) + (len Q : Nat) : Int) = ((len P : Nat) + (len Q : Nat) : Int) ∧ len P ≤ 40 ∧ len Q ≤ 40) := Lib.hid ⟨IntWalk.wrap64_in _ ⟨by omega, by omega⟩, by omega, by omega⟩
  clear hf0 hf60 k20 k30 k00 k10 p00 hp0 q00 hq0 h10 h20 hp20 hq20 hn0 hm0 hn10 hm10 hr10 hx0
  have E0 : Hid (EnvB w [] [(.slice dq (len Q) cd, digs Q), (.slice co (len M) cc, digs M), (.slice bo (len P) cb, digs P), (.slice ao (len N) ca, digs N)] w) := Lib.hid (((((EnvB.start w).numN ha).numN hb).numN hc).numN hd)
  clear ha hb hc hd
  go_enter Try.func3, Try.ntmps3
  go_wp2_with fail
  have E1 : Hid (EnvB w [(w.heap.size + 1 + 1 + 1, .slice dq (len Q) cd), (w.heap.size + 1 + 1, .slice co (len M) cc), (w.heap.size + 1, .slice bo (len P) cb), (w.heap.size, .slice ao (len N) ca)] [(.slice dq (len Q) cd, digs Q), (.slice co (len M) cc, digs M), (.slice bo (len P) cb, digs P), (.slice ao (len N) ca, digs N)] _) := Lib.hid (((((E0.out.push (.slice ao (len N) ca) 24 ⟨_, _, _, rfl⟩ (w.heap.size) (by simp)).push (.slice bo (len P) cb) 24 ⟨_, _, _, rfl⟩ (w.heap.size + 1) (by simp)).push (.slice co (len M) cc) 24 ⟨_, _, _, rfl⟩ (w.heap.size + 1 + 1) (by simp)).push (.slice dq (len Q) cd) 24 ⟨_, _, _, rfl⟩ (w.heap.size + 1 + 1 + 1) (by simp)))
  refine (awake_c _).mono ?_
  rintro e w1 ⟨rfl, hb⟩
  have E2 : Hid (EnvB w [(w.heap.size + 1 + 1 + 1, .slice dq (len Q) cd), (w.heap.size + 1 + 1, .slice co (len M) cc), (w.heap.size + 1, .slice bo (len P) cb), (w.heap.size, .slice ao (len N) ca)] [(.slice dq (len Q) cd, digs Q), (.slice co (len M) cc, digs M), (.slice bo (len P) cb, digs P), (.slice ao (len N) ca, digs N)] _) := Lib.hid ((E1.out.below hb))
  clear E1 E0 hb
  obtain ⟨p1, f1, -, -, -⟩ := E2.out.box 3 rfl
  obtain ⟨p2, f2, -, -, -⟩ := E2.out.box 2 rfl
  obtain ⟨p3, f3, -, -, -⟩ := E2.out.box 1 rfl
  obtain ⟨p4, f4, -, -, -⟩ := E2.out.box 0 rfl
  go_wp2_with fail
  refine (few4_t _ _ _ (digs N) _ _ _ (digs P) _ _ _ (digs M) _ _ _ (digs Q) 40 _ (E2.out.nt 3 rfl) (E2.out.nt 2 rfl) (E2.out.nt 1 rfl) (E2.out.nt 0 rfl) hf.out _ (by simp)).mono ?_
  rintro e w2 ⟨rfl, hb⟩
  have E3 : Hid (EnvB w [(w.heap.size + 1 + 1 + 1, .slice dq (len Q) cd), (w.heap.size + 1 + 1, .slice co (len M) cc), (w.heap.size + 1, .slice bo (len P) cb), (w.heap.size, .slice ao (len N) ca)] [(.slice dq (len Q) cd, digs Q), (.slice co (len M) cc, digs M), (.slice bo (len P) cb, digs P), (.slice ao (len N) ca, digs N)] _) := Lib.hid ((E2.out.below hb))
  clear p1 f1 p2 f2 p3 f3 p4 f4 E2 hb
  obtain ⟨p5, f5, -, -, -⟩ := E3.out.box 2 rfl
  obtain ⟨p6, f6, -, -, -⟩ := E3.out.box 0 rfl
  go_wp2_with fail
  refine (few2_t _ _ _ (digs P) _ _ _ (digs Q) 6 _ (E3.out.nt 2 rfl) (E3.out.nt 0 rfl) hf6.out _ (by simp)).mono ?_
  rintro e w3 ⟨rfl, hb⟩
  have E4 : Hid (EnvB w [(w.heap.size + 1 + 1 + 1, .slice dq (len Q) cd), (w.heap.size + 1 + 1, .slice co (len M) cc), (w.heap.size + 1, .slice bo (len P) cb), (w.heap.size, .slice ao (len N) ca)] [(.slice dq (len Q) cd, digs Q), (.slice co (len M) cc, digs M), (.slice bo (len P) cb, digs P), (.slice ao (len N) ca, digs N)] _) := Lib.hid ((E3.out.below hb))
  clear p5 f5 p6 f6 E3 hb
  obtain ⟨p7, f7, -, -, -⟩ := E4.out.box 3 rfl
  obtain ⟨p8, f8, -, -, -⟩ := E4.out.box 2 rfl
  obtain ⟨p9, f9, -, -, -⟩ := E4.out.box 1 rfl
  obtain ⟨p10, f10, -, -, -⟩ := E4.out.box 0 rfl
  go_wp2_with fail
  refine (crt_z10 (by rw [hr1.out]; exact of_decide_eq_false hx.out) hn1.out hm1.out hp.out hq.out (E4.out.nt 3 rfl) (E4.out.nt 2 rfl) (E4.out.nt 1 rfl) (E4.out.nt 0 rfl)).mono ?_
  rintro e w4 ⟨⟨xa, xk, rfl⟩, hb⟩
  have E5 : Hid (EnvB w [(w.heap.size + 1 + 1 + 1, .slice dq (len Q) cd), (w.heap.size + 1 + 1, .slice co (len M) cc), (w.heap.size + 1, .slice bo (len P) cb), (w.heap.size, .slice ao (len N) ca)] [(.slice dq (len Q) cd, digs Q), (.slice co (len M) cc, digs M), (.slice bo (len P) cb, digs P), (.slice ao (len N) ca, digs N)] _) := Lib.hid ((E4.out.below hb))
  clear p7 f7 p8 f8 p9 f9 p10 f10 E4 hb
  have E6 : Hid (EnvB w [(w4.heap.size, .slice xa 0 xk), (w.heap.size + 1 + 1 + 1, .slice dq (len Q) cd), (w.heap.size + 1 + 1, .slice co (len M) cc), (w.heap.size + 1, .slice bo (len P) cb), (w.heap.size, .slice ao (len N) ca)] [(.slice dq (len Q) cd, digs Q), (.slice co (len M) cc, digs M), (.slice bo (len P) cb, digs P), (.slice ao (len N) ca, digs N)] _) := Lib.hid ((E5.out.push (.slice xa 0 xk) 24 ⟨_, _, _, rfl⟩ (w4.heap.size) (by simp)))
  obtain ⟨p11, f11, -, -, -⟩ := E6.out.box 3 rfl
  go_wp2_with fail
  refine (first0_c _ _ _ (digs P) 0 _ (fst0_t k2.out) (E6.out.nt 2 rfl)).mono ?_
  rintro e w5 ⟨rfl, hb⟩
  have E7 : Hid (EnvB w [(w4.heap.size, .slice xa 0 xk), (w.heap.size + 1 + 1 + 1, .slice dq (len Q) cd), (w.heap.size + 1 + 1, .slice co (len M) cc), (w.heap.size + 1, .slice bo (len P) cb), (w.heap.size, .slice ao (len N) ca)] [(.slice dq (len Q) cd, digs Q), (.slice co (len M) cc, digs M), (.slice bo (len P) cb, digs P), (.slice ao (len N) ca, digs N)] _) := Lib.hid ((E6.out.below hb))
  clear p11 f11 E6 E5 hb
  obtain ⟨p12, f12, -, -, -⟩ := E7.out.box 1 rfl
  go_wp2_with fail
  refine (first0_c _ _ _ (digs Q) 0 _ (fst0_t k3.out) (E7.out.nt 0 rfl)).mono ?_
  rintro e w6 ⟨rfl, hb⟩
  have E8 : Hid (EnvB w [(w4.heap.size, .slice xa 0 xk), (w.heap.size + 1 + 1 + 1, .slice dq (len Q) cd), (w.heap.size + 1 + 1, .slice co (len M) cc), (w.heap.size + 1, .slice bo (len P) cb), (w.heap.size, .slice ao (len N) ca)] [(.slice dq (len Q) cd, digs Q), (.slice co (len M) cc, digs M), (.slice bo (len P) cb, digs P), (.slice ao (len N) ca, digs N)] _) := Lib.hid ((E7.out.below hb))
  clear p12 f12 E7 hb
  obtain ⟨p13, f13, -, -, -⟩ := E8.out.box 4 rfl
  go_wp2_with fail
  refine (rValid_of k0.out (E8.out.nt 3 rfl)).mono ?_
  rintro e w7 ⟨rfl, hb⟩
  have E9 : Hid (EnvB w [(w4.heap.size, .slice xa 0 xk), (w.heap.size + 1 + 1 + 1, .slice dq (len Q) cd), (w.heap.size + 1 + 1, .slice co (len M) cc), (w.heap.size + 1, .slice bo (len P) cb), (w.heap.size, .slice ao (len N) ca)] [(.slice dq (len Q) cd, digs Q), (.slice co (len M) cc, digs M), (.slice bo (len P) cb, digs P), (.slice ao (len N) ca, digs N)] _) := Lib.hid ((E8.out.below hb))
  clear p13 f13 E8 hb
  obtain ⟨p14, f14, -, -, -⟩ := E9.out.box 2 rfl
  go_wp2_with fail
  refine (rValid_of k1.out (E9.out.nt 1 rfl)).mono ?_
  rintro e w8 ⟨rfl, hb⟩
  have E10 : Hid (EnvB w [(w4.heap.size, .slice xa 0 xk), (w.heap.size + 1 + 1 + 1, .slice dq (len Q) cd), (w.heap.size + 1 + 1, .slice co (len M) cc), (w.heap.size + 1, .slice bo (len P) cb), (w.heap.size, .slice ao (len N) ca)] [(.slice dq (len Q) cd, digs Q), (.slice co (len M) cc, digs M), (.slice bo (len P) cb, digs P), (.slice ao (len N) ca, digs N)] _) := Lib.hid ((E9.out.below hb))
  clear p14 f14 E9 hb
  obtain ⟨p15, f15, -, -, -⟩ := E10.out.box 4 rfl
  obtain ⟨p16, f16, -, -, -⟩ := E10.out.box 3 rfl
  go_wp2_with fail
  refine (rLess_c hn.out (E10.out.nt 3 rfl) (E10.out.nt 2 rfl)).mono ?_
  rintro e w9 ⟨rfl, hb⟩
  have E11 : Hid (EnvB w [(w4.heap.size, .slice xa 0 xk), (w.heap.size + 1 + 1 + 1, .slice dq (len Q) cd), (w.heap.size + 1 + 1, .slice co (len M) cc), (w.heap.size + 1, .slice bo (len P) cb), (w.heap.size, .slice ao (len N) ca)] [(.slice dq (len Q) cd, digs Q), (.slice co (len M) cc, digs M), (.slice bo (len P) cb, digs P), (.slice ao (len N) ca, digs N)] _) := Lib.hid ((E10.out.below hb))
  clear p15 f15 p16 f16 E10 hb
  obtain ⟨p17, f17, -, -, -⟩ := E11.out.box 2 rfl
  obtain ⟨p18, f18, -, -, -⟩ := E11.out.box 1 rfl
  go_wp2_with fail
  refine (rLess_c hm.out (E11.out.nt 1 rfl) (E11.out.nt 0 rfl)).mono ?_
  rintro e w10 ⟨rfl, hb⟩
  have E12 : Hid (EnvB w [(w4.heap.size, .slice xa 0 xk), (w.heap.size + 1 + 1 + 1, .slice dq (len Q) cd), (w.heap.size + 1 + 1, .slice co (len M) cc), (w.heap.size + 1, .slice bo (len P) cb), (w.heap.size, .slice ao (len N) ca)] [(.slice dq (len Q) cd, digs Q), (.slice co (len M) cc, digs M), (.slice bo (len P) cb, digs P), (.slice ao (len N) ca, digs N)] _) := Lib.hid ((E11.out.below hb))
  clear p17 f17 p18 f18 E11 hb
  obtain ⟨p19, f19, -, -, -⟩ := E12.out.box 3 rfl
  obtain ⟨p20, f20, -, -, -⟩ := E12.out.box 1 rfl
  go_wp2_with fail
  refine (rGcd_c hr1.out hp2.out hq2.out (E12.out.nt 2 rfl) (E12.out.nt 0 rfl)).mono ?_
  rintro e w11 ⟨⟨ua, uk, rfl, hu⟩, hb⟩
  have E13 : Hid (EnvB w [(w4.heap.size, .slice xa 0 xk), (w.heap.size + 1 + 1 + 1, .slice dq (len Q) cd), (w.heap.size + 1 + 1, .slice co (len M) cc), (w.heap.size + 1, .slice bo (len P) cb), (w.heap.size, .slice ao (len N) ca)] [(.slice ua (len r1) uk, digs r1), (.slice dq (len Q) cd, digs Q), (.slice co (len M) cc, digs M), (.slice bo (len P) cb, digs P), (.slice ao (len N) ca, digs N)] _) := Lib.hid (((E12.out.below hb).numN (hu.out : Nt _ _ r1)))
  clear p19 f19 p20 f20 E12 hb hu
  go_wp2_with fail
  refine (rOf_c 1 _ (by decide)).mono ?_
  rintro e w12 ⟨⟨va, vk, rfl, hv⟩, hb⟩
  have E14 : Hid (EnvB w [(w4.heap.size, .slice xa 0 xk), (w.heap.size + 1 + 1 + 1, .slice dq (len Q) cd), (w.heap.size + 1 + 1, .slice co (len M) cc), (w.heap.size + 1, .slice bo (len P) cb), (w.heap.size, .slice ao (len N) ca)] [(.slice va (len 1) vk, digs 1), (.slice ua (len r1) uk, digs r1), (.slice dq (len Q) cd, digs Q), (.slice co (len M) cc, digs M), (.slice bo (len P) cb, digs P), (.slice ao (len N) ca, digs N)] _) := Lib.hid (((E13.out.below hb).numN (hv.out : Nt _ _ 1)))
  clear E13 hb hv
  go_wp2_with fail
  refine (rSame_c hx.out (E14.out.nt 1 rfl) (E14.out.nt 0 rfl)).mono ?_
  rintro e w13 ⟨rfl, hb⟩
  have E15 : Hid (EnvB w [(w4.heap.size, .slice xa 0 xk), (w.heap.size + 1 + 1 + 1, .slice dq (len Q) cd), (w.heap.size + 1 + 1, .slice co (len M) cc), (w.heap.size + 1, .slice bo (len P) cb), (w.heap.size, .slice ao (len N) ca)] [(.slice va (len 1) vk, digs 1), (.slice ua (len r1) uk, digs r1), (.slice dq (len Q) cd, digs Q), (.slice co (len M) cc, digs M), (.slice bo (len P) cb, digs P), (.slice ao (len N) ca, digs N)] _) := Lib.hid ((E14.out.below hb))
  clear E14 hb
  obtain ⟨p21, f21, -, -, -⟩ := E15.out.box 0 rfl
  have hfin := Lib.hid E15.out.1
  go_wp2
  go_ret
  exact ⟨rfl, hfin.out⟩
set_option maxRecDepth 100000 in
set_option maxHeartbeats 1000000 in
theorem Crt_ok (ao : Option Addr) (ca : Nat) (bo : Option Addr) (cb : Nat) (co : Option Addr) (cc : Nat) (dq : Option Addr) (cd : Nat) (N P M Q : Nat) (r1 r2 : Nat) (w : World) (ha : Nt w (.slice ao (len N) ca) N) (hb : Nt w (.slice bo (len P) cb) P) (hc : Nt w (.slice co (len M) cc) M) (hd : Nt w (.slice dq (len Q) cd) Q) (hf0 : len N ≤ 40 ∧ len P ≤ 40 ∧ len M ≤ 40 ∧ len Q ≤ 40) (hf60 : len P ≤ 6 ∧ len Q ≤ 6) (k20 : mdl (digs P) = true) (k30 : mdl (digs Q) = true) (k00 : vld (digs N) = true) (k10 : vld (digs M) = true) (p00 : P ≠ 0) (hp0 : len P ≤ 32) (q00 : Q ≠ 0) (hq0 : len Q ≤ 32) (h10 : len N ≤ 64) (h20 : len M ≤ 64) (hp20 : len P ≤ 2000) (hq20 : len Q ≤ 2000) (hn0 : decide (N < P) = true) (hm0 : decide (M < Q) = true) (hn10 : N < P) (hm10 : M < Q) (hr10 : Nat.gcd P Q = r1) (hx0 : decide (r1 = 1) = true) (h90 : len (P * Q) ≤ 32) (hr0 : crtV N P M Q = r2) :
    Calls Try.prog 3 #[.agg #[.slice ao (len N) ca], .agg #[.slice bo (len P) cb], .agg #[.slice co (len M) cc], .agg #[.slice dq (len Q) cd]] w fun e w' => e = .returned (.bool true) ∧ Below w.heap.size w w' := by
  have hf := Lib.hid hf0
  have hf6 := Lib.hid hf60
  have k2 := Lib.hid k20
  have k3 := Lib.hid k30
  have k0 := Lib.hid k00
  have k1 := Lib.hid k10
  have p0 := Lib.hid p00
  have hp := Lib.hid hp0
  have q0 := Lib.hid q00
  have hq := Lib.hid hq0
  have h1 := Lib.hid h10
  have h2 := Lib.hid h20
  have hp2 := Lib.hid hp20
  have hq2 := Lib.hid hq20
  have hn := Lib.hid hn0
  have hm := Lib.hid hm0
  have hn1 := Lib.hid hn10
  have hm1 := Lib.hid hm10
  have hr1 := Lib.hid hr10
  have hx := Lib.hid hx0
  have h9 := Lib.hid h90
  have hr := Lib.hid hr0
  have hwr : Hid (wrap64 ((len P : Nat) + (len Q : Nat) : Int) = ((len P : Nat) + (len Q : Nat) : Int) ∧ len P ≤ 40 ∧ len Q ≤ 40) := Lib.hid ⟨IntWalk.wrap64_in _ ⟨by omega, by omega⟩, by omega, by omega⟩
  clear hf0 hf60 k20 k30 k00 k10 p00 hp0 q00 hq0 h10 h20 hp20 hq20 hn0 hm0 hn10 hm10 hr10 hx0 h90 hr0
  have E0 : Hid (EnvB w [] [(.slice dq (len Q) cd, digs Q), (.slice co (len M) cc, digs M), (.slice bo (len P) cb, digs P), (.slice ao (len N) ca, digs N)] w) := Lib.hid (((((EnvB.start w).numN ha).numN hb).numN hc).numN hd)
  clear ha hb hc hd
  go_enter Try.func3, Try.ntmps3
  go_wp2_with fail
  have E1 : Hid (EnvB w [(w.heap.size + 1 + 1 + 1, .slice dq (len Q) cd), (w.heap.size + 1 + 1, .slice co (len M) cc), (w.heap.size + 1, .slice bo (len P) cb), (w.heap.size, .slice ao (len N) ca)] [(.slice dq (len Q) cd, digs Q), (.slice co (len M) cc, digs M), (.slice bo (len P) cb, digs P), (.slice ao (len N) ca, digs N)] _) := Lib.hid (((((E0.out.push (.slice ao (len N) ca) 24 ⟨_, _, _, rfl⟩ (w.heap.size) (by simp)).push (.slice bo (len P) cb) 24 ⟨_, _, _, rfl⟩ (w.heap.size + 1) (by simp)).push (.slice co (len M) cc) 24 ⟨_, _, _, rfl⟩ (w.heap.size + 1 + 1) (by simp)).push (.slice dq (len Q) cd) 24 ⟨_, _, _, rfl⟩ (w.heap.size + 1 + 1 + 1) (by simp)))
  refine (awake_c _).mono ?_
  rintro e w1 ⟨rfl, hb⟩
  have E2 : Hid (EnvB w [(w.heap.size + 1 + 1 + 1, .slice dq (len Q) cd), (w.heap.size + 1 + 1, .slice co (len M) cc), (w.heap.size + 1, .slice bo (len P) cb), (w.heap.size, .slice ao (len N) ca)] [(.slice dq (len Q) cd, digs Q), (.slice co (len M) cc, digs M), (.slice bo (len P) cb, digs P), (.slice ao (len N) ca, digs N)] _) := Lib.hid ((E1.out.below hb))
  clear E1 E0 hb
  obtain ⟨p1, f1, -, -, -⟩ := E2.out.box 3 rfl
  obtain ⟨p2, f2, -, -, -⟩ := E2.out.box 2 rfl
  obtain ⟨p3, f3, -, -, -⟩ := E2.out.box 1 rfl
  obtain ⟨p4, f4, -, -, -⟩ := E2.out.box 0 rfl
  go_wp2_with fail
  refine (few4_t _ _ _ (digs N) _ _ _ (digs P) _ _ _ (digs M) _ _ _ (digs Q) 40 _ (E2.out.nt 3 rfl) (E2.out.nt 2 rfl) (E2.out.nt 1 rfl) (E2.out.nt 0 rfl) hf.out _ (by simp)).mono ?_
  rintro e w2 ⟨rfl, hb⟩
  have E3 : Hid (EnvB w [(w.heap.size + 1 + 1 + 1, .slice dq (len Q) cd), (w.heap.size + 1 + 1, .slice co (len M) cc), (w.heap.size + 1, .slice bo (len P) cb), (w.heap.size, .slice ao (len N) ca)] [(.slice dq (len Q) cd, digs Q), (.slice co (len M) cc, digs M), (.slice bo (len P) cb, digs P), (.slice ao (len N) ca, digs N)] _) := Lib.hid ((E2.out.below hb))
  clear p1 f1 p2 f2 p3 f3 p4 f4 E2 hb
  obtain ⟨p5, f5, -, -, -⟩ := E3.out.box 2 rfl
  obtain ⟨p6, f6, -, -, -⟩ := E3.out.box 0 rfl
  go_wp2_with fail
  refine (few2_t _ _ _ (digs P) _ _ _ (digs Q) 6 _ (E3.out.nt 2 rfl) (E3.out.nt 0 rfl) hf6.out _ (by simp)).mono ?_
  rintro e w3 ⟨rfl, hb⟩
  have E4 : Hid (EnvB w [(w.heap.size + 1 + 1 + 1, .slice dq (len Q) cd), (w.heap.size + 1 + 1, .slice co (len M) cc), (w.heap.size + 1, .slice bo (len P) cb), (w.heap.size, .slice ao (len N) ca)] [(.slice dq (len Q) cd, digs Q), (.slice co (len M) cc, digs M), (.slice bo (len P) cb, digs P), (.slice ao (len N) ca, digs N)] _) := Lib.hid ((E3.out.below hb))
  clear p5 f5 p6 f6 E3 hb
  obtain ⟨p7, f7, -, -, -⟩ := E4.out.box 3 rfl
  obtain ⟨p8, f8, -, -, -⟩ := E4.out.box 2 rfl
  obtain ⟨p9, f9, -, -, -⟩ := E4.out.box 1 rfl
  obtain ⟨p10, f10, -, -, -⟩ := E4.out.box 0 rfl
  go_wp2_with fail
  refine (crt_m hr.out (by rw [hr1.out]; exact of_decide_eq_true hx.out) h9.out hn1.out hm1.out hp.out hq.out (E4.out.nt 3 rfl) (E4.out.nt 2 rfl) (E4.out.nt 1 rfl) (E4.out.nt 0 rfl)).mono ?_
  rintro e w4 ⟨⟨xa, xk, rfl, hx⟩, hb⟩
  have E5 : Hid (EnvB w [(w.heap.size + 1 + 1 + 1, .slice dq (len Q) cd), (w.heap.size + 1 + 1, .slice co (len M) cc), (w.heap.size + 1, .slice bo (len P) cb), (w.heap.size, .slice ao (len N) ca)] [(.slice xa (len r2) xk, digs r2), (.slice dq (len Q) cd, digs Q), (.slice co (len M) cc, digs M), (.slice bo (len P) cb, digs P), (.slice ao (len N) ca, digs N)] _) := Lib.hid (((E4.out.below hb).numN (hx.out : Nt _ _ r2)))
  clear p7 f7 p8 f8 p9 f9 p10 f10 E4 hb hx
  have E6 : Hid (EnvB w [(w4.heap.size, .slice xa (len r2) xk), (w.heap.size + 1 + 1 + 1, .slice dq (len Q) cd), (w.heap.size + 1 + 1, .slice co (len M) cc), (w.heap.size + 1, .slice bo (len P) cb), (w.heap.size, .slice ao (len N) ca)] [(.slice xa (len r2) xk, digs r2), (.slice dq (len Q) cd, digs Q), (.slice co (len M) cc, digs M), (.slice bo (len P) cb, digs P), (.slice ao (len N) ca, digs N)] _) := Lib.hid ((E5.out.push (.slice xa (len r2) xk) 24 ⟨_, _, _, rfl⟩ (w4.heap.size) (by simp)))
  obtain ⟨p11, f11, -, -, -⟩ := E6.out.box 3 rfl
  go_wp2_with fail
  refine (first0_c _ _ _ (digs P) 0 _ (fst0_t k2.out) (E6.out.nt 3 rfl)).mono ?_
  rintro e w5 ⟨rfl, hb⟩
  have E7 : Hid (EnvB w [(w4.heap.size, .slice xa (len r2) xk), (w.heap.size + 1 + 1 + 1, .slice dq (len Q) cd), (w.heap.size + 1 + 1, .slice co (len M) cc), (w.heap.size + 1, .slice bo (len P) cb), (w.heap.size, .slice ao (len N) ca)] [(.slice xa (len r2) xk, digs r2), (.slice dq (len Q) cd, digs Q), (.slice co (len M) cc, digs M), (.slice bo (len P) cb, digs P), (.slice ao (len N) ca, digs N)] _) := Lib.hid ((E6.out.below hb))
  clear p11 f11 E6 E5 hb
  obtain ⟨p12, f12, -, -, -⟩ := E7.out.box 1 rfl
  go_wp2_with fail
  refine (first0_c _ _ _ (digs Q) 0 _ (fst0_t k3.out) (E7.out.nt 1 rfl)).mono ?_
  rintro e w6 ⟨rfl, hb⟩
  have E8 : Hid (EnvB w [(w4.heap.size, .slice xa (len r2) xk), (w.heap.size + 1 + 1 + 1, .slice dq (len Q) cd), (w.heap.size + 1 + 1, .slice co (len M) cc), (w.heap.size + 1, .slice bo (len P) cb), (w.heap.size, .slice ao (len N) ca)] [(.slice xa (len r2) xk, digs r2), (.slice dq (len Q) cd, digs Q), (.slice co (len M) cc, digs M), (.slice bo (len P) cb, digs P), (.slice ao (len N) ca, digs N)] _) := Lib.hid ((E7.out.below hb))
  clear p12 f12 E7 hb
  obtain ⟨p13, f13, -, -, -⟩ := E8.out.box 4 rfl
  go_wp2_with fail
  refine (rValid_of k0.out (E8.out.nt 4 rfl)).mono ?_
  rintro e w7 ⟨rfl, hb⟩
  have E9 : Hid (EnvB w [(w4.heap.size, .slice xa (len r2) xk), (w.heap.size + 1 + 1 + 1, .slice dq (len Q) cd), (w.heap.size + 1 + 1, .slice co (len M) cc), (w.heap.size + 1, .slice bo (len P) cb), (w.heap.size, .slice ao (len N) ca)] [(.slice xa (len r2) xk, digs r2), (.slice dq (len Q) cd, digs Q), (.slice co (len M) cc, digs M), (.slice bo (len P) cb, digs P), (.slice ao (len N) ca, digs N)] _) := Lib.hid ((E8.out.below hb))
  clear p13 f13 E8 hb
  obtain ⟨p14, f14, -, -, -⟩ := E9.out.box 2 rfl
  go_wp2_with fail
  refine (rValid_of k1.out (E9.out.nt 2 rfl)).mono ?_
  rintro e w8 ⟨rfl, hb⟩
  have E10 : Hid (EnvB w [(w4.heap.size, .slice xa (len r2) xk), (w.heap.size + 1 + 1 + 1, .slice dq (len Q) cd), (w.heap.size + 1 + 1, .slice co (len M) cc), (w.heap.size + 1, .slice bo (len P) cb), (w.heap.size, .slice ao (len N) ca)] [(.slice xa (len r2) xk, digs r2), (.slice dq (len Q) cd, digs Q), (.slice co (len M) cc, digs M), (.slice bo (len P) cb, digs P), (.slice ao (len N) ca, digs N)] _) := Lib.hid ((E9.out.below hb))
  clear p14 f14 E9 hb
  obtain ⟨p15, f15, -, -, -⟩ := E10.out.box 4 rfl
  obtain ⟨p16, f16, -, -, -⟩ := E10.out.box 3 rfl
  go_wp2_with fail
  refine (rLess_c hn.out (E10.out.nt 4 rfl) (E10.out.nt 3 rfl)).mono ?_
  rintro e w9 ⟨rfl, hb⟩
  have E11 : Hid (EnvB w [(w4.heap.size, .slice xa (len r2) xk), (w.heap.size + 1 + 1 + 1, .slice dq (len Q) cd), (w.heap.size + 1 + 1, .slice co (len M) cc), (w.heap.size + 1, .slice bo (len P) cb), (w.heap.size, .slice ao (len N) ca)] [(.slice xa (len r2) xk, digs r2), (.slice dq (len Q) cd, digs Q), (.slice co (len M) cc, digs M), (.slice bo (len P) cb, digs P), (.slice ao (len N) ca, digs N)] _) := Lib.hid ((E10.out.below hb))
  clear p15 f15 p16 f16 E10 hb
  obtain ⟨p17, f17, -, -, -⟩ := E11.out.box 2 rfl
  obtain ⟨p18, f18, -, -, -⟩ := E11.out.box 1 rfl
  go_wp2_with fail
  refine (rLess_c hm.out (E11.out.nt 2 rfl) (E11.out.nt 1 rfl)).mono ?_
  rintro e w10 ⟨rfl, hb⟩
  have E12 : Hid (EnvB w [(w4.heap.size, .slice xa (len r2) xk), (w.heap.size + 1 + 1 + 1, .slice dq (len Q) cd), (w.heap.size + 1 + 1, .slice co (len M) cc), (w.heap.size + 1, .slice bo (len P) cb), (w.heap.size, .slice ao (len N) ca)] [(.slice xa (len r2) xk, digs r2), (.slice dq (len Q) cd, digs Q), (.slice co (len M) cc, digs M), (.slice bo (len P) cb, digs P), (.slice ao (len N) ca, digs N)] _) := Lib.hid ((E11.out.below hb))
  clear p17 f17 p18 f18 E11 hb
  obtain ⟨p19, f19, -, -, -⟩ := E12.out.box 3 rfl
  obtain ⟨p20, f20, -, -, -⟩ := E12.out.box 1 rfl
  go_wp2_with fail
  refine (rGcd_c hr1.out hp2.out hq2.out (E12.out.nt 3 rfl) (E12.out.nt 1 rfl)).mono ?_
  rintro e w11 ⟨⟨ua, uk, rfl, hu⟩, hb⟩
  have E13 : Hid (EnvB w [(w4.heap.size, .slice xa (len r2) xk), (w.heap.size + 1 + 1 + 1, .slice dq (len Q) cd), (w.heap.size + 1 + 1, .slice co (len M) cc), (w.heap.size + 1, .slice bo (len P) cb), (w.heap.size, .slice ao (len N) ca)] [(.slice ua (len r1) uk, digs r1), (.slice xa (len r2) xk, digs r2), (.slice dq (len Q) cd, digs Q), (.slice co (len M) cc, digs M), (.slice bo (len P) cb, digs P), (.slice ao (len N) ca, digs N)] _) := Lib.hid (((E12.out.below hb).numN (hu.out : Nt _ _ r1)))
  clear p19 f19 p20 f20 E12 hb hu
  go_wp2_with fail
  refine (rOf_c 1 _ (by decide)).mono ?_
  rintro e w12 ⟨⟨va, vk, rfl, hv⟩, hb⟩
  have E14 : Hid (EnvB w [(w4.heap.size, .slice xa (len r2) xk), (w.heap.size + 1 + 1 + 1, .slice dq (len Q) cd), (w.heap.size + 1 + 1, .slice co (len M) cc), (w.heap.size + 1, .slice bo (len P) cb), (w.heap.size, .slice ao (len N) ca)] [(.slice va (len 1) vk, digs 1), (.slice ua (len r1) uk, digs r1), (.slice xa (len r2) xk, digs r2), (.slice dq (len Q) cd, digs Q), (.slice co (len M) cc, digs M), (.slice bo (len P) cb, digs P), (.slice ao (len N) ca, digs N)] _) := Lib.hid (((E13.out.below hb).numN (hv.out : Nt _ _ 1)))
  clear E13 hb hv
  go_wp2_with fail
  refine (rSame_c hx.out (E14.out.nt 1 rfl) (E14.out.nt 0 rfl)).mono ?_
  rintro e w13 ⟨rfl, hb⟩
  have E15 : Hid (EnvB w [(w4.heap.size, .slice xa (len r2) xk), (w.heap.size + 1 + 1 + 1, .slice dq (len Q) cd), (w.heap.size + 1 + 1, .slice co (len M) cc), (w.heap.size + 1, .slice bo (len P) cb), (w.heap.size, .slice ao (len N) ca)] [(.slice va (len 1) vk, digs 1), (.slice ua (len r1) uk, digs r1), (.slice xa (len r2) xk, digs r2), (.slice dq (len Q) cd, digs Q), (.slice co (len M) cc, digs M), (.slice bo (len P) cb, digs P), (.slice ao (len N) ca, digs N)] _) := Lib.hid ((E14.out.below hb))
  clear E14 hb
  obtain ⟨p21, f21, -, -, -⟩ := E15.out.box 3 rfl
  obtain ⟨p22, f22, -, -, -⟩ := E15.out.box 1 rfl
  go_wp2_with fail
  all_goals (try (exfalso; obtain ⟨hw1, hw2, hw3⟩ := hwr.out; have hw4 := hf6.out; clear hwr; omega))
  have bx0 := Lib.hid (E15.out.box 0 rfl)
  have bx1 := Lib.hid (E15.out.box 4 rfl)
  have bx2 := Lib.hid (E15.out.box 3 rfl)
  have bx3 := Lib.hid (E15.out.box 2 rfl)
  have bx4 := Lib.hid (E15.out.box 1 rfl)
  clear p21 f21 p22 f22
  refine' wp_region_phase (by kernel_rfl) [0, 1, 2, 3, 4, 5, 6, 7, 8, 9, 10] (by kernel_rfl) #[true, true, true, true, true, true, true, true, true, true, true, false] (by kernel_rfl) 1 (by kernel_rfl) [PEq (.agg #[.slice xa (len r2) xk]), PEq (.agg #[.slice ao (len N) ca]), PEq (.agg #[.slice bo (len P) cb]), PEq (.agg #[.slice co (len M) cc]), PEq (.agg #[.slice dq (len Q) cd]), PNum (r2), PEq (.bool true), PEq (.bool true), PEq (.int .i64 0), PEq (.bool true), PEq (.bool true), Fact.none] (List.forall_mem_cons.2 ⟨PEq.st _, List.forall_mem_cons.2 ⟨PEq.st _, List.forall_mem_cons.2 ⟨PEq.st _, List.forall_mem_cons.2 ⟨PEq.st _, List.forall_mem_cons.2 ⟨PEq.st _, List.forall_mem_cons.2 ⟨PNum.st _, List.forall_mem_cons.2 ⟨PEq.st _, List.forall_mem_cons.2 ⟨PEq.st _, List.forall_mem_cons.2 ⟨PEq.st _, List.forall_mem_cons.2 ⟨PEq.st _, List.forall_mem_cons.2 ⟨PEq.st _, List.forall_mem_cons.2 ⟨Fact.none_st, List.forall_mem_nil _⟩⟩⟩⟩⟩⟩⟩⟩⟩⟩⟩⟩) _ ?hFr1 ?stepr1 ?doner1
  case hFr1 => intro x; simp only [frameL, Act.put, List.setIfInBounds_toArray, List.set_cons_zero, List.set_cons_succ, Nat.zero_add, Nat.reduceAdd]; exact rfl
  case stepr1 =>
    refine List.forall_mem_cons.2 ⟨?_, ?_⟩
    · intro xv bv ev WW hB hdp
      refine op_of rfl ?_
      clear hdp
      intro KK hKK
      obtain ⟨z, -, -, -, -⟩ := bx0.out.below hB
      go_simp
      exact act_eq (hKK.out (.agg #[.slice xa (len r2) xk]) _ (Below.refl _ _) rfl) (by first | rfl | simp [upd])
    refine List.forall_mem_cons.2 ⟨?_, ?_⟩
    · intro xv bv ev WW hB hdp
      refine op_of rfl ?_
      clear hdp
      intro KK hKK
      obtain ⟨z, -, -, -, -⟩ := bx1.out.below hB
      go_simp
      exact act_eq (hKK.out (.agg #[.slice ao (len N) ca]) _ (Below.refl _ _) rfl) (by first | rfl | simp [upd])
    refine List.forall_mem_cons.2 ⟨?_, ?_⟩
    · intro xv bv ev WW hB hdp
      refine op_of rfl ?_
      clear hdp
      intro KK hKK
      obtain ⟨z, -, -, -, -⟩ := bx2.out.below hB
      go_simp
      exact act_eq (hKK.out (.agg #[.slice bo (len P) cb]) _ (Below.refl _ _) rfl) (by first | rfl | simp [upd])
    refine List.forall_mem_cons.2 ⟨?_, ?_⟩
    · intro xv bv ev WW hB hdp
      refine op_of rfl ?_
      clear hdp
      intro KK hKK
      obtain ⟨z, -, -, -, -⟩ := bx3.out.below hB
      go_simp
      exact act_eq (hKK.out (.agg #[.slice co (len M) cc]) _ (Below.refl _ _) rfl) (by first | rfl | simp [upd])
    refine List.forall_mem_cons.2 ⟨?_, ?_⟩
    · intro xv bv ev WW hB hdp
      refine op_of rfl ?_
      clear hdp
      intro KK hKK
      obtain ⟨z, -, -, -, -⟩ := bx4.out.below hB
      go_simp
      exact act_eq (hKK.out (.agg #[.slice dq (len Q) cd]) _ (Below.refl _ _) rfl) (by first | rfl | simp [upd])
    refine List.forall_mem_cons.2 ⟨?_, ?_⟩
    · intro xv bv ev WW hB hdp
      refine op_of rfl ?_
      have ed1 : xv 1 = .agg #[.slice ao (len N) ca] := hdp 1 (by kernel_rfl)
      have ed2 : xv 2 = .agg #[.slice bo (len P) cb] := hdp 2 (by kernel_rfl)
      have ed3 : xv 3 = .agg #[.slice co (len M) cc] := hdp 3 (by kernel_rfl)
      have ed4 : xv 4 = .agg #[.slice dq (len Q) cd] := hdp 4 (by kernel_rfl)
      clear hdp
      intro KK hKK
      go_simp
      refine (rCrt_c hr.out hn1.out hm1.out hp.out hq.out ((E15.out.below hB).nt 6 rfl) ((E15.out.below hB).nt 5 rfl) ((E15.out.below hB).nt 4 rfl) ((E15.out.below hB).nt 3 rfl)).mono ?_
      rintro e WW' ⟨⟨za, zk, rfl, hz⟩, hb⟩
      (try dsimp only)
      (try simp only [Act.put, List.setIfInBounds_toArray, List.set_cons_zero, List.set_cons_succ])
      exact act_eq (hKK.out _ _ hb ⟨_, _, rfl, hz⟩) (by first | rfl | simp [upd, ed1, ed2, ed3, ed4])
    refine List.forall_mem_cons.2 ⟨?_, ?_⟩
    · intro xv bv ev WW hB hdp
      refine op_of rfl ?_
      have ed0 : xv 0 = .agg #[.slice xa (len r2) xk] := hdp 0 (by kernel_rfl)
      obtain ⟨za, zk, ed5, hz⟩ := (show (PNum (r2)) (xv 5) (bv 5) (ev 5) WW from hdp 5 (by kernel_rfl))
      clear hdp
      intro KK hKK
      go_simp
      refine (same_c (t := true) (by simp) ((E15.out.below hB).nt 2 rfl) hz.out).mono ?_
      rintro e WW' ⟨rfl, hb⟩
      (try dsimp only)
      (try simp only [Act.put, List.setIfInBounds_toArray, List.set_cons_zero, List.set_cons_succ])
      exact act_eq (hKK.out _ _ hb rfl) (by first | rfl | simp [upd, ed0, ed5])
    refine List.forall_mem_cons.2 ⟨?_, ?_⟩
    · intro xv bv ev WW hB hdp
      refine op_of rfl ?_
      have ed6 : xv 6 = .bool true := hdp 6 (by kernel_rfl)
      clear hdp
      intro KK hKK
      go_simp
      exact act_eq (hKK.out _ _ (Below.refl _ _) rfl) (by first | rfl | simp [upd, ed6])
    refine List.forall_mem_cons.2 ⟨?_, ?_⟩
    · intro xv bv ev WW hB hdp
      refine op_of rfl ?_
      have ed7 : xv 7 = .bool true := hdp 7 (by kernel_rfl)
      clear hdp
      intro KK hKK
      refine op_guard (d := 113) rfl rfl (by first | exact congrArg some ed7 | simp [ed7]) ?_
      go_simp
      exact act_eq (hKK.out _ _ (Below.refl _ _) rfl) (by first | rfl | simp [upd, ed7])
    refine List.forall_mem_cons.2 ⟨?_, ?_⟩
    · intro xv bv ev WW hB hdp
      refine op_of rfl ?_
      have ed8 : xv 8 = .int .i64 0 := hdp 8 (by kernel_rfl)
      have ed7 : xv 7 = .bool true := hdp 7 (by kernel_rfl)
      clear hdp
      intro KK hKK
      refine op_guard (d := 113) rfl rfl (by first | exact congrArg some ed7 | simp [ed7]) ?_
      go_simp
      exact act_eq (hKK.out _ _ (Below.refl _ _) rfl) (by first | rfl | simp [upd, ed8, ed7])
    refine List.forall_mem_cons.2 ⟨?_, ?_⟩
    · intro xv bv ev WW hB hdp
      refine op_of rfl ?_
      have ed7 : xv 7 = .bool true := hdp 7 (by kernel_rfl)
      have ed9 : xv 9 = .bool true := hdp 9 (by kernel_rfl)
      clear hdp
      intro KK hKK
      go_simp
      exact act_eq (hKK.out _ _ (Below.refl _ _) rfl) (by first | rfl | simp [upd, ed7, ed9])
    exact List.forall_mem_nil _
  intro xv bv ev w14 hB hR hO
  have ed0 : xv 0 = .agg #[.slice xa (len r2) xk] := hR 0 (by kernel_rfl)
  have ed1 : xv 1 = .agg #[.slice ao (len N) ca] := hR 1 (by kernel_rfl)
  have ed2 : xv 2 = .agg #[.slice bo (len P) cb] := hR 2 (by kernel_rfl)
  have ed3 : xv 3 = .agg #[.slice co (len M) cc] := hR 3 (by kernel_rfl)
  have ed4 : xv 4 = .agg #[.slice dq (len Q) cd] := hR 4 (by kernel_rfl)
  obtain ⟨za, zk, ed5, hz⟩ := (show (PNum (r2)) (xv 5) (bv 5) (ev 5) w14 from hR 5 (by kernel_rfl))
  have ed6 : xv 6 = .bool true := hR 6 (by kernel_rfl)
  have ed7 : xv 7 = .bool true := hR 7 (by kernel_rfl)
  have ed8 : xv 8 = .int .i64 0 := hR 8 (by kernel_rfl)
  have ed9 : xv 9 = .bool true := hR 9 (by kernel_rfl)
  have ed10 : xv 10 = .bool true := hR 10 (by kernel_rfl)
  simp only [ed0, ed1, ed2, ed3, ed4, ed5, ed6, ed7, ed8, ed9, ed10]
  have E16 : Hid (EnvB w [(w4.heap.size, .slice xa (len r2) xk), (w.heap.size + 1 + 1 + 1, .slice dq (len Q) cd), (w.heap.size + 1 + 1, .slice co (len M) cc), (w.heap.size + 1, .slice bo (len P) cb), (w.heap.size, .slice ao (len N) ca)] [(.slice za (len r2) zk, digs r2), (.slice va (len 1) vk, digs 1), (.slice ua (len r1) uk, digs r1), (.slice xa (len r2) xk, digs r2), (.slice dq (len Q) cd, digs Q), (.slice co (len M) cc, digs M), (.slice bo (len P) cb, digs P), (.slice ao (len N) ca, digs N)] _) := Lib.hid (((E15.out.below hB).numN (hz.out : Nt _ _ (r2))))
  clear E15 hB hR hO bx0 bx1 bx2 bx3 bx4 ed0 ed1 ed2 ed3 ed4 ed5 ed6 ed7 ed8 ed9 ed10 hz
  refine wpAny_next (i := 11) (by kernel_rfl) rfl (fun KK hKK => ?_)
  go_simp
  refine hKK.out _ _ ?_
  clear hKK KK
  refine wpAny_done (by kernel_rfl) ?_ _
  have hfin := Lib.hid E16.out.1
  go_wp2
  go_ret
  exact ⟨rfl, hfin.out⟩
set_option maxRecDepth 100000 in
set_option maxHeartbeats 1000000 in
theorem Crt_bB0 (ao : Option Addr) (ca : Nat) (bo : Option Addr) (cb : Nat) (co : Option Addr) (cc : Nat) (dq : Option Addr) (cd : Nat) (la lp lb lq : List Nat)  (w : World) (ha : Sl w (.slice ao la.length ca) la) (hb : Sl w (.slice bo lp.length cb) lp) (hc : Sl w (.slice co lb.length cc) lb) (hd : Sl w (.slice dq lq.length cd) lq) (hf0 : la.length ≤ 40 ∧ lp.length ≤ 40 ∧ lb.length ≤ 40 ∧ lq.length ≤ 40) (hf60 : ¬ (lp.length ≤ 6 ∧ lq.length ≤ 6)) (hs0 : 34 ≤ lp.length + lq.length) (k20 : mdl lp = false) :
    Calls Try.prog 3 #[.agg #[.slice ao la.length ca], .agg #[.slice bo lp.length cb], .agg #[.slice co lb.length cc], .agg #[.slice dq lq.length cd]] w fun e w' => e = .returned (.bool true) ∧ Below w.heap.size w w' := by
  have hf := Lib.hid hf0
  have hf6 := Lib.hid hf60
  have hs := Lib.hid hs0
  have k2 := Lib.hid k20
  have hwr : Hid (wrap64 ((lp.length : Nat) + (lq.length : Nat) : Int) = ((lp.length : Nat) + (lq.length : Nat) : Int) ∧ lp.length ≤ 40 ∧ lq.length ≤ 40) := Lib.hid ⟨IntWalk.wrap64_in _ ⟨by omega, by omega⟩, by omega, by omega⟩
  clear hf0 hf60 hs0 k20
  have E0 : Hid (EnvB w [] [(.slice dq lq.length cd, lq), (.slice co lb.length cc, lb), (.slice bo lp.length cb, lp), (.slice ao la.length ca, la)] w) := Lib.hid (((((EnvB.start w).num ha).num hb).num hc).num hd)
  clear ha hb hc hd
  go_enter Try.func3, Try.ntmps3
  go_wp2_with fail
  have E1 : Hid (EnvB w [(w.heap.size + 1 + 1 + 1, .slice dq lq.length cd), (w.heap.size + 1 + 1, .slice co lb.length cc), (w.heap.size + 1, .slice bo lp.length cb), (w.heap.size, .slice ao la.length ca)] [(.slice dq lq.length cd, lq), (.slice co lb.length cc, lb), (.slice bo lp.length cb, lp), (.slice ao la.length ca, la)] _) := Lib.hid (((((E0.out.push (.slice ao la.length ca) 24 ⟨_, _, _, rfl⟩ (w.heap.size) (by simp)).push (.slice bo lp.length cb) 24 ⟨_, _, _, rfl⟩ (w.heap.size + 1) (by simp)).push (.slice co lb.length cc) 24 ⟨_, _, _, rfl⟩ (w.heap.size + 1 + 1) (by simp)).push (.slice dq lq.length cd) 24 ⟨_, _, _, rfl⟩ (w.heap.size + 1 + 1 + 1) (by simp)))
  refine (awake_c _).mono ?_
  rintro e w1 ⟨rfl, hb⟩
  have E2 : Hid (EnvB w [(w.heap.size + 1 + 1 + 1, .slice dq lq.length cd), (w.heap.size + 1 + 1, .slice co lb.length cc), (w.heap.size + 1, .slice bo lp.length cb), (w.heap.size, .slice ao la.length ca)] [(.slice dq lq.length cd, lq), (.slice co lb.length cc, lb), (.slice bo lp.length cb, lp), (.slice ao la.length ca, la)] _) := Lib.hid ((E1.out.below hb))
  clear E1 E0 hb
  obtain ⟨p1, f1, -, -, -⟩ := E2.out.box 3 rfl
  obtain ⟨p2, f2, -, -, -⟩ := E2.out.box 2 rfl
  obtain ⟨p3, f3, -, -, -⟩ := E2.out.box 1 rfl
  obtain ⟨p4, f4, -, -, -⟩ := E2.out.box 0 rfl
  go_wp2_with fail
  refine (few4_t _ _ _ (la) _ _ _ (lp) _ _ _ (lb) _ _ _ (lq) 40 _ (E2.out.sl 3 rfl) (E2.out.sl 2 rfl) (E2.out.sl 1 rfl) (E2.out.sl 0 rfl) hf.out _ (by simp)).mono ?_
  rintro e w2 ⟨rfl, hb⟩
  have E3 : Hid (EnvB w [(w.heap.size + 1 + 1 + 1, .slice dq lq.length cd), (w.heap.size + 1 + 1, .slice co lb.length cc), (w.heap.size + 1, .slice bo lp.length cb), (w.heap.size, .slice ao la.length ca)] [(.slice dq lq.length cd, lq), (.slice co lb.length cc, lb), (.slice bo lp.length cb, lp), (.slice ao la.length ca, la)] _) := Lib.hid ((E2.out.below hb))
  clear p1 f1 p2 f2 p3 f3 p4 f4 E2 hb
  obtain ⟨p5, f5, -, -, -⟩ := E3.out.box 2 rfl
  obtain ⟨p6, f6, -, -, -⟩ := E3.out.box 0 rfl
  go_wp2_with fail
  refine (few2_f _ _ _ (lp) _ _ _ (lq) 6 _ (E3.out.sl 2 rfl) (E3.out.sl 0 rfl) hf6.out _ (by simp)).mono ?_
  rintro e w3 ⟨rfl, hb⟩
  have E4 : Hid (EnvB w [(w.heap.size + 1 + 1 + 1, .slice dq lq.length cd), (w.heap.size + 1 + 1, .slice co lb.length cc), (w.heap.size + 1, .slice bo lp.length cb), (w.heap.size, .slice ao la.length ca)] [(.slice dq lq.length cd, lq), (.slice co lb.length cc, lb), (.slice bo lp.length cb, lp), (.slice ao la.length ca, la)] _) := Lib.hid ((E3.out.below hb))
  clear p5 f5 p6 f6 E3 hb
  obtain ⟨p7, f7, -, -, -⟩ := E4.out.box 2 rfl
  obtain ⟨p8, f8, -, -, -⟩ := E4.out.box 0 rfl
  obtain ⟨p9, f9, -, -, -⟩ := E4.out.box 3 rfl
  obtain ⟨p10, f10, -, -, -⟩ := E4.out.box 1 rfl
  go_wp2_with fail
  all_goals (try (exfalso; obtain ⟨hw1, hw2, hw3⟩ := hwr.out; have hw4 := hs.out; clear hwr; omega))
  refine (crt_z1 (.inr (.inr (.inl k2.out))) (E4.out.sl 3 rfl) (E4.out.sl 2 rfl) (E4.out.sl 1 rfl) (E4.out.sl 0 rfl)).mono ?_
  rintro e w4 ⟨⟨xa, xk, rfl⟩, hb⟩
  have E5 : Hid (EnvB w [(w.heap.size + 1 + 1 + 1, .slice dq lq.length cd), (w.heap.size + 1 + 1, .slice co lb.length cc), (w.heap.size + 1, .slice bo lp.length cb), (w.heap.size, .slice ao la.length ca)] [(.slice dq lq.length cd, lq), (.slice co lb.length cc, lb), (.slice bo lp.length cb, lp), (.slice ao la.length ca, la)] _) := Lib.hid ((E4.out.below hb))
  clear p7 f7 p8 f8 p9 f9 p10 f10 E4 hb
  have E6 : Hid (EnvB w [(w4.heap.size, .slice xa 0 xk), (w.heap.size + 1 + 1 + 1, .slice dq lq.length cd), (w.heap.size + 1 + 1, .slice co lb.length cc), (w.heap.size + 1, .slice bo lp.length cb), (w.heap.size, .slice ao la.length ca)] [(.slice dq lq.length cd, lq), (.slice co lb.length cc, lb), (.slice bo lp.length cb, lp), (.slice ao la.length ca, la)] _) := Lib.hid ((E5.out.push (.slice xa 0 xk) 24 ⟨_, _, _, rfl⟩ (w4.heap.size) (by simp)))
  obtain ⟨p11, f11, -, -, -⟩ := E6.out.box 3 rfl
  go_wp2_with fail
  refine (first0_c _ _ _ (lp) 1 _ (fst0_f k2.out) (E6.out.sl 2 rfl)).mono ?_
  rintro e w5 ⟨rfl, hb⟩
  have E7 : Hid (EnvB w [(w4.heap.size, .slice xa 0 xk), (w.heap.size + 1 + 1 + 1, .slice dq lq.length cd), (w.heap.size + 1 + 1, .slice co lb.length cc), (w.heap.size + 1, .slice bo lp.length cb), (w.heap.size, .slice ao la.length ca)] [(.slice dq lq.length cd, lq), (.slice co lb.length cc, lb), (.slice bo lp.length cb, lp), (.slice ao la.length ca, la)] _) := Lib.hid ((E6.out.below hb))
  clear p11 f11 E6 E5 hb
  obtain ⟨p12, f12, -, -, -⟩ := E7.out.box 0 rfl
  have hfin := Lib.hid E7.out.1
  go_wp2
  go_ret
  exact ⟨rfl, hfin.out⟩
set_option maxRecDepth 100000 in
set_option maxHeartbeats 1000000 in
theorem Crt_bB1 (ao : Option Addr) (ca : Nat) (bo : Option Addr) (cb : Nat) (co : Option Addr) (cc : Nat) (dq : Option Addr) (cd : Nat) (la lp lb lq : List Nat)  (w : World) (ha : Sl w (.slice ao la.length ca) la) (hb : Sl w (.slice bo lp.length cb) lp) (hc : Sl w (.slice co lb.length cc) lb) (hd : Sl w (.slice dq lq.length cd) lq) (hf0 : la.length ≤ 40 ∧ lp.length ≤ 40 ∧ lb.length ≤ 40 ∧ lq.length ≤ 40) (hf60 : ¬ (lp.length ≤ 6 ∧ lq.length ≤ 6)) (hs0 : 34 ≤ lp.length + lq.length) (k20 : mdl lp = true) (k30 : mdl lq = false) :
    Calls Try.prog 3 #[.agg #[.slice ao la.length ca], .agg #[.slice bo lp.length cb], .agg #[.slice co lb.length cc], .agg #[.slice dq lq.length cd]] w fun e w' => e = .returned (.bool true) ∧ Below w.heap.size w w' := by
  have hf := Lib.hid hf0
  have hf6 := Lib.hid hf60
  have hs := Lib.hid hs0
  have k2 := Lib.hid k20
  have k3 := Lib.hid k30
  have hwr : Hid (wrap64 ((lp.length : Nat) + (lq.length : Nat) : Int) = ((lp.length : Nat) + (lq.length : Nat) : Int) ∧ lp.length ≤ 40 ∧ lq.length ≤ 40) := Lib.hid ⟨IntWalk.wrap64_in _ ⟨by omega, by omega⟩, by omega, by omega⟩
  clear hf0 hf60 hs0 k20 k30
  have E0 : Hid (EnvB w [] [(.slice dq lq.length cd, lq), (.slice co lb.length cc, lb), (.slice bo lp.length cb, lp), (.slice ao la.length ca, la)] w) := Lib.hid (((((EnvB.start w).num ha).num hb).num hc).num hd)
  clear ha hb hc hd
  go_enter Try.func3, Try.ntmps3
  go_wp2_with fail
  have E1 : Hid (EnvB w [(w.heap.size + 1 + 1 + 1, .slice dq lq.length cd), (w.heap.size + 1 + 1, .slice co lb.length cc), (w.heap.size + 1, .slice bo lp.length cb), (w.heap.size, .slice ao la.length ca)] [(.slice dq lq.length cd, lq), (.slice co lb.length cc, lb), (.slice bo lp.length cb, lp), (.slice ao la.length ca, la)] _) := Lib.hid (((((E0.out.push (.slice ao la.length ca) 24 ⟨_, _, _, rfl⟩ (w.heap.size) (by simp)).push (.slice bo lp.length cb) 24 ⟨_, _, _, rfl⟩ (w.heap.size + 1) (by simp)).push (.slice co lb.length cc) 24 ⟨_, _, _, rfl⟩ (w.heap.size + 1 + 1) (by simp)).push (.slice dq lq.length cd) 24 ⟨_, _, _, rfl⟩ (w.heap.size + 1 + 1 + 1) (by simp)))
  refine (awake_c _).mono ?_
  rintro e w1 ⟨rfl, hb⟩
  have E2 : Hid (EnvB w [(w.heap.size + 1 + 1 + 1, .slice dq lq.length cd), (w.heap.size + 1 + 1, .slice co lb.length cc), (w.heap.size + 1, .slice bo lp.length cb), (w.heap.size, .slice ao la.length ca)] [(.slice dq lq.length cd, lq), (.slice co lb.length cc, lb), (.slice bo lp.length cb, lp), (.slice ao la.length ca, la)] _) := Lib.hid ((E1.out.below hb))
  clear E1 E0 hb
  obtain ⟨p1, f1, -, -, -⟩ := E2.out.box 3 rfl
  obtain ⟨p2, f2, -, -, -⟩ := E2.out.box 2 rfl
  obtain ⟨p3, f3, -, -, -⟩ := E2.out.box 1 rfl
  obtain ⟨p4, f4, -, -, -⟩ := E2.out.box 0 rfl
  go_wp2_with fail
  refine (few4_t _ _ _ (la) _ _ _ (lp) _ _ _ (lb) _ _ _ (lq) 40 _ (E2.out.sl 3 rfl) (E2.out.sl 2 rfl) (E2.out.sl 1 rfl) (E2.out.sl 0 rfl) hf.out _ (by simp)).mono ?_
  rintro e w2 ⟨rfl, hb⟩
  have E3 : Hid (EnvB w [(w.heap.size + 1 + 1 + 1, .slice dq lq.length cd), (w.heap.size + 1 + 1, .slice co lb.length cc), (w.heap.size + 1, .slice bo lp.length cb), (w.heap.size, .slice ao la.length ca)] [(.slice dq lq.length cd, lq), (.slice co lb.length cc, lb), (.slice bo lp.length cb, lp), (.slice ao la.length ca, la)] _) := Lib.hid ((E2.out.below hb))
  clear p1 f1 p2 f2 p3 f3 p4 f4 E2 hb
  obtain ⟨p5, f5, -, -, -⟩ := E3.out.box 2 rfl
  obtain ⟨p6, f6, -, -, -⟩ := E3.out.box 0 rfl
  go_wp2_with fail
  refine (few2_f _ _ _ (lp) _ _ _ (lq) 6 _ (E3.out.sl 2 rfl) (E3.out.sl 0 rfl) hf6.out _ (by simp)).mono ?_
  rintro e w3 ⟨rfl, hb⟩
  have E4 : Hid (EnvB w [(w.heap.size + 1 + 1 + 1, .slice dq lq.length cd), (w.heap.size + 1 + 1, .slice co lb.length cc), (w.heap.size + 1, .slice bo lp.length cb), (w.heap.size, .slice ao la.length ca)] [(.slice dq lq.length cd, lq), (.slice co lb.length cc, lb), (.slice bo lp.length cb, lp), (.slice ao la.length ca, la)] _) := Lib.hid ((E3.out.below hb))
  clear p5 f5 p6 f6 E3 hb
  obtain ⟨p7, f7, -, -, -⟩ := E4.out.box 2 rfl
  obtain ⟨p8, f8, -, -, -⟩ := E4.out.box 0 rfl
  obtain ⟨p9, f9, -, -, -⟩ := E4.out.box 3 rfl
  obtain ⟨p10, f10, -, -, -⟩ := E4.out.box 1 rfl
  go_wp2_with fail
  all_goals (try (exfalso; obtain ⟨hw1, hw2, hw3⟩ := hwr.out; have hw4 := hs.out; clear hwr; omega))
  refine (crt_z1 (.inr (.inr (.inr k3.out))) (E4.out.sl 3 rfl) (E4.out.sl 2 rfl) (E4.out.sl 1 rfl) (E4.out.sl 0 rfl)).mono ?_
  rintro e w4 ⟨⟨xa, xk, rfl⟩, hb⟩
  have E5 : Hid (EnvB w [(w.heap.size + 1 + 1 + 1, .slice dq lq.length cd), (w.heap.size + 1 + 1, .slice co lb.length cc), (w.heap.size + 1, .slice bo lp.length cb), (w.heap.size, .slice ao la.length ca)] [(.slice dq lq.length cd, lq), (.slice co lb.length cc, lb), (.slice bo lp.length cb, lp), (.slice ao la.length ca, la)] _) := Lib.hid ((E4.out.below hb))
  clear p7 f7 p8 f8 p9 f9 p10 f10 E4 hb
  have E6 : Hid (EnvB w [(w4.heap.size, .slice xa 0 xk), (w.heap.size + 1 + 1 + 1, .slice dq lq.length cd), (w.heap.size + 1 + 1, .slice co lb.length cc), (w.heap.size + 1, .slice bo lp.length cb), (w.heap.size, .slice ao la.length ca)] [(.slice dq lq.length cd, lq), (.slice co lb.length cc, lb), (.slice bo lp.length cb, lp), (.slice ao la.length ca, la)] _) := Lib.hid ((E5.out.push (.slice xa 0 xk) 24 ⟨_, _, _, rfl⟩ (w4.heap.size) (by simp)))
  obtain ⟨p11, f11, -, -, -⟩ := E6.out.box 3 rfl
  go_wp2_with fail
  refine (first0_c _ _ _ (lp) 0 _ (fst0_t k2.out) (E6.out.sl 2 rfl)).mono ?_
  rintro e w5 ⟨rfl, hb⟩
  have E7 : Hid (EnvB w [(w4.heap.size, .slice xa 0 xk), (w.heap.size + 1 + 1 + 1, .slice dq lq.length cd), (w.heap.size + 1 + 1, .slice co lb.length cc), (w.heap.size + 1, .slice bo lp.length cb), (w.heap.size, .slice ao la.length ca)] [(.slice dq lq.length cd, lq), (.slice co lb.length cc, lb), (.slice bo lp.length cb, lp), (.slice ao la.length ca, la)] _) := Lib.hid ((E6.out.below hb))
  clear p11 f11 E6 E5 hb
  obtain ⟨p12, f12, -, -, -⟩ := E7.out.box 1 rfl
  go_wp2_with fail
  refine (first0_c _ _ _ (lq) 1 _ (fst0_f k3.out) (E7.out.sl 0 rfl)).mono ?_
  rintro e w6 ⟨rfl, hb⟩
  have E8 : Hid (EnvB w [(w4.heap.size, .slice xa 0 xk), (w.heap.size + 1 + 1 + 1, .slice dq lq.length cd), (w.heap.size + 1 + 1, .slice co lb.length cc), (w.heap.size + 1, .slice bo lp.length cb), (w.heap.size, .slice ao la.length ca)] [(.slice dq lq.length cd, lq), (.slice co lb.length cc, lb), (.slice bo lp.length cb, lp), (.slice ao la.length ca, la)] _) := Lib.hid ((E7.out.below hb))
  clear p12 f12 E7 hb
  obtain ⟨p13, f13, -, -, -⟩ := E8.out.box 0 rfl
  have hfin := Lib.hid E8.out.1
  go_wp2
  go_ret
  exact ⟨rfl, hfin.out⟩
set_option maxRecDepth 100000 in
set_option maxHeartbeats 1000000 in
theorem Crt_bB2 (ao : Option Addr) (ca : Nat) (bo : Option Addr) (cb : Nat) (co : Option Addr) (cc : Nat) (dq : Option Addr) (cd : Nat) (la lp lb lq : List Nat)  (w : World) (ha : Sl w (.slice ao la.length ca) la) (hb : Sl w (.slice bo lp.length cb) lp) (hc : Sl w (.slice co lb.length cc) lb) (hd : Sl w (.slice dq lq.length cd) lq) (hf0 : la.length ≤ 40 ∧ lp.length ≤ 40 ∧ lb.length ≤ 40 ∧ lq.length ≤ 40) (hf60 : ¬ (lp.length ≤ 6 ∧ lq.length ≤ 6)) (hs0 : 34 ≤ lp.length + lq.length) (k20 : mdl lp = true) (k30 : mdl lq = true) (k00 : vld la = false) :
    Calls Try.prog 3 #[.agg #[.slice ao la.length ca], .agg #[.slice bo lp.length cb], .agg #[.slice co lb.length cc], .agg #[.slice dq lq.length cd]] w fun e w' => e = .returned (.bool true) ∧ Below w.heap.size w w' := by
  have hf := Lib.hid hf0
  have hf6 := Lib.hid hf60
  have hs := Lib.hid hs0
  have k2 := Lib.hid k20
  have k3 := Lib.hid k30
  have k0 := Lib.hid k00
  have hwr : Hid (wrap64 ((lp.length : Nat) + (lq.length : Nat) : Int) = ((lp.length : Nat) + (lq.length : Nat) : Int) ∧ lp.length ≤ 40 ∧ lq.length ≤ 40) := Lib.hid ⟨IntWalk.wrap64_in _ ⟨by omega, by omega⟩, by omega, by omega⟩
  clear hf0 hf60 hs0 k20 k30 k00
  have E0 : Hid (EnvB w [] [(.slice dq lq.length cd, lq), (.slice co lb.length cc, lb), (.slice bo lp.length cb, lp), (.slice ao la.length ca, la)] w) := Lib.hid (((((EnvB.start w).num ha).num hb).num hc).num hd)
  clear ha hb hc hd
  go_enter Try.func3, Try.ntmps3
  go_wp2_with fail
  have E1 : Hid (EnvB w [(w.heap.size + 1 + 1 + 1, .slice dq lq.length cd), (w.heap.size + 1 + 1, .slice co lb.length cc), (w.heap.size + 1, .slice bo lp.length cb), (w.heap.size, .slice ao la.length ca)] [(.slice dq lq.length cd, lq), (.slice co lb.length cc, lb), (.slice bo lp.length cb, lp), (.slice ao la.length ca, la)] _) := Lib.hid (((((E0.out.push (.slice ao la.length ca) 24 ⟨_, _, _, rfl⟩ (w.heap.size) (by simp)).push (.slice bo lp.length cb) 24 ⟨_, _, _, rfl⟩ (w.heap.size + 1) (by simp)).push (.slice co lb.length cc) 24 ⟨_, _, _, rfl⟩ (w.heap.size + 1 + 1) (by simp)).push (.slice dq lq.length cd) 24 ⟨_, _, _, rfl⟩ (w.heap.size + 1 + 1 + 1) (by simp)))
  refine (awake_c _).mono ?_
  rintro e w1 ⟨rfl, hb⟩
  have E2 : Hid (EnvB w [(w.heap.size + 1 + 1 + 1, .slice dq lq.length cd), (w.heap.size + 1 + 1, .slice co lb.length cc), (w.heap.size + 1, .slice bo lp.length cb), (w.heap.size, .slice ao la.length ca)] [(.slice dq lq.length cd, lq), (.slice co lb.length cc, lb), (.slice bo lp.length cb, lp), (.slice ao la.length ca, la)] _) := Lib.hid ((E1.out.below hb))
  clear E1 E0 hb
  obtain ⟨p1, f1, -, -, -⟩ := E2.out.box 3 rfl
  obtain ⟨p2, f2, -, -, -⟩ := E2.out.box 2 rfl
  obtain ⟨p3, f3, -, -, -⟩ := E2.out.box 1 rfl
  obtain ⟨p4, f4, -, -, -⟩ := E2.out.box 0 rfl
  go_wp2_with fail
  refine (few4_t _ _ _ (la) _ _ _ (lp) _ _ _ (lb) _ _ _ (lq) 40 _ (E2.out.sl 3 rfl) (E2.out.sl 2 rfl) (E2.out.sl 1 rfl) (E2.out.sl 0 rfl) hf.out _ (by simp)).mono ?_
  rintro e w2 ⟨rfl, hb⟩
  have E3 : Hid (EnvB w [(w.heap.size + 1 + 1 + 1, .slice dq lq.length cd), (w.heap.size + 1 + 1, .slice co lb.length cc), (w.heap.size + 1, .slice bo lp.length cb), (w.heap.size, .slice ao la.length ca)] [(.slice dq lq.length cd, lq), (.slice co lb.length cc, lb), (.slice bo lp.length cb, lp), (.slice ao la.length ca, la)] _) := Lib.hid ((E2.out.below hb))
  clear p1 f1 p2 f2 p3 f3 p4 f4 E2 hb
  obtain ⟨p5, f5, -, -, -⟩ := E3.out.box 2 rfl
  obtain ⟨p6, f6, -, -, -⟩ := E3.out.box 0 rfl
  go_wp2_with fail
  refine (few2_f _ _ _ (lp) _ _ _ (lq) 6 _ (E3.out.sl 2 rfl) (E3.out.sl 0 rfl) hf6.out _ (by simp)).mono ?_
  rintro e w3 ⟨rfl, hb⟩
  have E4 : Hid (EnvB w [(w.heap.size + 1 + 1 + 1, .slice dq lq.length cd), (w.heap.size + 1 + 1, .slice co lb.length cc), (w.heap.size + 1, .slice bo lp.length cb), (w.heap.size, .slice ao la.length ca)] [(.slice dq lq.length cd, lq), (.slice co lb.length cc, lb), (.slice bo lp.length cb, lp), (.slice ao la.length ca, la)] _) := Lib.hid ((E3.out.below hb))
  clear p5 f5 p6 f6 E3 hb
  obtain ⟨p7, f7, -, -, -⟩ := E4.out.box 2 rfl
  obtain ⟨p8, f8, -, -, -⟩ := E4.out.box 0 rfl
  obtain ⟨p9, f9, -, -, -⟩ := E4.out.box 3 rfl
  obtain ⟨p10, f10, -, -, -⟩ := E4.out.box 1 rfl
  go_wp2_with fail
  all_goals (try (exfalso; obtain ⟨hw1, hw2, hw3⟩ := hwr.out; have hw4 := hs.out; clear hwr; omega))
  refine (crt_z1 (.inl k0.out) (E4.out.sl 3 rfl) (E4.out.sl 2 rfl) (E4.out.sl 1 rfl) (E4.out.sl 0 rfl)).mono ?_
  rintro e w4 ⟨⟨xa, xk, rfl⟩, hb⟩
  have E5 : Hid (EnvB w [(w.heap.size + 1 + 1 + 1, .slice dq lq.length cd), (w.heap.size + 1 + 1, .slice co lb.length cc), (w.heap.size + 1, .slice bo lp.length cb), (w.heap.size, .slice ao la.length ca)] [(.slice dq lq.length cd, lq), (.slice co lb.length cc, lb), (.slice bo lp.length cb, lp), (.slice ao la.length ca, la)] _) := Lib.hid ((E4.out.below hb))
  clear p7 f7 p8 f8 p9 f9 p10 f10 E4 hb
  have E6 : Hid (EnvB w [(w4.heap.size, .slice xa 0 xk), (w.heap.size + 1 + 1 + 1, .slice dq lq.length cd), (w.heap.size + 1 + 1, .slice co lb.length cc), (w.heap.size + 1, .slice bo lp.length cb), (w.heap.size, .slice ao la.length ca)] [(.slice dq lq.length cd, lq), (.slice co lb.length cc, lb), (.slice bo lp.length cb, lp), (.slice ao la.length ca, la)] _) := Lib.hid ((E5.out.push (.slice xa 0 xk) 24 ⟨_, _, _, rfl⟩ (w4.heap.size) (by simp)))
  obtain ⟨p11, f11, -, -, -⟩ := E6.out.box 3 rfl
  go_wp2_with fail
  refine (first0_c _ _ _ (lp) 0 _ (fst0_t k2.out) (E6.out.sl 2 rfl)).mono ?_
  rintro e w5 ⟨rfl, hb⟩
  have E7 : Hid (EnvB w [(w4.heap.size, .slice xa 0 xk), (w.heap.size + 1 + 1 + 1, .slice dq lq.length cd), (w.heap.size + 1 + 1, .slice co lb.length cc), (w.heap.size + 1, .slice bo lp.length cb), (w.heap.size, .slice ao la.length ca)] [(.slice dq lq.length cd, lq), (.slice co lb.length cc, lb), (.slice bo lp.length cb, lp), (.slice ao la.length ca, la)] _) := Lib.hid ((E6.out.below hb))
  clear p11 f11 E6 E5 hb
  obtain ⟨p12, f12, -, -, -⟩ := E7.out.box 1 rfl
  go_wp2_with fail
  refine (first0_c _ _ _ (lq) 0 _ (fst0_t k3.out) (E7.out.sl 0 rfl)).mono ?_
  rintro e w6 ⟨rfl, hb⟩
  have E8 : Hid (EnvB w [(w4.heap.size, .slice xa 0 xk), (w.heap.size + 1 + 1 + 1, .slice dq lq.length cd), (w.heap.size + 1 + 1, .slice co lb.length cc), (w.heap.size + 1, .slice bo lp.length cb), (w.heap.size, .slice ao la.length ca)] [(.slice dq lq.length cd, lq), (.slice co lb.length cc, lb), (.slice bo lp.length cb, lp), (.slice ao la.length ca, la)] _) := Lib.hid ((E7.out.below hb))
  clear p12 f12 E7 hb
  obtain ⟨p13, f13, -, -, -⟩ := E8.out.box 4 rfl
  go_wp2_with fail
  refine (rValid_of k0.out (E8.out.sl 3 rfl)).mono ?_
  rintro e w7 ⟨rfl, hb⟩
  have E9 : Hid (EnvB w [(w4.heap.size, .slice xa 0 xk), (w.heap.size + 1 + 1 + 1, .slice dq lq.length cd), (w.heap.size + 1 + 1, .slice co lb.length cc), (w.heap.size + 1, .slice bo lp.length cb), (w.heap.size, .slice ao la.length ca)] [(.slice dq lq.length cd, lq), (.slice co lb.length cc, lb), (.slice bo lp.length cb, lp), (.slice ao la.length ca, la)] _) := Lib.hid ((E8.out.below hb))
  clear p13 f13 E8 hb
  obtain ⟨p14, f14, -, -, -⟩ := E9.out.box 0 rfl
  have hfin := Lib.hid E9.out.1
  go_wp2
  go_ret
  exact ⟨rfl, hfin.out⟩
set_option maxRecDepth 100000 in
set_option maxHeartbeats 1000000 in
theorem Crt_bB3 (ao : Option Addr) (ca : Nat) (bo : Option Addr) (cb : Nat) (co : Option Addr) (cc : Nat) (dq : Option Addr) (cd : Nat) (la lp lb lq : List Nat)  (w : World) (ha : Sl w (.slice ao la.length ca) la) (hb : Sl w (.slice bo lp.length cb) lp) (hc : Sl w (.slice co lb.length cc) lb) (hd : Sl w (.slice dq lq.length cd) lq) (hf0 : la.length ≤ 40 ∧ lp.length ≤ 40 ∧ lb.length ≤ 40 ∧ lq.length ≤ 40) (hf60 : ¬ (lp.length ≤ 6 ∧ lq.length ≤ 6)) (hs0 : 34 ≤ lp.length + lq.length) (k20 : mdl lp = true) (k30 : mdl lq = true) (k00 : vld la = true) (k10 : vld lb = false) :
    Calls Try.prog 3 #[.agg #[.slice ao la.length ca], .agg #[.slice bo lp.length cb], .agg #[.slice co lb.length cc], .agg #[.slice dq lq.length cd]] w fun e w' => e = .returned (.bool true) ∧ Below w.heap.size w w' := by
  have hf := Lib.hid hf0
  have hf6 := Lib.hid hf60
  have hs := Lib.hid hs0
  have k2 := Lib.hid k20
  have k3 := Lib.hid k30
  have k0 := Lib.hid k00
  have k1 := Lib.hid k10
  have hwr : Hid (wrap64 ((lp.length : Nat) + (lq.length : Nat) : Int) = ((lp.length : Nat) + (lq.length : Nat) : Int) ∧ lp.length ≤ 40 ∧ lq.length ≤ 40) := Lib.hid ⟨IntWalk.wrap64_in _ ⟨by omega, by omega⟩, by omega, by omega⟩
  clear hf0 hf60 hs0 k20 k30 k00 k10
  have E0 : Hid (EnvB w [] [(.slice dq lq.length cd, lq), (.slice co lb.length cc, lb), (.slice bo lp.length cb, lp), (.slice ao la.length ca, la)] w) := Lib.hid (((((EnvB.start w).num ha).num hb).num hc).num hd)
  clear ha hb hc hd
  go_enter Try.func3, Try.ntmps3
  go_wp2_with fail
  have E1 : Hid (EnvB w [(w.heap.size + 1 + 1 + 1, .slice dq lq.length cd), (w.heap.size + 1 + 1, .slice co lb.length cc), (w.heap.size + 1, .slice bo lp.length cb), (w.heap.size, .slice ao la.length ca)] [(.slice dq lq.length cd, lq), (.slice co lb.length cc, lb), (.slice bo lp.length cb, lp), (.slice ao la.length ca, la)] _) := Lib.hid (((((E0.out.push (.slice ao la.length ca) 24 ⟨_, _, _, rfl⟩ (w.heap.size) (by simp)).push (.slice bo lp.length cb) 24 ⟨_, _, _, rfl⟩ (w.heap.size + 1) (by simp)).push (.slice co lb.length cc) 24 ⟨_, _, _, rfl⟩ (w.heap.size + 1 + 1) (by simp)).push (.slice dq lq.length cd) 24 ⟨_, _, _, rfl⟩ (w.heap.size + 1 + 1 + 1) (by simp)))
  refine (awake_c _).mono ?_
  rintro e w1 ⟨rfl, hb⟩
  have E2 : Hid (EnvB w [(w.heap.size + 1 + 1 + 1, .slice dq lq.length cd), (w.heap.size + 1 + 1, .slice co lb.length cc), (w.heap.size + 1, .slice bo lp.length cb), (w.heap.size, .slice ao la.length ca)] [(.slice dq lq.length cd, lq), (.slice co lb.length cc, lb), (.slice bo lp.length cb, lp), (.slice ao la.length ca, la)] _) := Lib.hid ((E1.out.below hb))
  clear E1 E0 hb
  obtain ⟨p1, f1, -, -, -⟩ := E2.out.box 3 rfl
  obtain ⟨p2, f2, -, -, -⟩ := E2.out.box 2 rfl
  obtain ⟨p3, f3, -, -, -⟩ := E2.out.box 1 rfl
  obtain ⟨p4, f4, -, -, -⟩ := E2.out.box 0 rfl
  go_wp2_with fail
  refine (few4_t _ _ _ (la) _ _ _ (lp) _ _ _ (lb) _ _ _ (lq) 40 _ (E2.out.sl 3 rfl) (E2.out.sl 2 rfl) (E2.out.sl 1 rfl) (E2.out.sl 0 rfl) hf.out _ (by simp)).mono ?_
  rintro e w2 ⟨rfl, hb⟩
  have E3 : Hid (EnvB w [(w.heap.size + 1 + 1 + 1, .slice dq lq.length cd), (w.heap.size + 1 + 1, .slice co lb.length cc), (w.heap.size + 1, .slice bo lp.length cb), (w.heap.size, .slice ao la.length ca)] [(.slice dq lq.length cd, lq), (.slice co lb.length cc, lb), (.slice bo lp.length cb, lp), (.slice ao la.length ca, la)] _) := Lib.hid ((E2.out.below hb))
  clear p1 f1 p2 f2 p3 f3 p4 f4 E2 hb
  obtain ⟨p5, f5, -, -, -⟩ := E3.out.box 2 rfl
  obtain ⟨p6, f6, -, -, -⟩ := E3.out.box 0 rfl
  go_wp2_with fail
  refine (few2_f _ _ _ (lp) _ _ _ (lq) 6 _ (E3.out.sl 2 rfl) (E3.out.sl 0 rfl) hf6.out _ (by simp)).mono ?_
  rintro e w3 ⟨rfl, hb⟩
  have E4 : Hid (EnvB w [(w.heap.size + 1 + 1 + 1, .slice dq lq.length cd), (w.heap.size + 1 + 1, .slice co lb.length cc), (w.heap.size + 1, .slice bo lp.length cb), (w.heap.size, .slice ao la.length ca)] [(.slice dq lq.length cd, lq), (.slice co lb.length cc, lb), (.slice bo lp.length cb, lp), (.slice ao la.length ca, la)] _) := Lib.hid ((E3.out.below hb))
  clear p5 f5 p6 f6 E3 hb
  obtain ⟨p7, f7, -, -, -⟩ := E4.out.box 2 rfl
  obtain ⟨p8, f8, -, -, -⟩ := E4.out.box 0 rfl
  obtain ⟨p9, f9, -, -, -⟩ := E4.out.box 3 rfl
  obtain ⟨p10, f10, -, -, -⟩ := E4.out.box 1 rfl
  go_wp2_with fail
  all_goals (try (exfalso; obtain ⟨hw1, hw2, hw3⟩ := hwr.out; have hw4 := hs.out; clear hwr; omega))
  refine (crt_z1 (.inr (.inl k1.out)) (E4.out.sl 3 rfl) (E4.out.sl 2 rfl) (E4.out.sl 1 rfl) (E4.out.sl 0 rfl)).mono ?_
  rintro e w4 ⟨⟨xa, xk, rfl⟩, hb⟩
  have E5 : Hid (EnvB w [(w.heap.size + 1 + 1 + 1, .slice dq lq.length cd), (w.heap.size + 1 + 1, .slice co lb.length cc), (w.heap.size + 1, .slice bo lp.length cb), (w.heap.size, .slice ao la.length ca)] [(.slice dq lq.length cd, lq), (.slice co lb.length cc, lb), (.slice bo lp.length cb, lp), (.slice ao la.length ca, la)] _) := Lib.hid ((E4.out.below hb))
  clear p7 f7 p8 f8 p9 f9 p10 f10 E4 hb
  have E6 : Hid (EnvB w [(w4.heap.size, .slice xa 0 xk), (w.heap.size + 1 + 1 + 1, .slice dq lq.length cd), (w.heap.size + 1 + 1, .slice co lb.length cc), (w.heap.size + 1, .slice bo lp.length cb), (w.heap.size, .slice ao la.length ca)] [(.slice dq lq.length cd, lq), (.slice co lb.length cc, lb), (.slice bo lp.length cb, lp), (.slice ao la.length ca, la)] _) := Lib.hid ((E5.out.push (.slice xa 0 xk) 24 ⟨_, _, _, rfl⟩ (w4.heap.size) (by simp)))
  obtain ⟨p11, f11, -, -, -⟩ := E6.out.box 3 rfl
  go_wp2_with fail
  refine (first0_c _ _ _ (lp) 0 _ (fst0_t k2.out) (E6.out.sl 2 rfl)).mono ?_
  rintro e w5 ⟨rfl, hb⟩
  have E7 : Hid (EnvB w [(w4.heap.size, .slice xa 0 xk), (w.heap.size + 1 + 1 + 1, .slice dq lq.length cd), (w.heap.size + 1 + 1, .slice co lb.length cc), (w.heap.size + 1, .slice bo lp.length cb), (w.heap.size, .slice ao la.length ca)] [(.slice dq lq.length cd, lq), (.slice co lb.length cc, lb), (.slice bo lp.length cb, lp), (.slice ao la.length ca, la)] _) := Lib.hid ((E6.out.below hb))
  clear p11 f11 E6 E5 hb
  obtain ⟨p12, f12, -, -, -⟩ := E7.out.box 1 rfl
  go_wp2_with fail
  refine (first0_c _ _ _ (lq) 0 _ (fst0_t k3.out) (E7.out.sl 0 rfl)).mono ?_
  rintro e w6 ⟨rfl, hb⟩
  have E8 : Hid (EnvB w [(w4.heap.size, .slice xa 0 xk), (w.heap.size + 1 + 1 + 1, .slice dq lq.length cd), (w.heap.size + 1 + 1, .slice co lb.length cc), (w.heap.size + 1, .slice bo lp.length cb), (w.heap.size, .slice ao la.length ca)] [(.slice dq lq.length cd, lq), (.slice co lb.length cc, lb), (.slice bo lp.length cb, lp), (.slice ao la.length ca, la)] _) := Lib.hid ((E7.out.below hb))
  clear p12 f12 E7 hb
  obtain ⟨p13, f13, -, -, -⟩ := E8.out.box 4 rfl
  go_wp2_with fail
  refine (rValid_of k0.out (E8.out.sl 3 rfl)).mono ?_
  rintro e w7 ⟨rfl, hb⟩
  have E9 : Hid (EnvB w [(w4.heap.size, .slice xa 0 xk), (w.heap.size + 1 + 1 + 1, .slice dq lq.length cd), (w.heap.size + 1 + 1, .slice co lb.length cc), (w.heap.size + 1, .slice bo lp.length cb), (w.heap.size, .slice ao la.length ca)] [(.slice dq lq.length cd, lq), (.slice co lb.length cc, lb), (.slice bo lp.length cb, lp), (.slice ao la.length ca, la)] _) := Lib.hid ((E8.out.below hb))
  clear p13 f13 E8 hb
  obtain ⟨p14, f14, -, -, -⟩ := E9.out.box 2 rfl
  go_wp2_with fail
  refine (rValid_of k1.out (E9.out.sl 1 rfl)).mono ?_
  rintro e w8 ⟨rfl, hb⟩
  have E10 : Hid (EnvB w [(w4.heap.size, .slice xa 0 xk), (w.heap.size + 1 + 1 + 1, .slice dq lq.length cd), (w.heap.size + 1 + 1, .slice co lb.length cc), (w.heap.size + 1, .slice bo lp.length cb), (w.heap.size, .slice ao la.length ca)] [(.slice dq lq.length cd, lq), (.slice co lb.length cc, lb), (.slice bo lp.length cb, lp), (.slice ao la.length ca, la)] _) := Lib.hid ((E9.out.below hb))
  clear p14 f14 E9 hb
  obtain ⟨p15, f15, -, -, -⟩ := E10.out.box 0 rfl
  have hfin := Lib.hid E10.out.1
  go_wp2
  go_ret
  exact ⟨rfl, hfin.out⟩
set_option maxRecDepth 100000 in
set_option maxHeartbeats 1000000 in
theorem Crt_rB1 (ao : Option Addr) (ca : Nat) (bo : Option Addr) (cb : Nat) (co : Option Addr) (cc : Nat) (dq : Option Addr) (cd : Nat) (N P M Q : Nat)  (w : World) (ha : Nt w (.slice ao (len N) ca) N) (hb : Nt w (.slice bo (len P) cb) P) (hc : Nt w (.slice co (len M) cc) M) (hd : Nt w (.slice dq (len Q) cd) Q) (hf0 : len N ≤ 40 ∧ len P ≤ 40 ∧ len M ≤ 40 ∧ len Q ≤ 40) (hf60 : ¬ (len P ≤ 6 ∧ len Q ≤ 6)) (hs0 : 34 ≤ len P + len Q) (k20 : mdl (digs P) = true) (k30 : mdl (digs Q) = true) (k00 : vld (digs N) = true) (k10 : vld (digs M) = true) (p00 : P ≠ 0) (hp0 : len P ≤ 32) (q00 : Q ≠ 0) (hq0 : len Q ≤ 32) (h10 : len N ≤ 64) (h20 : len M ≤ 64) (hp20 : len P ≤ 2000) (hq20 : len Q ≤ 2000) (hn0 : decide (N < P) = false) :
    Calls Try.prog 3 #[.agg #[.slice ao (len N) ca], .agg #[.slice bo (len P) cb], .agg #[.slice co (len M) cc], .agg #[.slice dq (len Q) cd]] w fun e w' => e = .returned (.bool true) ∧ Below w.heap.size w w' := by
  have hf := Lib.hid hf0
  have hf6 := Lib.hid hf60
  have hs := Lib.hid hs0
  have k2 := Lib.hid k20
  have k3 := Lib.hid k30
  have k0 := Lib.hid k00
  have k1 := Lib.hid k10
  have p0 := Lib.hid p00
  have hp := Lib.hid hp0
  have q0 := Lib.hid q00
  have hq := Lib.hid hq0
  have h1 := Lib.hid h10
  have h2 := Lib.hid h20
  have hp2 := Lib.hid hp20
  have hq2 := Lib.hid hq20
  have hn := Lib.hid hn0
  have hwr : Hid (wrap64 ((len P : Nat) + (len Q : Nat) : Int) = ((len P : Nat) + (len Q : Nat) : Int) ∧ len P ≤ 40 ∧ len Q ≤ 40) := Lib.hid ⟨IntWalk.wrap64_in _ ⟨by omega, by omega⟩, by omega, by omega⟩
  clear hf0 hf60 hs0 k20 k30 k00 k10 p00 hp0 q00 hq0 h10 h20 hp20 hq20 hn0
  have E0 : Hid (EnvB w [] [(.slice dq (len Q) cd, digs Q), (.slice co (len M) cc, digs M), (.slice bo (len P) cb, digs P), (.slice ao (len N) ca, digs N)] w) := Lib.hid (((((EnvB.start w).numN ha).numN hb).numN hc).numN hd)
  clear ha hb hc hd
  go_enter Try.func3, Try.ntmps3
  go_wp2_with fail
  have E1 : Hid (EnvB w [(w.heap.size + 1 + 1 + 1, .slice dq (len Q) cd), (w.heap.size + 1 + 1, .slice co (len M) cc), (w.heap.size + 1, .slice bo (len P) cb), (w.heap.size, .slice ao (len N) ca)] [(.slice dq (len Q) cd, digs Q), (.slice co (len M) cc, digs M), (.slice bo (len P) cb, digs P), (.slice ao (len N) ca, digs N)] _) := Lib.hid (((((E0.out.push (.slice ao (len N) ca) 24 ⟨_, _, _, rfl⟩ (w.heap.size) (by simp)).push (.slice bo (len P) cb) 24 ⟨_, _, _, rfl⟩ (w.heap.size + 1) (by simp)).push (.slice co (len M) cc) 24 ⟨_, _, _, rfl⟩ (w.heap.size + 1 + 1) (by simp)).push (.slice dq (len Q) cd) 24 ⟨_, _, _, rfl⟩ (w.heap.size + 1 + 1 + 1) (by simp)))
  refine (awake_c _).mono ?_
  rintro e w1 ⟨rfl, hb⟩
  have E2 : Hid (EnvB w [(w.heap.size + 1 + 1 + 1, .slice dq (len Q) cd), (w.heap.size + 1 + 1, .slice co (len M) cc), (w.heap.size + 1, .slice bo (len P) cb), (w.heap.size, .slice ao (len N) ca)] [(.slice dq (len Q) cd, digs Q), (.slice co (len M) cc, digs M), (.slice bo (len P) cb, digs P), (.slice ao (len N) ca, digs N)] _) := Lib.hid ((E1.out.below hb))
  clear E1 E0 hb
  obtain ⟨p1, f1, -, -, -⟩ := E2.out.box 3 rfl
  obtain ⟨p2, f2, -, -, -⟩ := E2.out.box 2 rfl
  obtain ⟨p3, f3, -, -, -⟩ := E2.out.box 1 rfl
  obtain ⟨p4, f4, -, -, -⟩ := E2.out.box 0 rfl
  go_wp2_with fail
  refine (few4_t _ _ _ (digs N) _ _ _ (digs P) _ _ _ (digs M) _ _ _ (digs Q) 40 _ (E2.out.nt 3 rfl) (E2.out.nt 2 rfl) (E2.out.nt 1 rfl) (E2.out.nt 0 rfl) hf.out _ (by simp)).mono ?_
  rintro e w2 ⟨rfl, hb⟩
  have E3 : Hid (EnvB w [(w.heap.size + 1 + 1 + 1, .slice dq (len Q) cd), (w.heap.size + 1 + 1, .slice co (len M) cc), (w.heap.size + 1, .slice bo (len P) cb), (w.heap.size, .slice ao (len N) ca)] [(.slice dq (len Q) cd, digs Q), (.slice co (len M) cc, digs M), (.slice bo (len P) cb, digs P), (.slice ao (len N) ca, digs N)] _) := Lib.hid ((E2.out.below hb))
  clear p1 f1 p2 f2 p3 f3 p4 f4 E2 hb
  obtain ⟨p5, f5, -, -, -⟩ := E3.out.box 2 rfl
  obtain ⟨p6, f6, -, -, -⟩ := E3.out.box 0 rfl
  go_wp2_with fail
  refine (few2_f _ _ _ (digs P) _ _ _ (digs Q) 6 _ (E3.out.nt 2 rfl) (E3.out.nt 0 rfl) hf6.out _ (by simp)).mono ?_
  rintro e w3 ⟨rfl, hb⟩
  have E4 : Hid (EnvB w [(w.heap.size + 1 + 1 + 1, .slice dq (len Q) cd), (w.heap.size + 1 + 1, .slice co (len M) cc), (w.heap.size + 1, .slice bo (len P) cb), (w.heap.size, .slice ao (len N) ca)] [(.slice dq (len Q) cd, digs Q), (.slice co (len M) cc, digs M), (.slice bo (len P) cb, digs P), (.slice ao (len N) ca, digs N)] _) := Lib.hid ((E3.out.below hb))
  clear p5 f5 p6 f6 E3 hb
  obtain ⟨p7, f7, -, -, -⟩ := E4.out.box 2 rfl
  obtain ⟨p8, f8, -, -, -⟩ := E4.out.box 0 rfl
  obtain ⟨p9, f9, -, -, -⟩ := E4.out.box 3 rfl
  obtain ⟨p10, f10, -, -, -⟩ := E4.out.box 1 rfl
  go_wp2_with fail
  all_goals (try (exfalso; obtain ⟨hw1, hw2, hw3⟩ := hwr.out; have hw4 := hs.out; clear hwr; omega))
  refine (crt_z2 (fun h => by have := hn.out; simp [h.1] at this) h1.out h2.out p0.out hp.out q0.out hq.out (E4.out.nt 3 rfl) (E4.out.nt 2 rfl) (E4.out.nt 1 rfl) (E4.out.nt 0 rfl)).mono ?_
  rintro e w4 ⟨⟨xa, xk, rfl⟩, hb⟩
  have E5 : Hid (EnvB w [(w.heap.size + 1 + 1 + 1, .slice dq (len Q) cd), (w.heap.size + 1 + 1, .slice co (len M) cc), (w.heap.size + 1, .slice bo (len P) cb), (w.heap.size, .slice ao (len N) ca)] [(.slice dq (len Q) cd, digs Q), (.slice co (len M) cc, digs M), (.slice bo (len P) cb, digs P), (.slice ao (len N) ca, digs N)] _) := Lib.hid ((E4.out.below hb))
  clear p7 f7 p8 f8 p9 f9 p10 f10 E4 hb
  have E6 : Hid (EnvB w [(w4.heap.size, .slice xa 0 xk), (w.heap.size + 1 + 1 + 1, .slice dq (len Q) cd), (w.heap.size + 1 + 1, .slice co (len M) cc), (w.heap.size + 1, .slice bo (len P) cb), (w.heap.size, .slice ao (len N) ca)] [(.slice dq (len Q) cd, digs Q), (.slice co (len M) cc, digs M), (.slice bo (len P) cb, digs P), (.slice ao (len N) ca, digs N)] _) := Lib.hid ((E5.out.push (.slice xa 0 xk) 24 ⟨_, _, _, rfl⟩ (w4.heap.size) (by simp)))
  obtain ⟨p11, f11, -, -, -⟩ := E6.out.box 3 rfl
  go_wp2_with fail
  refine (first0_c _ _ _ (digs P) 0 _ (fst0_t k2.out) (E6.out.nt 2 rfl)).mono ?_
  rintro e w5 ⟨rfl, hb⟩
  have E7 : Hid (EnvB w [(w4.heap.size, .slice xa 0 xk), (w.heap.size + 1 + 1 + 1, .slice dq (len Q) cd), (w.heap.size + 1 + 1, .slice co (len M) cc), (w.heap.size + 1, .slice bo (len P) cb), (w.heap.size, .slice ao (len N) ca)] [(.slice dq (len Q) cd, digs Q), (.slice co (len M) cc, digs M), (.slice bo (len P) cb, digs P), (.slice ao (len N) ca, digs N)] _) := Lib.hid ((E6.out.below hb))
  clear p11 f11 E6 E5 hb
  obtain ⟨p12, f12, -, -, -⟩ := E7.out.box 1 rfl
  go_wp2_with fail
  refine (first0_c _ _ _ (digs Q) 0 _ (fst0_t k3.out) (E7.out.nt 0 rfl)).mono ?_
  rintro e w6 ⟨rfl, hb⟩
  have E8 : Hid (EnvB w [(w4.heap.size, .slice xa 0 xk), (w.heap.size + 1 + 1 + 1, .slice dq (len Q) cd), (w.heap.size + 1 + 1, .slice co (len M) cc), (w.heap.size + 1, .slice bo (len P) cb), (w.heap.size, .slice ao (len N) ca)] [(.slice dq (len Q) cd, digs Q), (.slice co (len M) cc, digs M), (.slice bo (len P) cb, digs P), (.slice ao (len N) ca, digs N)] _) := Lib.hid ((E7.out.below hb))
  clear p12 f12 E7 hb
  obtain ⟨p13, f13, -, -, -⟩ := E8.out.box 4 rfl
  go_wp2_with fail
  refine (rValid_of k0.out (E8.out.nt 3 rfl)).mono ?_
  rintro e w7 ⟨rfl, hb⟩
  have E9 : Hid (EnvB w [(w4.heap.size, .slice xa 0 xk), (w.heap.size + 1 + 1 + 1, .slice dq (len Q) cd), (w.heap.size + 1 + 1, .slice co (len M) cc), (w.heap.size + 1, .slice bo (len P) cb), (w.heap.size, .slice ao (len N) ca)] [(.slice dq (len Q) cd, digs Q), (.slice co (len M) cc, digs M), (.slice bo (len P) cb, digs P), (.slice ao (len N) ca, digs N)] _) := Lib.hid ((E8.out.below hb))
  clear p13 f13 E8 hb
  obtain ⟨p14, f14, -, -, -⟩ := E9.out.box 2 rfl
  go_wp2_with fail
  refine (rValid_of k1.out (E9.out.nt 1 rfl)).mono ?_
  rintro e w8 ⟨rfl, hb⟩
  have E10 : Hid (EnvB w [(w4.heap.size, .slice xa 0 xk), (w.heap.size + 1 + 1 + 1, .slice dq (len Q) cd), (w.heap.size + 1 + 1, .slice co (len M) cc), (w.heap.size + 1, .slice bo (len P) cb), (w.heap.size, .slice ao (len N) ca)] [(.slice dq (len Q) cd, digs Q), (.slice co (len M) cc, digs M), (.slice bo (len P) cb, digs P), (.slice ao (len N) ca, digs N)] _) := Lib.hid ((E9.out.below hb))
  clear p14 f14 E9 hb
  obtain ⟨p15, f15, -, -, -⟩ := E10.out.box 4 rfl
  obtain ⟨p16, f16, -, -, -⟩ := E10.out.box 3 rfl
  go_wp2_with fail
  refine (rLess_c hn.out (E10.out.nt 3 rfl) (E10.out.nt 2 rfl)).mono ?_
  rintro e w9 ⟨rfl, hb⟩
  have E11 : Hid (EnvB w [(w4.heap.size, .slice xa 0 xk), (w.heap.size + 1 + 1 + 1, .slice dq (len Q) cd), (w.heap.size + 1 + 1, .slice co (len M) cc), (w.heap.size + 1, .slice bo (len P) cb), (w.heap.size, .slice ao (len N) ca)] [(.slice dq (len Q) cd, digs Q), (.slice co (len M) cc, digs M), (.slice bo (len P) cb, digs P), (.slice ao (len N) ca, digs N)] _) := Lib.hid ((E10.out.below hb))
  clear p15 f15 p16 f16 E10 hb
  obtain ⟨p17, f17, -, -, -⟩ := E11.out.box 0 rfl
  have hfin := Lib.hid E11.out.1
  go_wp2
  go_ret
  exact ⟨rfl, hfin.out⟩
set_option maxRecDepth 100000 in
set_option maxHeartbeats 1000000 in
theorem Crt_rB2 (ao : Option Addr) (ca : Nat) (bo : Option Addr) (cb : Nat) (co : Option Addr) (cc : Nat) (dq : Option Addr) (cd : Nat) (N P M Q : Nat)  (w : World) (ha : Nt w (.slice ao (len N) ca) N) (hb : Nt w (.slice bo (len P) cb) P) (hc : Nt w (.slice co (len M) cc) M) (hd : Nt w (.slice dq (len Q) cd) Q) (hf0 : len N ≤ 40 ∧ len P ≤ 40 ∧ len M ≤ 40 ∧ len Q ≤ 40) (hf60 : ¬ (len P ≤ 6 ∧ len Q ≤ 6)) (hs0 : 34 ≤ len P + len Q) (k20 : mdl (digs P) = true) (k30 : mdl (digs Q) = true) (k00 : vld (digs N) = true) (k10 : vld (digs M) = true) (p00 : P ≠ 0) (hp0 : len P ≤ 32) (q00 : Q ≠ 0) (hq0 : len Q ≤ 32) (h10 : len N ≤ 64) (h20 : len M ≤ 64) (hp20 : len P ≤ 2000) (hq20 : len Q ≤ 2000) (hn0 : decide (N < P) = true) (hm0 : decide (M < Q) = false) :
    Calls Try.prog 3 #[.agg #[.slice ao (len N) ca], .agg #[.slice bo (len P) cb], .agg #[.slice co (len M) cc], .agg #[.slice dq (len Q) cd]] w fun e w' => e = .returned (.bool true) ∧ Below w.heap.size w w' := by
  have hf := Lib.hid hf0
  have hf6 := Lib.hid hf60
  have hs := Lib.hid hs0
  have k2 := Lib.hid k20
  have k3 := Lib.hid k30
  have k0 := Lib.hid k00
  have k1 := Lib.hid k10
  have p0 := Lib.hid p00
  have hp := Lib.hid hp0
  have q0 := Lib.hid q00
  have hq := Lib.hid hq0
  have h1 := Lib.hid h10
  have h2 := Lib.hid h20
  have hp2 := Lib.hid hp20
  have hq2 := Lib.hid hq20
  have hn := Lib.hid hn0
  have hm := Lib.hid hm0
  have hwr : Hid (wrap64 ((len P : Nat) + (len Q : Nat) : Int) = ((len P : Nat) + (len Q : Nat) : Int) ∧ len P ≤ 40 ∧ len Q ≤ 40) := Lib.hid ⟨IntWalk.wrap64_in _ ⟨by omega, by omega⟩, by omega, by omega⟩
  clear hf0 hf60 hs0 k20 k30 k00 k10 p00 hp0 q00 hq0 h10 h20 hp20 hq20 hn0 hm0
  have E0 : Hid (EnvB w [] [(.slice dq (len Q) cd, digs Q), (.slice co (len M) cc, digs M), (.slice bo (len P) cb, digs P), (.slice ao (len N) ca, digs N)] w) := Lib.hid (((((EnvB.start w).numN ha).numN hb).numN hc).numN hd)
  clear ha hb hc hd
  go_enter Try.func3, Try.ntmps3
  go_wp2_with fail
  have E1 : Hid (EnvB w [(w.heap.size + 1 + 1 + 1, .slice dq (len Q) cd), (w.heap.size + 1 + 1, .slice co (len M) cc), (w.heap.size + 1, .slice bo (len P) cb), (w.heap.size, .slice ao (len N) ca)] [(.slice dq (len Q) cd, digs Q), (.slice co (len M) cc, digs M), (.slice bo (len P) cb, digs P), (.slice ao (len N) ca, digs N)] _) := Lib.hid (((((E0.out.push (.slice ao (len N) ca) 24 ⟨_, _, _, rfl⟩ (w.heap.size) (by simp)).push (.slice bo (len P) cb) 24 ⟨_, _, _, rfl⟩ (w.heap.size + 1) (by simp)).push (.slice co (len M) cc) 24 ⟨_, _, _, rfl⟩ (w.heap.size + 1 + 1) (by simp)).push (.slice dq (len Q) cd) 24 ⟨_, _, _, rfl⟩ (w.heap.size + 1 + 1 + 1) (by simp)))
  refine (awake_c _).mono ?_
  rintro e w1 ⟨rfl, hb⟩
  have E2 : Hid (EnvB w [(w.heap.size + 1 + 1 + 1, .slice dq (len Q) cd), (w.heap.size + 1 + 1, .slice co (len M) cc), (w.heap.size + 1, .slice bo (len P) cb), (w.heap.size, .slice ao (len N) ca)] [(.slice dq (len Q) cd, digs Q), (.slice co (len M) cc, digs M), (.slice bo (len P) cb, digs P), (.slice ao (len N) ca, digs N)] _) := Lib.hid ((E1.out.below hb))
  clear E1 E0 hb
  obtain ⟨p1, f1, -, -, -⟩ := E2.out.box 3 rfl
  obtain ⟨p2, f2, -, -, -⟩ := E2.out.box 2 rfl
  obtain ⟨p3, f3, -, -, -⟩ := E2.out.box 1 rfl
  obtain ⟨p4, f4, -, -, -⟩ := E2.out.box 0 rfl
  go_wp2_with fail
  refine (few4_t _ _ _ (digs N) _ _ _ (digs P) _ _ _ (digs M) _ _ _ (digs Q) 40 _ (E2.out.nt 3 rfl) (E2.out.nt 2 rfl) (E2.out.nt 1 rfl) (E2.out.nt 0 rfl) hf.out _ (by simp)).mono ?_
  rintro e w2 ⟨rfl, hb⟩
  have E3 : Hid (EnvB w [(w.heap.size + 1 + 1 + 1, .slice dq (len Q) cd), (w.heap.size + 1 + 1, .slice co (len M) cc), (w.heap.size + 1, .slice bo (len P) cb), (w.heap.size, .slice ao (len N) ca)] [(.slice dq (len Q) cd, digs Q), (.slice co (len M) cc, digs M), (.slice bo (len P) cb, digs P), (.slice ao (len N) ca, digs N)] _) := Lib.hid ((E2.out.below hb))
  clear p1 f1 p2 f2 p3 f3 p4 f4 E2 hb
  obtain ⟨p5, f5, -, -, -⟩ := E3.out.box 2 rfl
  obtain ⟨p6, f6, -, -, -⟩ := E3.out.box 0 rfl
  go_wp2_with fail
  refine (few2_f _ _ _ (digs P) _ _ _ (digs Q) 6 _ (E3.out.nt 2 rfl) (E3.out.nt 0 rfl) hf6.out _ (by simp)).mono ?_
  rintro e w3 ⟨rfl, hb⟩
  have E4 : Hid (EnvB w [(w.heap.size + 1 + 1 + 1, .slice dq (len Q) cd), (w.heap.size + 1 + 1, .slice co (len M) cc), (w.heap.size + 1, .slice bo (len P) cb), (w.heap.size, .slice ao (len N) ca)] [(.slice dq (len Q) cd, digs Q), (.slice co (len M) cc, digs M), (.slice bo (len P) cb, digs P), (.slice ao (len N) ca, digs N)] _) := Lib.hid ((E3.out.below hb))
  clear p5 f5 p6 f6 E3 hb
  obtain ⟨p7, f7, -, -, -⟩ := E4.out.box 2 rfl
  obtain ⟨p8, f8, -, -, -⟩ := E4.out.box 0 rfl
  obtain ⟨p9, f9, -, -, -⟩ := E4.out.box 3 rfl
  obtain ⟨p10, f10, -, -, -⟩ := E4.out.box 1 rfl
  go_wp2_with fail
  all_goals (try (exfalso; obtain ⟨hw1, hw2, hw3⟩ := hwr.out; have hw4 := hs.out; clear hwr; omega))
  refine (crt_z2 (fun h => by have := hm.out; simp [h.2] at this) h1.out h2.out p0.out hp.out q0.out hq.out (E4.out.nt 3 rfl) (E4.out.nt 2 rfl) (E4.out.nt 1 rfl) (E4.out.nt 0 rfl)).mono ?_
  rintro e w4 ⟨⟨xa, xk, rfl⟩, hb⟩
  have E5 : Hid (EnvB w [(w.heap.size + 1 + 1 + 1, .slice dq (len Q) cd), (w.heap.size + 1 + 1, .slice co (len M) cc), (w.heap.size + 1, .slice bo (len P) cb), (w.heap.size, .slice ao (len N) ca)] [(.slice dq (len Q) cd, digs Q), (.slice co (len M) cc, digs M), (.slice bo (len P) cb, digs P), (.slice ao (len N) ca, digs N)] _) := Lib.hid ((E4.out.below hb))
  clear p7 f7 p8 f8 p9 f9 p10 f10 E4 hb
  have E6 : Hid (EnvB w [(w4.heap.size, .slice xa 0 xk), (w.heap.size + 1 + 1 + 1, .slice dq (len Q) cd), (w.heap.size + 1 + 1, .slice co (len M) cc), (w.heap.size + 1, .slice bo (len P) cb), (w.heap.size, .slice ao (len N) ca)] [(.slice dq (len Q) cd, digs Q), (.slice co (len M) cc, digs M), (.slice bo (len P) cb, digs P), (.slice ao (len N) ca, digs N)] _) := Lib.hid ((E5.out.push (.slice xa 0 xk) 24 ⟨_, _, _, rfl⟩ (w4.heap.size) (by simp)))
  obtain ⟨p11, f11, -, -, -⟩ := E6.out.box 3 rfl
  go_wp2_with fail
  refine (first0_c _ _ _ (digs P) 0 _ (fst0_t k2.out) (E6.out.nt 2 rfl)).mono ?_
  rintro e w5 ⟨rfl, hb⟩
  have E7 : Hid (EnvB w [(w4.heap.size, .slice xa 0 xk), (w.heap.size + 1 + 1 + 1, .slice dq (len Q) cd), (w.heap.size + 1 + 1, .slice co (len M) cc), (w.heap.size + 1, .slice bo (len P) cb), (w.heap.size, .slice ao (len N) ca)] [(.slice dq (len Q) cd, digs Q), (.slice co (len M) cc, digs M), (.slice bo (len P) cb, digs P), (.slice ao (len N) ca, digs N)] _) := Lib.hid ((E6.out.below hb))
  clear p11 f11 E6 E5 hb
  obtain ⟨p12, f12, -, -, -⟩ := E7.out.box 1 rfl
  go_wp2_with fail
  refine (first0_c _ _ _ (digs Q) 0 _ (fst0_t k3.out) (E7.out.nt 0 rfl)).mono ?_
  rintro e w6 ⟨rfl, hb⟩
  have E8 : Hid (EnvB w [(w4.heap.size, .slice xa 0 xk), (w.heap.size + 1 + 1 + 1, .slice dq (len Q) cd), (w.heap.size + 1 + 1, .slice co (len M) cc), (w.heap.size + 1, .slice bo (len P) cb), (w.heap.size, .slice ao (len N) ca)] [(.slice dq (len Q) cd, digs Q), (.slice co (len M) cc, digs M), (.slice bo (len P) cb, digs P), (.slice ao (len N) ca, digs N)] _) := Lib.hid ((E7.out.below hb))
  clear p12 f12 E7 hb
  obtain ⟨p13, f13, -, -, -⟩ := E8.out.box 4 rfl
  go_wp2_with fail
  refine (rValid_of k0.out (E8.out.nt 3 rfl)).mono ?_
  rintro e w7 ⟨rfl, hb⟩
  have E9 : Hid (EnvB w [(w4.heap.size, .slice xa 0 xk), (w.heap.size + 1 + 1 + 1, .slice dq (len Q) cd), (w.heap.size + 1 + 1, .slice co (len M) cc), (w.heap.size + 1, .slice bo (len P) cb), (w.heap.size, .slice ao (len N) ca)] [(.slice dq (len Q) cd, digs Q), (.slice co (len M) cc, digs M), (.slice bo (len P) cb, digs P), (.slice ao (len N) ca, digs N)] _) := Lib.hid ((E8.out.below hb))
  clear p13 f13 E8 hb
  obtain ⟨p14, f14, -, -, -⟩ := E9.out.box 2 rfl
  go_wp2_with fail
  refine (rValid_of k1.out (E9.out.nt 1 rfl)).mono ?_
  rintro e w8 ⟨rfl, hb⟩
  have E10 : Hid (EnvB w [(w4.heap.size, .slice xa 0 xk), (w.heap.size + 1 + 1 + 1, .slice dq (len Q) cd), (w.heap.size + 1 + 1, .slice co (len M) cc), (w.heap.size + 1, .slice bo (len P) cb), (w.heap.size, .slice ao (len N) ca)] [(.slice dq (len Q) cd, digs Q), (.slice co (len M) cc, digs M), (.slice bo (len P) cb, digs P), (.slice ao (len N) ca, digs N)] _) := Lib.hid ((E9.out.below hb))
  clear p14 f14 E9 hb
  obtain ⟨p15, f15, -, -, -⟩ := E10.out.box 4 rfl
  obtain ⟨p16, f16, -, -, -⟩ := E10.out.box 3 rfl
  go_wp2_with fail
  refine (rLess_c hn.out (E10.out.nt 3 rfl) (E10.out.nt 2 rfl)).mono ?_
  rintro e w9 ⟨rfl, hb⟩
  have E11 : Hid (EnvB w [(w4.heap.size, .slice xa 0 xk), (w.heap.size + 1 + 1 + 1, .slice dq (len Q) cd), (w.heap.size + 1 + 1, .slice co (len M) cc), (w.heap.size + 1, .slice bo (len P) cb), (w.heap.size, .slice ao (len N) ca)] [(.slice dq (len Q) cd, digs Q), (.slice co (len M) cc, digs M), (.slice bo (len P) cb, digs P), (.slice ao (len N) ca, digs N)] _) := Lib.hid ((E10.out.below hb))
  clear p15 f15 p16 f16 E10 hb
  obtain ⟨p17, f17, -, -, -⟩ := E11.out.box 2 rfl
  obtain ⟨p18, f18, -, -, -⟩ := E11.out.box 1 rfl
  go_wp2_with fail
  refine (rLess_c hm.out (E11.out.nt 1 rfl) (E11.out.nt 0 rfl)).mono ?_
  rintro e w10 ⟨rfl, hb⟩
  have E12 : Hid (EnvB w [(w4.heap.size, .slice xa 0 xk), (w.heap.size + 1 + 1 + 1, .slice dq (len Q) cd), (w.heap.size + 1 + 1, .slice co (len M) cc), (w.heap.size + 1, .slice bo (len P) cb), (w.heap.size, .slice ao (len N) ca)] [(.slice dq (len Q) cd, digs Q), (.slice co (len M) cc, digs M), (.slice bo (len P) cb, digs P), (.slice ao (len N) ca, digs N)] _) := Lib.hid ((E11.out.below hb))
  clear p17 f17 p18 f18 E11 hb
  obtain ⟨p19, f19, -, -, -⟩ := E12.out.box 0 rfl
  have hfin := Lib.hid E12.out.1
  go_wp2
  go_ret
  exact ⟨rfl, hfin.out⟩
set_option maxRecDepth 100000 in
set_option maxHeartbeats 1000000 in
theorem Crt_nB (ao : Option Addr) (ca : Nat) (bo : Option Addr) (cb : Nat) (co : Option Addr) (cc : Nat) (dq : Option Addr) (cd : Nat) (N P M Q : Nat) (r1 : Nat) (w : World) (ha : Nt w (.slice ao (len N) ca) N) (hb : Nt w (.slice bo (len P) cb) P) (hc : Nt w (.slice co (len M) cc) M) (hd : Nt w (.slice dq (len Q) cd) Q) (hf0 : len N ≤ 40 ∧ len P ≤ 40 ∧ len M ≤ 40 ∧ len Q ≤ 40) (hf60 : ¬ (len P ≤ 6 ∧ len Q ≤ 6)) (hs0 : 34 ≤ len P + len Q) (k20 : mdl (digs P) = true) (k30 : mdl (digs Q) = true) (k00 : vld (digs N) = true) (k10 : vld (digs M) = true) (p00 : P ≠ 0) (hp0 : len P ≤ 32) (q00 : Q ≠ 0) (hq0 : len Q ≤ 32) (h10 : len N ≤ 64) (h20 : len M ≤ 64) (hp20 : len P ≤ 2000) (hq20 : len Q ≤ 2000) (hn0 : decide (N < P) = true) (hm0 : decide (M < Q) = true) (hn10 : N < P) (hm10 : M < Q) (hr10 : Nat.gcd P Q = r1) (hx0 : decide (r1 = 1) = false) :
    Calls Try.prog 3 #[.agg #[.slice ao (len N) ca], .agg #[.slice bo (len P) cb], .agg #[.slice co (len M) cc], .agg #[.slice dq (len Q) cd]] w fun e w' => e = .returned (.bool true) ∧ Below w.heap.size w w' := by
  have hf := Lib.hid hf0
  have hf6 := Lib.hid hf60
  have hs := Lib.hid hs0
  have k2 := Lib.hid k20
  have k3 := Lib.hid k30
  have k0 := Lib.hid k00
  have k1 := Lib.hid k10
  have p0 := Lib.hid p00
  have hp := Lib.hid hp0
  have q0 := Lib.hid q00
  have hq := Lib.hid hq0
  have h1 := Lib.hid h10
  have h2 := Lib.hid h20
  have hp2 := Lib.hid hp20
  have hq2 := Lib.hid hq20
  have hn := Lib.hid hn0
  have hm := Lib.hid hm0
  have hn1 := Lib.hid hn10
  have hm1 := Lib.hid hm10
  have hr1 := Lib.hid hr10
  have hx := Lib.hid hx0
  have hwr : Hid (wrap64 ((len P : Nat) + (len Q : Nat) : Int) = ((len P : Nat) + (len Q : Nat) : Int) ∧ len P ≤ 40 ∧ len Q ≤ 40) := Lib.hid ⟨IntWalk.wrap64_in _ ⟨by omega, by omega⟩, by omega, by omega⟩
  clear hf0 hf60 hs0 k20 k30 k00 k10 p00 hp0 q00 hq0 h10 h20 hp20 hq20 hn0 hm0 hn10 hm10 hr10 hx0
  have E0 : Hid (EnvB w [] [(.slice dq (len Q) cd, digs Q), (.slice co (len M) cc, digs M), (.slice bo (len P) cb, digs P), (.slice ao (len N) ca, digs N)] w) := Lib.hid (((((EnvB.start w).numN ha).numN hb).numN hc).numN hd)
  clear ha hb hc hd
  go_enter Try.func3, Try.ntmps3
  go_wp2_with fail
  have E1 : Hid (EnvB w [(w.heap.size + 1 + 1 + 1, .slice dq (len Q) cd), (w.heap.size + 1 + 1, .slice co (len M) cc), (w.heap.size + 1, .slice bo (len P) cb), (w.heap.size, .slice ao (len N) ca)] [(.slice dq (len Q) cd, digs Q), (.slice co (len M) cc, digs M), (.slice bo (len P) cb, digs P), (.slice ao (len N) ca, digs N)] _) := Lib.hid (((((E0.out.push (.slice ao (len N) ca) 24 ⟨_, _, _, rfl⟩ (w.heap.size) (by simp)).push (.slice bo (len P) cb) 24 ⟨_, _, _, rfl⟩ (w.heap.size + 1) (by simp)).push (.slice co (len M) cc) 24 ⟨_, _, _, rfl⟩ (w.heap.size + 1 + 1) (by simp)).push (.slice dq (len Q) cd) 24 ⟨_, _, _, rfl⟩ (w.heap.size + 1 + 1 + 1) (by simp)))
  refine (awake_c _).mono ?_
  rintro e w1 ⟨rfl, hb⟩
  have E2 : Hid (EnvB w [(w.heap.size + 1 + 1 + 1, .slice dq (len Q) cd), (w.heap.size + 1 + 1, .slice co (len M) cc), (w.heap.size + 1, .slice bo (len P) cb), (w.heap.size, .slice ao (len N) ca)] [(.slice dq (len Q) cd, digs Q), (.slice co (len M) cc, digs M), (.slice bo (len P) cb, digs P), (.slice ao (len N) ca, digs N)] _) := Lib.hid ((E1.out.below hb))
  clear E1 E0 hb
  obtain ⟨p1, f1, -, -, -⟩ := E2.out.box 3 rfl
  obtain ⟨p2, f2, -, -, -⟩ := E2.out.box 2 rfl
  obtain ⟨p3, f3, -, -, -⟩ := E2.out.box 1 rfl
  obtain ⟨p4, f4, -, -, -⟩ := E2.out.box 0 rfl
  go_wp2_with fail
  refine (few4_t _ _ _ (digs N) _ _ _ (digs P) _ _ _ (digs M) _ _ _ (digs Q) 40 _ (E2.out.nt 3 rfl) (E2.out.nt 2 rfl) (E2.out.nt 1 rfl) (E2.out.nt 0 rfl) hf.out _ (by simp)).mono ?_
  rintro e w2 ⟨rfl, hb⟩
  have E3 : Hid (EnvB w [(w.heap.size + 1 + 1 + 1, .slice dq (len Q) cd), (w.heap.size + 1 + 1, .slice co (len M) cc), (w.heap.size + 1, .slice bo (len P) cb), (w.heap.size, .slice ao (len N) ca)] [(.slice dq (len Q) cd, digs Q), (.slice co (len M) cc, digs M), (.slice bo (len P) cb, digs P), (.slice ao (len N) ca, digs N)] _) := Lib.hid ((E2.out.below hb))
  clear p1 f1 p2 f2 p3 f3 p4 f4 E2 hb
  obtain ⟨p5, f5, -, -, -⟩ := E3.out.box 2 rfl
  obtain ⟨p6, f6, -, -, -⟩ := E3.out.box 0 rfl
  go_wp2_with fail
  refine (few2_f _ _ _ (digs P) _ _ _ (digs Q) 6 _ (E3.out.nt 2 rfl) (E3.out.nt 0 rfl) hf6.out _ (by simp)).mono ?_
  rintro e w3 ⟨rfl, hb⟩
  have E4 : Hid (EnvB w [(w.heap.size + 1 + 1 + 1, .slice dq (len Q) cd), (w.heap.size + 1 + 1, .slice co (len M) cc), (w.heap.size + 1, .slice bo (len P) cb), (w.heap.size, .slice ao (len N) ca)] [(.slice dq (len Q) cd, digs Q), (.slice co (len M) cc, digs M), (.slice bo (len P) cb, digs P), (.slice ao (len N) ca, digs N)] _) := Lib.hid ((E3.out.below hb))
  clear p5 f5 p6 f6 E3 hb
  obtain ⟨p7, f7, -, -, -⟩ := E4.out.box 2 rfl
  obtain ⟨p8, f8, -, -, -⟩ := E4.out.box 0 rfl
  obtain ⟨p9, f9, -, -, -⟩ := E4.out.box 3 rfl
  obtain ⟨p10, f10, -, -, -⟩ := E4.out.box 1 rfl
  go_wp2_with fail
  all_goals (try (exfalso; obtain ⟨hw1, hw2, hw3⟩ := hwr.out; have hw4 := hs.out; clear hwr; omega))
  refine (crt_z10 (by rw [hr1.out]; exact of_decide_eq_false hx.out) hn1.out hm1.out hp.out hq.out (E4.out.nt 3 rfl) (E4.out.nt 2 rfl) (E4.out.nt 1 rfl) (E4.out.nt 0 rfl)).mono ?_
  rintro e w4 ⟨⟨xa, xk, rfl⟩, hb⟩
  have E5 : Hid (EnvB w [(w.heap.size + 1 + 1 + 1, .slice dq (len Q) cd), (w.heap.size + 1 + 1, .slice co (len M) cc), (w.heap.size + 1, .slice bo (len P) cb), (w.heap.size, .slice ao (len N) ca)] [(.slice dq (len Q) cd, digs Q), (.slice co (len M) cc, digs M), (.slice bo (len P) cb, digs P), (.slice ao (len N) ca, digs N)] _) := Lib.hid ((E4.out.below hb))
  clear p7 f7 p8 f8 p9 f9 p10 f10 E4 hb
  have E6 : Hid (EnvB w [(w4.heap.size, .slice xa 0 xk), (w.heap.size + 1 + 1 + 1, .slice dq (len Q) cd), (w.heap.size + 1 + 1, .slice co (len M) cc), (w.heap.size + 1, .slice bo (len P) cb), (w.heap.size, .slice ao (len N) ca)] [(.slice dq (len Q) cd, digs Q), (.slice co (len M) cc, digs M), (.slice bo (len P) cb, digs P), (.slice ao (len N) ca, digs N)] _) := Lib.hid ((E5.out.push (.slice xa 0 xk) 24 ⟨_, _, _, rfl⟩ (w4.heap.size) (by simp)))
  obtain ⟨p11, f11, -, -, -⟩ := E6.out.box 3 rfl
  go_wp2_with fail
  refine (first0_c _ _ _ (digs P) 0 _ (fst0_t k2.out) (E6.out.nt 2 rfl)).mono ?_
  rintro e w5 ⟨rfl, hb⟩
  have E7 : Hid (EnvB w [(w4.heap.size, .slice xa 0 xk), (w.heap.size + 1 + 1 + 1, .slice dq (len Q) cd), (w.heap.size + 1 + 1, .slice co (len M) cc), (w.heap.size + 1, .slice bo (len P) cb), (w.heap.size, .slice ao (len N) ca)] [(.slice dq (len Q) cd, digs Q), (.slice co (len M) cc, digs M), (.slice bo (len P) cb, digs P), (.slice ao (len N) ca, digs N)] _) := Lib.hid ((E6.out.below hb))
  clear p11 f11 E6 E5 hb
  obtain ⟨p12, f12, -, -, -⟩ := E7.out.box 1 rfl
  go_wp2_with fail
  refine (first0_c _ _ _ (digs Q) 0 _ (fst0_t k3.out) (E7.out.nt 0 rfl)).mono ?_
  rintro e w6 ⟨rfl, hb⟩
  have E8 : Hid (EnvB w [(w4.heap.size, .slice xa 0 xk), (w.heap.size + 1 + 1 + 1, .slice dq (len Q) cd), (w.heap.size + 1 + 1, .slice co (len M) cc), (w.heap.size + 1, .slice bo (len P) cb), (w.heap.size, .slice ao (len N) ca)] [(.slice dq (len Q) cd, digs Q), (.slice co (len M) cc, digs M), (.slice bo (len P) cb, digs P), (.slice ao (len N) ca, digs N)] _) := Lib.hid ((E7.out.below hb))
  clear p12 f12 E7 hb
  obtain ⟨p13, f13, -, -, -⟩ := E8.out.box 4 rfl
  go_wp2_with fail
  refine (rValid_of k0.out (E8.out.nt 3 rfl)).mono ?_
  rintro e w7 ⟨rfl, hb⟩
  have E9 : Hid (EnvB w [(w4.heap.size, .slice xa 0 xk), (w.heap.size + 1 + 1 + 1, .slice dq (len Q) cd), (w.heap.size + 1 + 1, .slice co (len M) cc), (w.heap.size + 1, .slice bo (len P) cb), (w.heap.size, .slice ao (len N) ca)] [(.slice dq (len Q) cd, digs Q), (.slice co (len M) cc, digs M), (.slice bo (len P) cb, digs P), (.slice ao (len N) ca, digs N)] _) := Lib.hid ((E8.out.below hb))
  clear p13 f13 E8 hb
  obtain ⟨p14, f14, -, -, -⟩ := E9.out.box 2 rfl
  go_wp2_with fail
  refine (rValid_of k1.out (E9.out.nt 1 rfl)).mono ?_
  rintro e w8 ⟨rfl, hb⟩
  have E10 : Hid (EnvB w [(w4.heap.size, .slice xa 0 xk), (w.heap.size + 1 + 1 + 1, .slice dq (len Q) cd), (w.heap.size + 1 + 1, .slice co (len M) cc), (w.heap.size + 1, .slice bo (len P) cb), (w.heap.size, .slice ao (len N) ca)] [(.slice dq (len Q) cd, digs Q), (.slice co (len M) cc, digs M), (.slice bo (len P) cb, digs P), (.slice ao (len N) ca, digs N)] _) := Lib.hid ((E9.out.below hb))
  clear p14 f14 E9 hb
  obtain ⟨p15, f15, -, -, -⟩ := E10.out.box 4 rfl
  obtain ⟨p16, f16, -, -, -⟩ := E10.out.box 3 rfl
  go_wp2_with fail
  refine (rLess_c hn.out (E10.out.nt 3 rfl) (E10.out.nt 2 rfl)).mono ?_
  rintro e w9 ⟨rfl, hb⟩
  have E11 : Hid (EnvB w [(w4.heap.size, .slice xa 0 xk), (w.heap.size + 1 + 1 + 1, .slice dq (len Q) cd), (w.heap.size + 1 + 1, .slice co (len M) cc), (w.heap.size + 1, .slice bo (len P) cb), (w.heap.size, .slice ao (len N) ca)] [(.slice dq (len Q) cd, digs Q), (.slice co (len M) cc, digs M), (.slice bo (len P) cb, digs P), (.slice ao (len N) ca, digs N)] _) := Lib.hid ((E10.out.below hb))
  clear p15 f15 p16 f16 E10 hb
  obtain ⟨p17, f17, -, -, -⟩ := E11.out.box 2 rfl
  obtain ⟨p18, f18, -, -, -⟩ := E11.out.box 1 rfl
  go_wp2_with fail
  refine (rLess_c hm.out (E11.out.nt 1 rfl) (E11.out.nt 0 rfl)).mono ?_
  rintro e w10 ⟨rfl, hb⟩
  have E12 : Hid (EnvB w [(w4.heap.size, .slice xa 0 xk), (w.heap.size + 1 + 1 + 1, .slice dq (len Q) cd), (w.heap.size + 1 + 1, .slice co (len M) cc), (w.heap.size + 1, .slice bo (len P) cb), (w.heap.size, .slice ao (len N) ca)] [(.slice dq (len Q) cd, digs Q), (.slice co (len M) cc, digs M), (.slice bo (len P) cb, digs P), (.slice ao (len N) ca, digs N)] _) := Lib.hid ((E11.out.below hb))
  clear p17 f17 p18 f18 E11 hb
  obtain ⟨p19, f19, -, -, -⟩ := E12.out.box 3 rfl
  obtain ⟨p20, f20, -, -, -⟩ := E12.out.box 1 rfl
  go_wp2_with fail
  refine (rGcd_c hr1.out hp2.out hq2.out (E12.out.nt 2 rfl) (E12.out.nt 0 rfl)).mono ?_
  rintro e w11 ⟨⟨ua, uk, rfl, hu⟩, hb⟩
  have E13 : Hid (EnvB w [(w4.heap.size, .slice xa 0 xk), (w.heap.size + 1 + 1 + 1, .slice dq (len Q) cd), (w.heap.size + 1 + 1, .slice co (len M) cc), (w.heap.size + 1, .slice bo (len P) cb), (w.heap.size, .slice ao (len N) ca)] [(.slice ua (len r1) uk, digs r1), (.slice dq (len Q) cd, digs Q), (.slice co (len M) cc, digs M), (.slice bo (len P) cb, digs P), (.slice ao (len N) ca, digs N)] _) := Lib.hid (((E12.out.below hb).numN (hu.out : Nt _ _ r1)))
  clear p19 f19 p20 f20 E12 hb hu
  go_wp2_with fail
  refine (rOf_c 1 _ (by decide)).mono ?_
  rintro e w12 ⟨⟨va, vk, rfl, hv⟩, hb⟩
  have E14 : Hid (EnvB w [(w4.heap.size, .slice xa 0 xk), (w.heap.size + 1 + 1 + 1, .slice dq (len Q) cd), (w.heap.size + 1 + 1, .slice co (len M) cc), (w.heap.size + 1, .slice bo (len P) cb), (w.heap.size, .slice ao (len N) ca)] [(.slice va (len 1) vk, digs 1), (.slice ua (len r1) uk, digs r1), (.slice dq (len Q) cd, digs Q), (.slice co (len M) cc, digs M), (.slice bo (len P) cb, digs P), (.slice ao (len N) ca, digs N)] _) := Lib.hid (((E13.out.below hb).numN (hv.out : Nt _ _ 1)))
  clear E13 hb hv
  go_wp2_with fail
  refine (rSame_c hx.out (E14.out.nt 1 rfl) (E14.out.nt 0 rfl)).mono ?_
  rintro e w13 ⟨rfl, hb⟩
  have E15 : Hid (EnvB w [(w4.heap.size, .slice xa 0 xk), (w.heap.size + 1 + 1 + 1, .slice dq (len Q) cd), (w.heap.size + 1 + 1, .slice co (len M) cc), (w.heap.size + 1, .slice bo (len P) cb), (w.heap.size, .slice ao (len N) ca)] [(.slice va (len 1) vk, digs 1), (.slice ua (len r1) uk, digs r1), (.slice dq (len Q) cd, digs Q), (.slice co (len M) cc, digs M), (.slice bo (len P) cb, digs P), (.slice ao (len N) ca, digs N)] _) := Lib.hid ((E14.out.below hb))
  clear E14 hb
  obtain ⟨p21, f21, -, -, -⟩ := E15.out.box 0 rfl
  have hfin := Lib.hid E15.out.1
  go_wp2
  go_ret
  exact ⟨rfl, hfin.out⟩
set_option maxRecDepth 100000 in
set_option maxHeartbeats 1000000 in
theorem Crt_over (ao : Option Addr) (ca : Nat) (bo : Option Addr) (cb : Nat) (co : Option Addr) (cc : Nat) (dq : Option Addr) (cd : Nat) (N P M Q : Nat) (r1 : Nat) (w : World) (ha : Nt w (.slice ao (len N) ca) N) (hb : Nt w (.slice bo (len P) cb) P) (hc : Nt w (.slice co (len M) cc) M) (hd : Nt w (.slice dq (len Q) cd) Q) (hf0 : len N ≤ 40 ∧ len P ≤ 40 ∧ len M ≤ 40 ∧ len Q ≤ 40) (hf60 : ¬ (len P ≤ 6 ∧ len Q ≤ 6)) (hs0 : 34 ≤ len P + len Q) (k20 : mdl (digs P) = true) (k30 : mdl (digs Q) = true) (k00 : vld (digs N) = true) (k10 : vld (digs M) = true) (p00 : P ≠ 0) (hp0 : len P ≤ 32) (q00 : Q ≠ 0) (hq0 : len Q ≤ 32) (h10 : len N ≤ 64) (h20 : len M ≤ 64) (hp20 : len P ≤ 2000) (hq20 : len Q ≤ 2000) (hn0 : decide (N < P) = true) (hm0 : decide (M < Q) = true) (hn10 : N < P) (hm10 : M < Q) (hr10 : Nat.gcd P Q = r1) (hx0 : decide (r1 = 1) = true) (h90 : ¬ len (P * Q) ≤ 32) :
    Calls Try.prog 3 #[.agg #[.slice ao (len N) ca], .agg #[.slice bo (len P) cb], .agg #[.slice co (len M) cc], .agg #[.slice dq (len Q) cd]] w fun e w' => e = .returned (.bool true) ∧ Below w.heap.size w w' := by
  have hf := Lib.hid hf0
  have hf6 := Lib.hid hf60
  have hs := Lib.hid hs0
  have k2 := Lib.hid k20
  have k3 := Lib.hid k30
  have k0 := Lib.hid k00
  have k1 := Lib.hid k10
  have p0 := Lib.hid p00
  have hp := Lib.hid hp0
  have q0 := Lib.hid q00
  have hq := Lib.hid hq0
  have h1 := Lib.hid h10
  have h2 := Lib.hid h20
  have hp2 := Lib.hid hp20
  have hq2 := Lib.hid hq20
  have hn := Lib.hid hn0
  have hm := Lib.hid hm0
  have hn1 := Lib.hid hn10
  have hm1 := Lib.hid hm10
  have hr1 := Lib.hid hr10
  have hx := Lib.hid hx0
  have h9 := Lib.hid h90
  have hwr : Hid (wrap64 ((len P : Nat) + (len Q : Nat) : Int) = ((len P : Nat) + (len Q : Nat) : Int) ∧ len P ≤ 40 ∧ len Q ≤ 40) := Lib.hid ⟨IntWalk.wrap64_in _ ⟨by omega, by omega⟩, by omega, by omega⟩
  clear hf0 hf60 hs0 k20 k30 k00 k10 p00 hp0 q00 hq0 h10 h20 hp20 hq20 hn0 hm0 hn10 hm10 hr10 hx0 h90
  have E0 : Hid (EnvB w [] [(.slice dq (len Q) cd, digs Q), (.slice co (len M) cc, digs M), (.slice bo (len P) cb, digs P), (.slice ao (len N) ca, digs N)] w) := Lib.hid (((((EnvB.start w).numN ha).numN hb).numN hc).numN hd)
  clear ha hb hc hd
  go_enter Try.func3, Try.ntmps3
  go_wp2_with fail
  have E1 : Hid (EnvB w [(w.heap.size + 1 + 1 + 1, .slice dq (len Q) cd), (w.heap.size + 1 + 1, .slice co (len M) cc), (w.heap.size + 1, .slice bo (len P) cb), (w.heap.size, .slice ao (len N) ca)] [(.slice dq (len Q) cd, digs Q), (.slice co (len M) cc, digs M), (.slice bo (len P) cb, digs P), (.slice ao (len N) ca, digs N)] _) := Lib.hid (((((E0.out.push (.slice ao (len N) ca) 24 ⟨_, _, _, rfl⟩ (w.heap.size) (by simp)).push (.slice bo (len P) cb) 24 ⟨_, _, _, rfl⟩ (w.heap.size + 1) (by simp)).push (.slice co (len M) cc) 24 ⟨_, _, _, rfl⟩ (w.heap.size + 1 + 1) (by simp)).push (.slice dq (len Q) cd) 24 ⟨_, _, _, rfl⟩ (w.heap.size + 1 + 1 + 1) (by simp)))
  refine (awake_c _).mono ?_
  rintro e w1 ⟨rfl, hb⟩
  have E2 : Hid (EnvB w [(w.heap.size + 1 + 1 + 1, .slice dq (len Q) cd), (w.heap.size + 1 + 1, .slice co (len M) cc), (w.heap.size + 1, .slice bo (len P) cb), (w.heap.size, .slice ao (len N) ca)] [(.slice dq (len Q) cd, digs Q), (.slice co (len M) cc, digs M), (.slice bo (len P) cb, digs P), (.slice ao (len N) ca, digs N)] _) := Lib.hid ((E1.out.below hb))
  clear E1 E0 hb
  obtain ⟨p1, f1, -, -, -⟩ := E2.out.box 3 rfl
  obtain ⟨p2, f2, -, -, -⟩ := E2.out.box 2 rfl
  obtain ⟨p3, f3, -, -, -⟩ := E2.out.box 1 rfl
  obtain ⟨p4, f4, -, -, -⟩ := E2.out.box 0 rfl
  go_wp2_with fail
  refine (few4_t _ _ _ (digs N) _ _ _ (digs P) _ _ _ (digs M) _ _ _ (digs Q) 40 _ (E2.out.nt 3 rfl) (E2.out.nt 2 rfl) (E2.out.nt 1 rfl) (E2.out.nt 0 rfl) hf.out _ (by simp)).mono ?_
  rintro e w2 ⟨rfl, hb⟩
  have E3 : Hid (EnvB w [(w.heap.size + 1 + 1 + 1, .slice dq (len Q) cd), (w.heap.size + 1 + 1, .slice co (len M) cc), (w.heap.size + 1, .slice bo (len P) cb), (w.heap.size, .slice ao (len N) ca)] [(.slice dq (len Q) cd, digs Q), (.slice co (len M) cc, digs M), (.slice bo (len P) cb, digs P), (.slice ao (len N) ca, digs N)] _) := Lib.hid ((E2.out.below hb))
  clear p1 f1 p2 f2 p3 f3 p4 f4 E2 hb
  obtain ⟨p5, f5, -, -, -⟩ := E3.out.box 2 rfl
  obtain ⟨p6, f6, -, -, -⟩ := E3.out.box 0 rfl
  go_wp2_with fail
  refine (few2_f _ _ _ (digs P) _ _ _ (digs Q) 6 _ (E3.out.nt 2 rfl) (E3.out.nt 0 rfl) hf6.out _ (by simp)).mono ?_
  rintro e w3 ⟨rfl, hb⟩
  have E4 : Hid (EnvB w [(w.heap.size + 1 + 1 + 1, .slice dq (len Q) cd), (w.heap.size + 1 + 1, .slice co (len M) cc), (w.heap.size + 1, .slice bo (len P) cb), (w.heap.size, .slice ao (len N) ca)] [(.slice dq (len Q) cd, digs Q), (.slice co (len M) cc, digs M), (.slice bo (len P) cb, digs P), (.slice ao (len N) ca, digs N)] _) := Lib.hid ((E3.out.below hb))
  clear p5 f5 p6 f6 E3 hb
  obtain ⟨p7, f7, -, -, -⟩ := E4.out.box 2 rfl
  obtain ⟨p8, f8, -, -, -⟩ := E4.out.box 0 rfl
  obtain ⟨p9, f9, -, -, -⟩ := E4.out.box 3 rfl
  obtain ⟨p10, f10, -, -, -⟩ := E4.out.box 1 rfl
  go_wp2_with fail
  all_goals (try (exfalso; obtain ⟨hw1, hw2, hw3⟩ := hwr.out; have hw4 := hs.out; clear hwr; omega))
  refine (crt_z9 (by rw [hr1.out]; exact of_decide_eq_true hx.out) h9.out hn1.out hm1.out hp.out hq.out (E4.out.nt 3 rfl) (E4.out.nt 2 rfl) (E4.out.nt 1 rfl) (E4.out.nt 0 rfl)).mono ?_
  rintro e w4 ⟨⟨xa, xk, rfl⟩, hb⟩
  have E5 : Hid (EnvB w [(w.heap.size + 1 + 1 + 1, .slice dq (len Q) cd), (w.heap.size + 1 + 1, .slice co (len M) cc), (w.heap.size + 1, .slice bo (len P) cb), (w.heap.size, .slice ao (len N) ca)] [(.slice dq (len Q) cd, digs Q), (.slice co (len M) cc, digs M), (.slice bo (len P) cb, digs P), (.slice ao (len N) ca, digs N)] _) := Lib.hid ((E4.out.below hb))
  clear p7 f7 p8 f8 p9 f9 p10 f10 E4 hb
  have E6 : Hid (EnvB w [(w4.heap.size, .slice xa 0 xk), (w.heap.size + 1 + 1 + 1, .slice dq (len Q) cd), (w.heap.size + 1 + 1, .slice co (len M) cc), (w.heap.size + 1, .slice bo (len P) cb), (w.heap.size, .slice ao (len N) ca)] [(.slice dq (len Q) cd, digs Q), (.slice co (len M) cc, digs M), (.slice bo (len P) cb, digs P), (.slice ao (len N) ca, digs N)] _) := Lib.hid ((E5.out.push (.slice xa 0 xk) 24 ⟨_, _, _, rfl⟩ (w4.heap.size) (by simp)))
  obtain ⟨p11, f11, -, -, -⟩ := E6.out.box 3 rfl
  go_wp2_with fail
  refine (first0_c _ _ _ (digs P) 0 _ (fst0_t k2.out) (E6.out.nt 2 rfl)).mono ?_
  rintro e w5 ⟨rfl, hb⟩
  have E7 : Hid (EnvB w [(w4.heap.size, .slice xa 0 xk), (w.heap.size + 1 + 1 + 1, .slice dq (len Q) cd), (w.heap.size + 1 + 1, .slice co (len M) cc), (w.heap.size + 1, .slice bo (len P) cb), (w.heap.size, .slice ao (len N) ca)] [(.slice dq (len Q) cd, digs Q), (.slice co (len M) cc, digs M), (.slice bo (len P) cb, digs P), (.slice ao (len N) ca, digs N)] _) := Lib.hid ((E6.out.below hb))
  clear p11 f11 E6 E5 hb
  obtain ⟨p12, f12, -, -, -⟩ := E7.out.box 1 rfl
  go_wp2_with fail
  refine (first0_c _ _ _ (digs Q) 0 _ (fst0_t k3.out) (E7.out.nt 0 rfl)).mono ?_
  rintro e w6 ⟨rfl, hb⟩
  have E8 : Hid (EnvB w [(w4.heap.size, .slice xa 0 xk), (w.heap.size + 1 + 1 + 1, .slice dq (len Q) cd), (w.heap.size + 1 + 1, .slice co (len M) cc), (w.heap.size + 1, .slice bo (len P) cb), (w.heap.size, .slice ao (len N) ca)] [(.slice dq (len Q) cd, digs Q), (.slice co (len M) cc, digs M), (.slice bo (len P) cb, digs P), (.slice ao (len N) ca, digs N)] _) := Lib.hid ((E7.out.below hb))
  clear p12 f12 E7 hb
  obtain ⟨p13, f13, -, -, -⟩ := E8.out.box 4 rfl
  go_wp2_with fail
  refine (rValid_of k0.out (E8.out.nt 3 rfl)).mono ?_
  rintro e w7 ⟨rfl, hb⟩
  have E9 : Hid (EnvB w [(w4.heap.size, .slice xa 0 xk), (w.heap.size + 1 + 1 + 1, .slice dq (len Q) cd), (w.heap.size + 1 + 1, .slice co (len M) cc), (w.heap.size + 1, .slice bo (len P) cb), (w.heap.size, .slice ao (len N) ca)] [(.slice dq (len Q) cd, digs Q), (.slice co (len M) cc, digs M), (.slice bo (len P) cb, digs P), (.slice ao (len N) ca, digs N)] _) := Lib.hid ((E8.out.below hb))
  clear p13 f13 E8 hb
  obtain ⟨p14, f14, -, -, -⟩ := E9.out.box 2 rfl
  go_wp2_with fail
  refine (rValid_of k1.out (E9.out.nt 1 rfl)).mono ?_
  rintro e w8 ⟨rfl, hb⟩
  have E10 : Hid (EnvB w [(w4.heap.size, .slice xa 0 xk), (w.heap.size + 1 + 1 + 1, .slice dq (len Q) cd), (w.heap.size + 1 + 1, .slice co (len M) cc), (w.heap.size + 1, .slice bo (len P) cb), (w.heap.size, .slice ao (len N) ca)] [(.slice dq (len Q) cd, digs Q), (.slice co (len M) cc, digs M), (.slice bo (len P) cb, digs P), (.slice ao (len N) ca, digs N)] _) := Lib.hid ((E9.out.below hb))
  clear p14 f14 E9 hb
  obtain ⟨p15, f15, -, -, -⟩ := E10.out.box 4 rfl
  obtain ⟨p16, f16, -, -, -⟩ := E10.out.box 3 rfl
  go_wp2_with fail
  refine (rLess_c hn.out (E10.out.nt 3 rfl) (E10.out.nt 2 rfl)).mono ?_
  rintro e w9 ⟨rfl, hb⟩
  have E11 : Hid (EnvB w [(w4.heap.size, .slice xa 0 xk), (w.heap.size + 1 + 1 + 1, .slice dq (len Q) cd), (w.heap.size + 1 + 1, .slice co (len M) cc), (w.heap.size + 1, .slice bo (len P) cb), (w.heap.size, .slice ao (len N) ca)] [(.slice dq (len Q) cd, digs Q), (.slice co (len M) cc, digs M), (.slice bo (len P) cb, digs P), (.slice ao (len N) ca, digs N)] _) := Lib.hid ((E10.out.below hb))
  clear p15 f15 p16 f16 E10 hb
  obtain ⟨p17, f17, -, -, -⟩ := E11.out.box 2 rfl
  obtain ⟨p18, f18, -, -, -⟩ := E11.out.box 1 rfl
  go_wp2_with fail
  refine (rLess_c hm.out (E11.out.nt 1 rfl) (E11.out.nt 0 rfl)).mono ?_
  rintro e w10 ⟨rfl, hb⟩
  have E12 : Hid (EnvB w [(w4.heap.size, .slice xa 0 xk), (w.heap.size + 1 + 1 + 1, .slice dq (len Q) cd), (w.heap.size + 1 + 1, .slice co (len M) cc), (w.heap.size + 1, .slice bo (len P) cb), (w.heap.size, .slice ao (len N) ca)] [(.slice dq (len Q) cd, digs Q), (.slice co (len M) cc, digs M), (.slice bo (len P) cb, digs P), (.slice ao (len N) ca, digs N)] _) := Lib.hid ((E11.out.below hb))
  clear p17 f17 p18 f18 E11 hb
  obtain ⟨p19, f19, -, -, -⟩ := E12.out.box 3 rfl
  obtain ⟨p20, f20, -, -, -⟩ := E12.out.box 1 rfl
  go_wp2_with fail
  refine (rGcd_c hr1.out hp2.out hq2.out (E12.out.nt 2 rfl) (E12.out.nt 0 rfl)).mono ?_
  rintro e w11 ⟨⟨ua, uk, rfl, hu⟩, hb⟩
  have E13 : Hid (EnvB w [(w4.heap.size, .slice xa 0 xk), (w.heap.size + 1 + 1 + 1, .slice dq (len Q) cd), (w.heap.size + 1 + 1, .slice co (len M) cc), (w.heap.size + 1, .slice bo (len P) cb), (w.heap.size, .slice ao (len N) ca)] [(.slice ua (len r1) uk, digs r1), (.slice dq (len Q) cd, digs Q), (.slice co (len M) cc, digs M), (.slice bo (len P) cb, digs P), (.slice ao (len N) ca, digs N)] _) := Lib.hid (((E12.out.below hb).numN (hu.out : Nt _ _ r1)))
  clear p19 f19 p20 f20 E12 hb hu
  go_wp2_with fail
  refine (rOf_c 1 _ (by decide)).mono ?_
  rintro e w12 ⟨⟨va, vk, rfl, hv⟩, hb⟩
  have E14 : Hid (EnvB w [(w4.heap.size, .slice xa 0 xk), (w.heap.size + 1 + 1 + 1, .slice dq (len Q) cd), (w.heap.size + 1 + 1, .slice co (len M) cc), (w.heap.size + 1, .slice bo (len P) cb), (w.heap.size, .slice ao (len N) ca)] [(.slice va (len 1) vk, digs 1), (.slice ua (len r1) uk, digs r1), (.slice dq (len Q) cd, digs Q), (.slice co (len M) cc, digs M), (.slice bo (len P) cb, digs P), (.slice ao (len N) ca, digs N)] _) := Lib.hid (((E13.out.below hb).numN (hv.out : Nt _ _ 1)))
  clear E13 hb hv
  go_wp2_with fail
  refine (rSame_c hx.out (E14.out.nt 1 rfl) (E14.out.nt 0 rfl)).mono ?_
  rintro e w13 ⟨rfl, hb⟩
  have E15 : Hid (EnvB w [(w4.heap.size, .slice xa 0 xk), (w.heap.size + 1 + 1 + 1, .slice dq (len Q) cd), (w.heap.size + 1 + 1, .slice co (len M) cc), (w.heap.size + 1, .slice bo (len P) cb), (w.heap.size, .slice ao (len N) ca)] [(.slice va (len 1) vk, digs 1), (.slice ua (len r1) uk, digs r1), (.slice dq (len Q) cd, digs Q), (.slice co (len M) cc, digs M), (.slice bo (len P) cb, digs P), (.slice ao (len N) ca, digs N)] _) := Lib.hid ((E14.out.below hb))
  clear E14 hb
  obtain ⟨p21, f21, -, -, -⟩ := E15.out.box 3 rfl
  obtain ⟨p22, f22, -, -, -⟩ := E15.out.box 1 rfl
  obtain ⟨p23, f23, -, -, -⟩ := E15.out.box 0 rfl
  have hfin := Lib.hid E15.out.1
  go_wp2
  all_goals (try (exfalso; obtain ⟨hw1, hw2, hw3⟩ := hwr.out; have hw4 := hs.out; clear hwr; omega))
  go_ret
  exact ⟨rfl, hfin.out⟩
theorem NatmodCrt_walk (a p b q : Value) (la lp lb lq : List Nat) (w : World) (ha : Sl w a la) (hp : Sl w p lp) (hb : Sl w b lb) (hq : Sl w q lq) :
    Calls Try.prog 3 #[.agg #[a], .agg #[p], .agg #[b], .agg #[q]] w fun e w' => e = .returned (.bool true) ∧ Below w.heap.size w w' := by
  obtain ⟨ao, ca, rfl, _⟩ := ha.open
  obtain ⟨po, cp, rfl, _⟩ := hp.open
  obtain ⟨bo, cb, rfl, _⟩ := hb.open
  obtain ⟨qo, cq, rfl, _⟩ := hq.open
  by_cases hf : la.length ≤ 40 ∧ lp.length ≤ 40 ∧ lb.length ≤ 40 ∧ lq.length ≤ 40
  rotate_left
  · exact Crt_big0 ao ca po cp bo cb qo cq la lp lb lq w ha hp hb hq hf
  by_cases h6 : lp.length ≤ 6 ∧ lq.length ≤ 6
  · skip
    cases k2 : mdl lp
    · exact Crt_bA0 ao ca po cp bo cb qo cq la lp lb lq w ha hp hb hq hf h6 k2
    cases k3 : mdl lq
    · exact Crt_bA1 ao ca po cp bo cb qo cq la lp lb lq w ha hp hb hq hf h6 k2 k3
    cases k0 : vld la
    · exact Crt_bA2 ao ca po cp bo cb qo cq la lp lb lq w ha hp hb hq hf h6 k2 k3 k0
    cases k1 : vld lb
    · exact Crt_bA3 ao ca po cp bo cb qo cq la lp lb lq w ha hp hb hq hf h6 k2 k3 k0 k1
    obtain ⟨P, rfl, p0, p1, hP⟩ := mdl_nt hp k2
    obtain ⟨Q, rfl, q0, q1, hQ⟩ := mdl_nt hq k3
    obtain ⟨N, rfl, n1, hN⟩ := nt_of ha k0
    obtain ⟨M, rfl, m1, hM⟩ := nt_of hb k1
    have p2 : len P ≤ 2000 := by omega
    have q2 : len Q ≤ 2000 := by omega
    cases hn : decide (N < P)
    · exact Crt_rA1 ao ca po cp bo cb qo cq N P M Q w hN hP hM hQ hf h6 k2 k3 k0 k1 p0 p1 q0 q1 n1 m1 p2 q2 hn
    cases hm : decide (M < Q)
    · exact Crt_rA2 ao ca po cp bo cb qo cq N P M Q w hN hP hM hQ hf h6 k2 k3 k0 k1 p0 p1 q0 q1 n1 m1 p2 q2 hn hm
    by_cases hx : Nat.gcd P Q = 1
    rotate_left
    · exact Crt_nA ao ca po cp bo cb qo cq N P M Q _ w hN hP hM hQ hf h6 k2 k3 k0 k1 p0 p1 q0 q1 n1 m1 p2 q2 hn hm (of_decide_eq_true hn) (of_decide_eq_true hm) rfl (decide_eq_false hx)
    exact Crt_ok ao ca po cp bo cb qo cq N P M Q _ _ w hN hP hM hQ hf h6 k2 k3 k0 k1 p0 p1 q0 q1 n1 m1 p2 q2 hn hm (of_decide_eq_true hn) (of_decide_eq_true hm) rfl (decide_eq_true hx) (len_mul_le h6.1 h6.2 (by decide)) rfl
  · by_cases hs' : lp.length + lq.length < 34
    · exact Crt_bigC ao ca po cp bo cb qo cq la lp lb lq w ha hp hb hq hf h6 hs'
    have hs : 34 ≤ lp.length + lq.length := by omega
    cases k2 : mdl lp
    · exact Crt_bB0 ao ca po cp bo cb qo cq la lp lb lq w ha hp hb hq hf h6 hs k2
    cases k3 : mdl lq
    · exact Crt_bB1 ao ca po cp bo cb qo cq la lp lb lq w ha hp hb hq hf h6 hs k2 k3
    cases k0 : vld la
    · exact Crt_bB2 ao ca po cp bo cb qo cq la lp lb lq w ha hp hb hq hf h6 hs k2 k3 k0
    cases k1 : vld lb
    · exact Crt_bB3 ao ca po cp bo cb qo cq la lp lb lq w ha hp hb hq hf h6 hs k2 k3 k0 k1
    obtain ⟨P, rfl, p0, p1, hP⟩ := mdl_nt hp k2
    obtain ⟨Q, rfl, q0, q1, hQ⟩ := mdl_nt hq k3
    obtain ⟨N, rfl, n1, hN⟩ := nt_of ha k0
    obtain ⟨M, rfl, m1, hM⟩ := nt_of hb k1
    have p2 : len P ≤ 2000 := by omega
    have q2 : len Q ≤ 2000 := by omega
    cases hn : decide (N < P)
    · exact Crt_rB1 ao ca po cp bo cb qo cq N P M Q w hN hP hM hQ hf h6 hs k2 k3 k0 k1 p0 p1 q0 q1 n1 m1 p2 q2 hn
    cases hm : decide (M < Q)
    · exact Crt_rB2 ao ca po cp bo cb qo cq N P M Q w hN hP hM hQ hf h6 hs k2 k3 k0 k1 p0 p1 q0 q1 n1 m1 p2 q2 hn hm
    by_cases hx : Nat.gcd P Q = 1
    rotate_left
    · exact Crt_nB ao ca po cp bo cb qo cq N P M Q _ w hN hP hM hQ hf h6 hs k2 k3 k0 k1 p0 p1 q0 q1 n1 m1 p2 q2 hn hm (of_decide_eq_true hn) (of_decide_eq_true hm) rfl (decide_eq_false hx)
    exact Crt_over ao ca po cp bo cb qo cq N P M Q _ w hN hP hM hQ hf h6 hs k2 k3 k0 k1 p0 p1 q0 q1 n1 m1 p2 q2 hn hm (of_decide_eq_true hn) (of_decide_eq_true hm) rfl (decide_eq_true hx) (len_big p0 q0 hs)
end Go.Proofs.Ythphmgdmhlimjaa
