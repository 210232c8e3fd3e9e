/- NatmodRemainders: the walk. -/
import Derived.Test.YthphmgdmhlimjaaModFrame
import Derived.Test.YthphmgdmhlimjaaLawNatmodCrt
namespace Go.Proofs.Ythphmgdmhlimjaa
open Go.RowKit NatMath
set_option linter.unusedVariables false
theorem mods_uniq {x y P Q : Nat} (hc : Nat.gcd P Q = 1) (hx : x < P * Q) (hy : y < P * Q) (h1 : x % P = y % P) (h2 : x % Q = y % Q) : x = y := by
  rcases Nat.lt_trichotomy x y with hl | hl | hl
  · have a1 := Nat.dvd_of_mod_eq_zero (Nat.sub_mod_eq_zero_of_mod_eq h1.symm)
    have a2 := Nat.dvd_of_mod_eq_zero (Nat.sub_mod_eq_zero_of_mod_eq h2.symm)
    have := Nat.le_of_dvd (by omega) (Nat.Coprime.mul_dvd_of_dvd_of_dvd hc a1 a2)
    omega
  · exact hl
  · have a1 := Nat.dvd_of_mod_eq_zero (Nat.sub_mod_eq_zero_of_mod_eq h1)
    have a2 := Nat.dvd_of_mod_eq_zero (Nat.sub_mod_eq_zero_of_mod_eq h2)
    have := Nat.le_of_dvd (by omega) (Nat.Coprime.mul_dvd_of_dvd_of_dvd hc a1 a2)
    omega
theorem crtV_mod1 {A P B Q : Nat} (ha : A < P) : crtV A P B Q % P = A := by
  unfold crtV; rw [Nat.add_mul_mod_self_left, Nat.mod_eq_of_lt ha]
theorem crtV_mod2 {A P B Q : Nat} (hb : B < Q) (hc : Nat.gcd P Q = 1) : crtV A P B Q % Q = B := by
  have q0 : Q ≠ 0 := by omega
  have hg : Nat.gcd (P % Q) Q = 1 := by rw [← hc]; exact (Nat.gcd_rec Q P).symm.trans (Nat.gcd_comm Q P)
  have h1 := invV_mul q0 hg
  have h2 := subm_mod hb (Nat.mod_lt A (Nat.pos_of_ne_zero q0))
  unfold crtV
  generalize subm B (A % Q) Q = D at *
  generalize invV (P % Q) Q = V at *
  have h3 : P * (D * V % Q) % Q = D % Q := by
    rw [Nat.mul_mod, Nat.mod_mod, ← Nat.mul_mod, ← Nat.mod_mul_mod, Nat.mul_left_comm, Nat.mul_mod, h1, ← Nat.mul_mod, Nat.mul_one]
  rw [Nat.add_mod, h3, ← Nat.add_mod, Nat.add_comm, ← Nat.add_mod_mod, h2]
theorem crtV_back {n P Q : Nat} (p0 : P ≠ 0) (q0 : Q ≠ 0) (hc : Nat.gcd P Q = 1) : crtV (n % P) P (n % Q) Q = n % (P * Q) := by
  have a := Nat.mod_lt n (Nat.pos_of_ne_zero p0)
  have b := Nat.mod_lt n (Nat.pos_of_ne_zero q0)
  refine mods_uniq hc (crtV_lt a b) (Nat.mod_lt _ (Nat.mul_pos (Nat.pos_of_ne_zero p0) (Nat.pos_of_ne_zero q0))) ?_ ?_
  · rw [crtV_mod1 a, Nat.mod_mod_of_dvd _ (Nat.dvd_mul_right P Q)]
  · rw [crtV_mod2 b hc, Nat.mod_mod_of_dvd _ (Nat.dvd_mul_left Q P)]
theorem equal_n {a b : Value} {N M : Nat} {t : Bool} {w : World} (ht : decide (N = M) = t) (ha : Nt w a N) (hb : Nt w b M) :
    Calls Try.prog 33 #[a, b] w fun e w' => e = .returned (.bool t) ∧ Below w.heap.size w w' := by
  subst ht
  have := Equal_c a b (digs N) (digs M) w ha hb
  have e : decide (digs N = digs M) = decide (N = M) := by rw [Bool.eq_iff_iff]; simp [digs_inj]
  rwa [e] at this

set_option maxRecDepth 100000 in
set_option maxHeartbeats 1000000 in
theorem Rem_no0 (ao : Option Addr) (ca : Nat) (bo : Option Addr) (cb : Nat) (co : Option Addr) (cc : Nat) (ln lp lq : List Nat)  (w : World) (ha : Sl w (.slice ao ln.length ca) ln) (hb : Sl w (.slice bo lp.length cb) lp) (hc : Sl w (.slice co lq.length cc) lq) (hf0 : ¬ (ln.length ≤ 14 ∧ lp.length ≤ 14 ∧ lq.length ≤ 14)) :
    Calls Try.prog 8 #[.agg #[.slice ao ln.length ca], .agg #[.slice bo lp.length cb], .agg #[.slice co lq.length cc]] w fun e w' => e = .returned (.bool true) ∧ Below w.heap.size w w' := by
  have hf := Lib.hid hf0
  clear hf0
  have E0 : Hid (EnvB w [] [(.slice co lq.length cc, lq), (.slice bo lp.length cb, lp), (.slice ao ln.length ca, ln)] w) := Lib.hid ((((EnvB.start w).num ha).num hb).num hc)
  clear ha hb hc
  go_enter Try.func8, Try.ntmps8
  go_wp2_with fail
  have E1 : Hid (EnvB w [(w.heap.size + 1 + 1, .slice co lq.length cc), (w.heap.size + 1, .slice bo lp.length cb), (w.heap.size, .slice ao ln.length ca)] [(.slice co lq.length cc, lq), (.slice bo lp.length cb, lp), (.slice ao ln.length ca, ln)] _) := Lib.hid ((((E0.out.push (.slice ao ln.length ca) 24 ⟨_, _, _, rfl⟩ (w.heap.size) (by simp)).push (.slice bo lp.length cb) 24 ⟨_, _, _, rfl⟩ (w.heap.size + 1) (by simp)).push (.slice co lq.length cc) 24 ⟨_, _, _, rfl⟩ (w.heap.size + 1 + 1) (by simp)))
  refine (awake_c _).mono ?_
  rintro e w1 ⟨rfl, hb⟩
  have E2 : Hid (EnvB w [(w.heap.size + 1 + 1, .slice co lq.length cc), (w.heap.size + 1, .slice bo lp.length cb), (w.heap.size, .slice ao ln.length ca)] [(.slice co lq.length cc, lq), (.slice bo lp.length cb, lp), (.slice ao ln.length ca, ln)] _) := Lib.hid ((E1.out.below hb))
  clear E1 E0 hb
  obtain ⟨p1, f1, -, -, -⟩ := E2.out.box 2 rfl
  obtain ⟨p2, f2, -, -, -⟩ := E2.out.box 1 rfl
  obtain ⟨p3, f3, -, -, -⟩ := E2.out.box 0 rfl
  go_wp2_with fail
  refine (few3_f _ _ _ (ln) _ _ _ (lp) _ _ _ (lq) 14 _ (E2.out.sl 2 rfl) (E2.out.sl 1 rfl) (E2.out.sl 0 rfl) hf.out _ (by simp)).mono ?_
  rintro e w2 ⟨rfl, hb⟩
  have E3 : Hid (EnvB w [(w.heap.size + 1 + 1, .slice co lq.length cc), (w.heap.size + 1, .slice bo lp.length cb), (w.heap.size, .slice ao ln.length ca)] [(.slice co lq.length cc, lq), (.slice bo lp.length cb, lp), (.slice ao ln.length ca, ln)] _) := Lib.hid ((E2.out.below hb))
  clear p1 f1 p2 f2 p3 f3 E2 hb
  go_wp2_with fail
  refine (awake_c _).mono ?_
  rintro e w3 ⟨rfl, hb⟩
  have E4 : Hid (EnvB w [(w.heap.size + 1 + 1, .slice co lq.length cc), (w.heap.size + 1, .slice bo lp.length cb), (w.heap.size, .slice ao ln.length ca)] [(.slice co lq.length cc, lq), (.slice bo lp.length cb, lp), (.slice ao ln.length ca, ln)] _) := Lib.hid ((E3.out.below hb))
  clear E3 hb
  have hfin := Lib.hid E4.out.1
  go_wp2
  go_ret
  exact ⟨rfl, hfin.out⟩
set_option maxRecDepth 100000 in
set_option maxHeartbeats 1000000 in
theorem Rem_no1 (ao : Option Addr) (ca : Nat) (bo : Option Addr) (cb : Nat) (co : Option Addr) (cc : Nat) (ln lp lq : List Nat)  (w : World) (ha : Sl w (.slice ao ln.length ca) ln) (hb : Sl w (.slice bo lp.length cb) lp) (hc : Sl w (.slice co lq.length cc) lq) (hf0 : ln.length ≤ 14 ∧ lp.length ≤ 14 ∧ lq.length ≤ 14) (k00 : vld (ln) = false) :
    Calls Try.prog 8 #[.agg #[.slice ao ln.length ca], .agg #[.slice bo lp.length cb], .agg #[.slice co lq.length cc]] w fun e w' => e = .returned (.bool true) ∧ Below w.heap.size w w' := by
  have hf := Lib.hid hf0
  have k0 := Lib.hid k00
  clear hf0 k00
  have E0 : Hid (EnvB w [] [(.slice co lq.length cc, lq), (.slice bo lp.length cb, lp), (.slice ao ln.length ca, ln)] w) := Lib.hid ((((EnvB.start w).num ha).num hb).num hc)
  clear ha hb hc
  go_enter Try.func8, Try.ntmps8
  go_wp2_with fail
  have E1 : Hid (EnvB w [(w.heap.size + 1 + 1, .slice co lq.length cc), (w.heap.size + 1, .slice bo lp.length cb), (w.heap.size, .slice ao ln.length ca)] [(.slice co lq.length cc, lq), (.slice bo lp.length cb, lp), (.slice ao ln.length ca, ln)] _) := Lib.hid ((((E0.out.push (.slice ao ln.length ca) 24 ⟨_, _, _, rfl⟩ (w.heap.size) (by simp)).push (.slice bo lp.length cb) 24 ⟨_, _, _, rfl⟩ (w.heap.size + 1) (by simp)).push (.slice co lq.length cc) 24 ⟨_, _, _, rfl⟩ (w.heap.size + 1 + 1) (by simp)))
  refine (awake_c _).mono ?_
  rintro e w1 ⟨rfl, hb⟩
  have E2 : Hid (EnvB w [(w.heap.size + 1 + 1, .slice co lq.length cc), (w.heap.size + 1, .slice bo lp.length cb), (w.heap.size, .slice ao ln.length ca)] [(.slice co lq.length cc, lq), (.slice bo lp.length cb, lp), (.slice ao ln.length ca, ln)] _) := Lib.hid ((E1.out.below hb))
  clear E1 E0 hb
  obtain ⟨p1, f1, -, -, -⟩ := E2.out.box 2 rfl
  obtain ⟨p2, f2, -, -, -⟩ := E2.out.box 1 rfl
  obtain ⟨p3, f3, -, -, -⟩ := E2.out.box 0 rfl
  go_wp2_with fail
  refine (few3_t _ _ _ (ln) _ _ _ (lp) _ _ _ (lq) 14 _ (E2.out.sl 2 rfl) (E2.out.sl 1 rfl) (E2.out.sl 0 rfl) hf.out _ (by simp)).mono ?_
  rintro e w2 ⟨rfl, hb⟩
  have E3 : Hid (EnvB w [(w.heap.size + 1 + 1, .slice co lq.length cc), (w.heap.size + 1, .slice bo lp.length cb), (w.heap.size, .slice ao ln.length ca)] [(.slice co lq.length cc, lq), (.slice bo lp.length cb, lp), (.slice ao ln.length ca, ln)] _) := Lib.hid ((E2.out.below hb))
  clear p1 f1 p2 f2 p3 f3 E2 hb
  obtain ⟨p4, f4, -, -, -⟩ := E3.out.box 2 rfl
  go_wp2_with fail
  refine (rValid_of k0.out (E3.out.sl 2 rfl)).mono ?_
  rintro e w3 ⟨rfl, hb⟩
  have E4 : Hid (EnvB w [(w.heap.size + 1 + 1, .slice co lq.length cc), (w.heap.size + 1, .slice bo lp.length cb), (w.heap.size, .slice ao ln.length ca)] [(.slice co lq.length cc, lq), (.slice bo lp.length cb, lp), (.slice ao ln.length ca, ln)] _) := Lib.hid ((E3.out.below hb))
  clear p4 f4 E3 hb
  go_wp2_with fail
  refine (awake_c _).mono ?_
  rintro e w4 ⟨rfl, hb⟩
  have E5 : Hid (EnvB w [(w.heap.size + 1 + 1, .slice co lq.length cc), (w.heap.size + 1, .slice bo lp.length cb), (w.heap.size, .slice ao ln.length ca)] [(.slice co lq.length cc, lq), (.slice bo lp.length cb, lp), (.slice ao ln.length ca, ln)] _) := Lib.hid ((E4.out.below hb))
  clear E4 hb
  have hfin := Lib.hid E5.out.1
  go_wp2
  go_ret
  exact ⟨rfl, hfin.out⟩
set_option maxRecDepth 100000 in
set_option maxHeartbeats 1000000 in
theorem Rem_no2 (ao : Option Addr) (ca : Nat) (bo : Option Addr) (cb : Nat) (co : Option Addr) (cc : Nat) (ln lp lq : List Nat)  (w : World) (ha : Sl w (.slice ao ln.length ca) ln) (hb : Sl w (.slice bo lp.length cb) lp) (hc : Sl w (.slice co lq.length cc) lq) (hf0 : ln.length ≤ 14 ∧ lp.length ≤ 14 ∧ lq.length ≤ 14) (k00 : vld (ln) = true) (k10 : mdl (lp) = false) :
    Calls Try.prog 8 #[.agg #[.slice ao ln.length ca], .agg #[.slice bo lp.length cb], .agg #[.slice co lq.length cc]] w fun e w' => e = .returned (.bool true) ∧ Below w.heap.size w w' := by
  have hf := Lib.hid hf0
  have k0 := Lib.hid k00
  have k1 := Lib.hid k10
  clear hf0 k00 k10
  have E0 : Hid (EnvB w [] [(.slice co lq.length cc, lq), (.slice bo lp.length cb, lp), (.slice ao ln.length ca, ln)] w) := Lib.hid ((((EnvB.start w).num ha).num hb).num hc)
  clear ha hb hc
  go_enter Try.func8, Try.ntmps8
  go_wp2_with fail
  have E1 : Hid (EnvB w [(w.heap.size + 1 + 1, .slice co lq.length cc), (w.heap.size + 1, .slice bo lp.length cb), (w.heap.size, .slice ao ln.length ca)] [(.slice co lq.length cc, lq), (.slice bo lp.length cb, lp), (.slice ao ln.length ca, ln)] _) := Lib.hid ((((E0.out.push (.slice ao ln.length ca) 24 ⟨_, _, _, rfl⟩ (w.heap.size) (by simp)).push (.slice bo lp.length cb) 24 ⟨_, _, _, rfl⟩ (w.heap.size + 1) (by simp)).push (.slice co lq.length cc) 24 ⟨_, _, _, rfl⟩ (w.heap.size + 1 + 1) (by simp)))
  refine (awake_c _).mono ?_
  rintro e w1 ⟨rfl, hb⟩
  have E2 : Hid (EnvB w [(w.heap.size + 1 + 1, .slice co lq.length cc), (w.heap.size + 1, .slice bo lp.length cb), (w.heap.size, .slice ao ln.length ca)] [(.slice co lq.length cc, lq), (.slice bo lp.length cb, lp), (.slice ao ln.length ca, ln)] _) := Lib.hid ((E1.out.below hb))
  clear E1 E0 hb
  obtain ⟨p1, f1, -, -, -⟩ := E2.out.box 2 rfl
  obtain ⟨p2, f2, -, -, -⟩ := E2.out.box 1 rfl
  obtain ⟨p3, f3, -, -, -⟩ := E2.out.box 0 rfl
  go_wp2_with fail
  refine (few3_t _ _ _ (ln) _ _ _ (lp) _ _ _ (lq) 14 _ (E2.out.sl 2 rfl) (E2.out.sl 1 rfl) (E2.out.sl 0 rfl) hf.out _ (by simp)).mono ?_
  rintro e w2 ⟨rfl, hb⟩
  have E3 : Hid (EnvB w [(w.heap.size + 1 + 1, .slice co lq.length cc), (w.heap.size + 1, .slice bo lp.length cb), (w.heap.size, .slice ao ln.length ca)] [(.slice co lq.length cc, lq), (.slice bo lp.length cb, lp), (.slice ao ln.length ca, ln)] _) := Lib.hid ((E2.out.below hb))
  clear p1 f1 p2 f2 p3 f3 E2 hb
  obtain ⟨p4, f4, -, -, -⟩ := E3.out.box 2 rfl
  go_wp2_with fail
  refine (rValid_of k0.out (E3.out.sl 2 rfl)).mono ?_
  rintro e w3 ⟨rfl, hb⟩
  have E4 : Hid (EnvB w [(w.heap.size + 1 + 1, .slice co lq.length cc), (w.heap.size + 1, .slice bo lp.length cb), (w.heap.size, .slice ao ln.length ca)] [(.slice co lq.length cc, lq), (.slice bo lp.length cb, lp), (.slice ao ln.length ca, ln)] _) := Lib.hid ((E3.out.below hb))
  clear p4 f4 E3 hb
  obtain ⟨p5, f5, -, -, -⟩ := E4.out.box 1 rfl
  go_wp2_with fail
  refine (first0_c _ _ _ (lp) 1 _ (fst0_f k1.out) (E4.out.sl 1 rfl)).mono ?_
  rintro e w4 ⟨rfl, hb⟩
  have E5 : Hid (EnvB w [(w.heap.size + 1 + 1, .slice co lq.length cc), (w.heap.size + 1, .slice bo lp.length cb), (w.heap.size, .slice ao ln.length ca)] [(.slice co lq.length cc, lq), (.slice bo lp.length cb, lp), (.slice ao ln.length ca, ln)] _) := Lib.hid ((E4.out.below hb))
  clear p5 f5 E4 hb
  go_wp2_with fail
  refine (awake_c _).mono ?_
  rintro e w5 ⟨rfl, hb⟩
  have E6 : Hid (EnvB w [(w.heap.size + 1 + 1, .slice co lq.length cc), (w.heap.size + 1, .slice bo lp.length cb), (w.heap.size, .slice ao ln.length ca)] [(.slice co lq.length cc, lq), (.slice bo lp.length cb, lp), (.slice ao ln.length ca, ln)] _) := Lib.hid ((E5.out.below hb))
  clear E5 hb
  have hfin := Lib.hid E6.out.1
  go_wp2
  go_ret
  exact ⟨rfl, hfin.out⟩
set_option maxRecDepth 100000 in
set_option maxHeartbeats 1000000 in
theorem Rem_no3 (ao : Option Addr) (ca : Nat) (bo : Option Addr) (cb : Nat) (co : Option Addr) (cc : Nat) (ln lp lq : List Nat)  (w : World) (ha : Sl w (.slice ao ln.length ca) ln) (hb : Sl w (.slice bo lp.length cb) lp) (hc : Sl w (.slice co lq.length cc) lq) (hf0 : ln.length ≤ 14 ∧ lp.length ≤ 14 ∧ lq.length ≤ 14) (k00 : vld (ln) = true) (k10 : mdl (lp) = true) (k20 : mdl (lq) = false) :
    Calls Try.prog 8 #[.agg #[.slice ao ln.length ca], .agg #[.slice bo lp.length cb], .agg #[.slice co lq.length cc]] w fun e w' => e = .returned (.bool true) ∧ Below w.heap.size w w' := by
  have hf := Lib.hid hf0
  have k0 := Lib.hid k00
  have k1 := Lib.hid k10
  have k2 := Lib.hid k20
  clear hf0 k00 k10 k20
  have E0 : Hid (EnvB w [] [(.slice co lq.length cc, lq), (.slice bo lp.length cb, lp), (.slice ao ln.length ca, ln)] w) := Lib.hid ((((EnvB.start w).num ha).num hb).num hc)
  clear ha hb hc
  go_enter Try.func8, Try.ntmps8
  go_wp2_with fail
  have E1 : Hid (EnvB w [(w.heap.size + 1 + 1, .slice co lq.length cc), (w.heap.size + 1, .slice bo lp.length cb), (w.heap.size, .slice ao ln.length ca)] [(.slice co lq.length cc, lq), (.slice bo lp.length cb, lp), (.slice ao ln.length ca, ln)] _) := Lib.hid ((((E0.out.push (.slice ao ln.length ca) 24 ⟨_, _, _, rfl⟩ (w.heap.size) (by simp)).push (.slice bo lp.length cb) 24 ⟨_, _, _, rfl⟩ (w.heap.size + 1) (by simp)).push (.slice co lq.length cc) 24 ⟨_, _, _, rfl⟩ (w.heap.size + 1 + 1) (by simp)))
  refine (awake_c _).mono ?_
  rintro e w1 ⟨rfl, hb⟩
  have E2 : Hid (EnvB w [(w.heap.size + 1 + 1, .slice co lq.length cc), (w.heap.size + 1, .slice bo lp.length cb), (w.heap.size, .slice ao ln.length ca)] [(.slice co lq.length cc, lq), (.slice bo lp.length cb, lp), (.slice ao ln.length ca, ln)] _) := Lib.hid ((E1.out.below hb))
  clear E1 E0 hb
  obtain ⟨p1, f1, -, -, -⟩ := E2.out.box 2 rfl
  obtain ⟨p2, f2, -, -, -⟩ := E2.out.box 1 rfl
  obtain ⟨p3, f3, -, -, -⟩ := E2.out.box 0 rfl
  go_wp2_with fail
  refine (few3_t _ _ _ (ln) _ _ _ (lp) _ _ _ (lq) 14 _ (E2.out.sl 2 rfl) (E2.out.sl 1 rfl) (E2.out.sl 0 rfl) hf.out _ (by simp)).mono ?_
  rintro e w2 ⟨rfl, hb⟩
  have E3 : Hid (EnvB w [(w.heap.size + 1 + 1, .slice co lq.length cc), (w.heap.size + 1, .slice bo lp.length cb), (w.heap.size, .slice ao ln.length ca)] [(.slice co lq.length cc, lq), (.slice bo lp.length cb, lp), (.slice ao ln.length ca, ln)] _) := Lib.hid ((E2.out.below hb))
  clear p1 f1 p2 f2 p3 f3 E2 hb
  obtain ⟨p4, f4, -, -, -⟩ := E3.out.box 2 rfl
  go_wp2_with fail
  refine (rValid_of k0.out (E3.out.sl 2 rfl)).mono ?_
  rintro e w3 ⟨rfl, hb⟩
  have E4 : Hid (EnvB w [(w.heap.size + 1 + 1, .slice co lq.length cc), (w.heap.size + 1, .slice bo lp.length cb), (w.heap.size, .slice ao ln.length ca)] [(.slice co lq.length cc, lq), (.slice bo lp.length cb, lp), (.slice ao ln.length ca, ln)] _) := Lib.hid ((E3.out.below hb))
  clear p4 f4 E3 hb
  obtain ⟨p5, f5, -, -, -⟩ := E4.out.box 1 rfl
  go_wp2_with fail
  refine (first0_c _ _ _ (lp) 0 _ (fst0_t k1.out) (E4.out.sl 1 rfl)).mono ?_
  rintro e w4 ⟨rfl, hb⟩
  have E5 : Hid (EnvB w [(w.heap.size + 1 + 1, .slice co lq.length cc), (w.heap.size + 1, .slice bo lp.length cb), (w.heap.size, .slice ao ln.length ca)] [(.slice co lq.length cc, lq), (.slice bo lp.length cb, lp), (.slice ao ln.length ca, ln)] _) := Lib.hid ((E4.out.below hb))
  clear p5 f5 E4 hb
  obtain ⟨p6, f6, -, -, -⟩ := E5.out.box 0 rfl
  go_wp2_with fail
  refine (first0_c _ _ _ (lq) 1 _ (fst0_f k2.out) (E5.out.sl 0 rfl)).mono ?_
  rintro e w5 ⟨rfl, hb⟩
  have E6 : Hid (EnvB w [(w.heap.size + 1 + 1, .slice co lq.length cc), (w.heap.size + 1, .slice bo lp.length cb), (w.heap.size, .slice ao ln.length ca)] [(.slice co lq.length cc, lq), (.slice bo lp.length cb, lp), (.slice ao ln.length ca, ln)] _) := Lib.hid ((E5.out.below hb))
  clear p6 f6 E5 hb
  go_wp2_with fail
  refine (awake_c _).mono ?_
  rintro e w6 ⟨rfl, hb⟩
  have E7 : Hid (EnvB w [(w.heap.size + 1 + 1, .slice co lq.length cc), (w.heap.size + 1, .slice bo lp.length cb), (w.heap.size, .slice ao ln.length ca)] [(.slice co lq.length cc, lq), (.slice bo lp.length cb, lp), (.slice ao ln.length ca, ln)] _) := Lib.hid ((E6.out.below hb))
  clear E6 hb
  have hfin := Lib.hid E7.out.1
  go_wp2
  go_ret
  exact ⟨rfl, hfin.out⟩
set_option maxRecDepth 100000 in
set_option maxHeartbeats 1000000 in
theorem Rem_n (ao : Option Addr) (ca : Nat) (bo : Option Addr) (cb : Nat) (co : Option Addr) (cc : Nat) (N P Q : Nat) (r1 s1 z1 u1 x1 u2 x2 u3 : Nat) (w : World) (ha : Nt w (.slice ao (len N) ca) N) (hb : Nt w (.slice bo (len P) cb) P) (hc : Nt w (.slice co (len Q) cc) Q) (hf0 : len N ≤ 14 ∧ len P ≤ 14 ∧ len Q ≤ 14) (k00 : vld (digs N) = true) (k10 : mdl (digs P) = true) (k20 : mdl (digs Q) = true) (p00 : P ≠ 0) (q00 : Q ≠ 0) (hp0 : len P ≤ 32) (hq0 : len Q ≤ 32) (n60 : len N ≤ 64) (p60 : len P ≤ 64) (q60 : len Q ≤ 64) (hg0 : Nat.gcd P Q = r1) (hs0 : P * Q = s1) (s60 : len s1 ≤ 64) (s00 : s1 ≠ 0) (sv0 : vld (digs s1) = true) (sl0 : len s1 ≠ 0) (hz0 : N % s1 = z1) (y10 : N / s1 = u1) (hna0 : N % P = x1) (y20 : N / P = u2) (hnb0 : N % Q = x2) (y30 : N / Q = u3) (l10 : x1 < P) (l20 : x2 < Q) (hcc0 : Nat.gcd P Q ≠ 1) (ht0 : decide (r1 = 1) = false) :
    Calls Try.prog 8 #[.agg #[.slice ao (len N) ca], .agg #[.slice bo (len P) cb], .agg #[.slice co (len Q) cc]] w fun e w' => e = .returned (.bool true) ∧ Below w.heap.size w w' := by
  have hf := Lib.hid hf0
  have k0 := Lib.hid k00
  have k1 := Lib.hid k10
  have k2 := Lib.hid k20
  have p0 := Lib.hid p00
  have q0 := Lib.hid q00
  have hp := Lib.hid hp0
  have hq := Lib.hid hq0
  have n6 := Lib.hid n60
  have p6 := Lib.hid p60
  have q6 := Lib.hid q60
  have hg := Lib.hid hg0
  have hs := Lib.hid hs0
  have s6 := Lib.hid s60
  have s0 := Lib.hid s00
  have sv := Lib.hid sv0
  have sl := Lib.hid sl0
  have hz := Lib.hid hz0
  have y1 := Lib.hid y10
  have hna := Lib.hid hna0
  have y2 := Lib.hid y20
  have hnb := Lib.hid hnb0
  have y3 := Lib.hid y30
  have l1 := Lib.hid l10
  have l2 := Lib.hid l20
  have hcc := Lib.hid hcc0
  have ht := Lib.hid ht0
  clear hf0 k00 k10 k20 p00 q00 hp0 hq0 n60 p60 q60 hg0 hs0 s60 s00 sv0 sl0 hz0 y10 hna0 y20 hnb0 y30 l10 l20 hcc0 ht0
  have E0 : Hid (EnvB w [] [(.slice co (len Q) cc, digs Q), (.slice bo (len P) cb, digs P), (.slice ao (len N) ca, digs N)] w) := Lib.hid ((((EnvB.start w).numN ha).numN hb).numN hc)
  clear ha hb hc
  go_enter Try.func8, Try.ntmps8
  go_wp2_with fail
  have E1 : Hid (EnvB w [(w.heap.size + 1 + 1, .slice co (len Q) cc), (w.heap.size + 1, .slice bo (len P) cb), (w.heap.size, .slice ao (len N) ca)] [(.slice co (len Q) cc, digs Q), (.slice bo (len P) cb, digs P), (.slice ao (len N) ca, digs N)] _) := Lib.hid ((((E0.out.push (.slice ao (len N) ca) 24 ⟨_, _, _, rfl⟩ (w.heap.size) (by simp)).push (.slice bo (len P) cb) 24 ⟨_, _, _, rfl⟩ (w.heap.size + 1) (by simp)).push (.slice co (len Q) cc) 24 ⟨_, _, _, rfl⟩ (w.heap.size + 1 + 1) (by simp)))
  refine (awake_c _).mono ?_
  rintro e w1 ⟨rfl, hb⟩
  have E2 : Hid (EnvB w [(w.heap.size + 1 + 1, .slice co (len Q) cc), (w.heap.size + 1, .slice bo (len P) cb), (w.heap.size, .slice ao (len N) ca)] [(.slice co (len Q) cc, digs Q), (.slice bo (len P) cb, digs P), (.slice ao (len N) ca, digs N)] _) := Lib.hid ((E1.out.below hb))
  clear E1 E0 hb
  obtain ⟨p1, f1, -, -, -⟩ := E2.out.box 2 rfl
  obtain ⟨p2, f2, -, -, -⟩ := E2.out.box 1 rfl
  obtain ⟨p3, f3, -, -, -⟩ := E2.out.box 0 rfl
  go_wp2_with fail
  refine (few3_t _ _ _ (digs N) _ _ _ (digs P) _ _ _ (digs Q) 14 _ (E2.out.nt 2 rfl) (E2.out.nt 1 rfl) (E2.out.nt 0 rfl) hf.out _ (by simp)).mono ?_
  rintro e w2 ⟨rfl, hb⟩
  have E3 : Hid (EnvB w [(w.heap.size + 1 + 1, .slice co (len Q) cc), (w.heap.size + 1, .slice bo (len P) cb), (w.heap.size, .slice ao (len N) ca)] [(.slice co (len Q) cc, digs Q), (.slice bo (len P) cb, digs P), (.slice ao (len N) ca, digs N)] _) := Lib.hid ((E2.out.below hb))
  clear p1 f1 p2 f2 p3 f3 E2 hb
  obtain ⟨p4, f4, -, -, -⟩ := E3.out.box 2 rfl
  go_wp2_with fail
  refine (rValid_of k0.out (E3.out.nt 2 rfl)).mono ?_
  rintro e w3 ⟨rfl, hb⟩
  have E4 : Hid (EnvB w [(w.heap.size + 1 + 1, .slice co (len Q) cc), (w.heap.size + 1, .slice bo (len P) cb), (w.heap.size, .slice ao (len N) ca)] [(.slice co (len Q) cc, digs Q), (.slice bo (len P) cb, digs P), (.slice ao (len N) ca, digs N)] _) := Lib.hid ((E3.out.below hb))
  clear p4 f4 E3 hb
  obtain ⟨p5, f5, -, -, -⟩ := E4.out.box 1 rfl
  go_wp2_with fail
  refine (first0_c _ _ _ (digs P) 0 _ (fst0_t k1.out) (E4.out.nt 1 rfl)).mono ?_
  rintro e w4 ⟨rfl, hb⟩
  have E5 : Hid (EnvB w [(w.heap.size + 1 + 1, .slice co (len Q) cc), (w.heap.size + 1, .slice bo (len P) cb), (w.heap.size, .slice ao (len N) ca)] [(.slice co (len Q) cc, digs Q), (.slice bo (len P) cb, digs P), (.slice ao (len N) ca, digs N)] _) := Lib.hid ((E4.out.below hb))
  clear p5 f5 E4 hb
  obtain ⟨p6, f6, -, -, -⟩ := E5.out.box 0 rfl
  go_wp2_with fail
  refine (first0_c _ _ _ (digs Q) 0 _ (fst0_t k2.out) (E5.out.nt 0 rfl)).mono ?_
  rintro e w5 ⟨rfl, hb⟩
  have E6 : Hid (EnvB w [(w.heap.size + 1 + 1, .slice co (len Q) cc), (w.heap.size + 1, .slice bo (len P) cb), (w.heap.size, .slice ao (len N) ca)] [(.slice co (len Q) cc, digs Q), (.slice bo (len P) cb, digs P), (.slice ao (len N) ca, digs N)] _) := Lib.hid ((E5.out.below hb))
  clear p6 f6 E5 hb
  obtain ⟨p7, f7, -, -, -⟩ := E6.out.box 1 rfl
  obtain ⟨p8, f8, -, -, -⟩ := E6.out.box 0 rfl
  go_wp2_with fail
  refine (gcd_m hg.out p6.out q6.out (E6.out.nt 1 rfl) (E6.out.nt 0 rfl)).mono ?_
  rintro e w6 ⟨⟨dda, ddk, rfl, hdd⟩, hb⟩
  have E7 : Hid (EnvB w [(w.heap.size + 1 + 1, .slice co (len Q) cc), (w.heap.size + 1, .slice bo (len P) cb), (w.heap.size, .slice ao (len N) ca)] [(.slice dda (len r1) ddk, digs r1), (.slice co (len Q) cc, digs Q), (.slice bo (len P) cb, digs P), (.slice ao (len N) ca, digs N)] _) := Lib.hid (((E6.out.below hb).numN (hdd.out : Nt _ _ r1)))
  clear p7 f7 p8 f8 E6 hb hdd
  have E8 : Hid (EnvB w [(w6.heap.size, .slice dda (len r1) ddk), (w.heap.size + 1 + 1, .slice co (len Q) cc), (w.heap.size + 1, .slice bo (len P) cb), (w.heap.size, .slice ao (len N) ca)] [(.slice dda (len r1) ddk, digs r1), (.slice co (len Q) cc, digs Q), (.slice bo (len P) cb, digs P), (.slice ao (len N) ca, digs N)] _) := Lib.hid ((E7.out.push (.slice dda (len r1) ddk) 24 ⟨_, _, _, rfl⟩ (w6.heap.size) (by simp)))
  obtain ⟨p9, f9, -, -, -⟩ := E8.out.box 2 rfl
  obtain ⟨p10, f10, -, -, -⟩ := E8.out.box 1 rfl
  go_wp2_with fail
  refine (mulF hs.out s6.out (E8.out.nt 2 rfl) (E8.out.nt 1 rfl) p6.out q6.out).mono ?_
  rintro e w7 ⟨⟨pqa, pqk, rfl, hpq⟩, hb⟩
  have E9 : Hid (EnvB w [(w6.heap.size, .slice dda (len r1) ddk), (w.heap.size + 1 + 1, .slice co (len Q) cc), (w.heap.size + 1, .slice bo (len P) cb), (w.heap.size, .slice ao (len N) ca)] [(.slice pqa (len s1) pqk, digs s1), (.slice dda (len r1) ddk, digs r1), (.slice co (len Q) cc, digs Q), (.slice bo (len P) cb, digs P), (.slice ao (len N) ca, digs N)] _) := Lib.hid (((E8.out.below hb).numN (hpq.out : Nt _ _ s1)))
  clear p9 f9 p10 f10 E8 E7 hb hpq
  go_wp2_with fail
  have E10 : Hid (EnvB w [(w7.heap.size, .slice pqa (len s1) pqk), (w6.heap.size, .slice dda (len r1) ddk), (w.heap.size + 1 + 1, .slice co (len Q) cc), (w.heap.size + 1, .slice bo (len P) cb), (w.heap.size, .slice ao (len N) ca)] [(.slice pqa (len s1) pqk, digs s1), (.slice dda (len r1) ddk, digs r1), (.slice co (len Q) cc, digs Q), (.slice bo (len P) cb, digs P), (.slice ao (len N) ca, digs N)] _) := Lib.hid ((E9.out.push (.slice pqa (len s1) pqk) 24 ⟨_, _, _, rfl⟩ (w7.heap.size) (by simp)))
  refine (rValid_of sv.out (E10.out.nt 0 rfl)).mono ?_
  rintro e w8 ⟨rfl, hb⟩
  have E11 : Hid (EnvB w [(w7.heap.size, .slice pqa (len s1) pqk), (w6.heap.size, .slice dda (len r1) ddk), (w.heap.size + 1 + 1, .slice co (len Q) cc), (w.heap.size + 1, .slice bo (len P) cb), (w.heap.size, .slice ao (len N) ca)] [(.slice pqa (len s1) pqk, digs s1), (.slice dda (len r1) ddk, digs r1), (.slice co (len Q) cc, digs Q), (.slice bo (len P) cb, digs P), (.slice ao (len N) ca, digs N)] _) := Lib.hid ((E10.out.below hb))
  clear E10 E9 hb
  obtain ⟨p11, f11, -, -, -⟩ := E11.out.box 0 rfl
  obtain ⟨p12, f12, -, -, -⟩ := E11.out.box 4 rfl
  go_wp2_with fail
  all_goals (try (exfalso; have hw4 := sl.out; have hw5 := eq_of_beq ‹(((len s1 : Nat) : Int) == 0) = true›; omega))
  refine (divF y1.out hz.out (E11.out.nt 4 rfl) (E11.out.nt 0 rfl) n6.out s6.out s0.out).mono ?_
  rintro e w9 ⟨⟨uaa, uak, uba, ubk, rfl, hua, hub⟩, hb⟩
  have E12 : Hid (EnvB w [(w7.heap.size, .slice pqa (len s1) pqk), (w6.heap.size, .slice dda (len r1) ddk), (w.heap.size + 1 + 1, .slice co (len Q) cc), (w.heap.size + 1, .slice bo (len P) cb), (w.heap.size, .slice ao (len N) ca)] [(.slice uba (len z1) ubk, digs z1), (.slice uaa (len u1) uak, digs u1), (.slice pqa (len s1) pqk, digs s1), (.slice dda (len r1) ddk, digs r1), (.slice co (len Q) cc, digs Q), (.slice bo (len P) cb, digs P), (.slice ao (len N) ca, digs N)] _) := Lib.hid ((((E11.out.below hb).numN (hua.out : Nt _ _ u1)).numN (hub.out : Nt _ _ z1)))
  clear p11 f11 p12 f12 E11 hb hua hub
  have E13 : Hid (EnvB w [(w9.heap.size + 1, .slice uba (len z1) ubk), (w9.heap.size, .slice uaa (len u1) uak), (w7.heap.size, .slice pqa (len s1) pqk), (w6.heap.size, .slice dda (len r1) ddk), (w.heap.size + 1 + 1, .slice co (len Q) cc), (w.heap.size + 1, .slice bo (len P) cb), (w.heap.size, .slice ao (len N) ca)] [(.slice uba (len z1) ubk, digs z1), (.slice uaa (len u1) uak, digs u1), (.slice pqa (len s1) pqk, digs s1), (.slice dda (len r1) ddk, digs r1), (.slice co (len Q) cc, digs Q), (.slice bo (len P) cb, digs P), (.slice ao (len N) ca, digs N)] _) := Lib.hid (((E12.out.push (.slice uaa (len u1) uak) 24 ⟨_, _, _, rfl⟩ (w9.heap.size) (by simp)).push (.slice uba (len z1) ubk) 24 ⟨_, _, _, rfl⟩ (w9.heap.size + 1) (by simp)))
  obtain ⟨p13, f13, -, -, -⟩ := E13.out.box 6 rfl
  obtain ⟨p14, f14, -, -, -⟩ := E13.out.box 5 rfl
  go_wp2_with fail
  refine (divF y2.out hna.out (E13.out.nt 6 rfl) (E13.out.nt 5 rfl) n6.out p6.out p0.out).mono ?_
  rintro e w10 ⟨⟨vaa, vak, vba, vbk, rfl, hva, hvb⟩, hb⟩
  have E14 : Hid (EnvB w [(w9.heap.size + 1, .slice uba (len z1) ubk), (w9.heap.size, .slice uaa (len u1) uak), (w7.heap.size, .slice pqa (len s1) pqk), (w6.heap.size, .slice dda (len r1) ddk), (w.heap.size + 1 + 1, .slice co (len Q) cc), (w.heap.size + 1, .slice bo (len P) cb), (w.heap.size, .slice ao (len N) ca)] [(.slice vba (len x1) vbk, digs x1), (.slice vaa (len u2) vak, digs u2), (.slice uba (len z1) ubk, digs z1), (.slice uaa (len u1) uak, digs u1), (.slice pqa (len s1) pqk, digs s1), (.slice dda (len r1) ddk, digs r1), (.slice co (len Q) cc, digs Q), (.slice bo (len P) cb, digs P), (.slice ao (len N) ca, digs N)] _) := Lib.hid ((((E13.out.below hb).numN (hva.out : Nt _ _ u2)).numN (hvb.out : Nt _ _ x1)))
  clear p13 f13 p14 f14 E13 E12 hb hva hvb
  have E15 : Hid (EnvB w [(w10.heap.size + 1, .slice vba (len x1) vbk), (w10.heap.size, .slice vaa (len u2) vak), (w9.heap.size + 1, .slice uba (len z1) ubk), (w9.heap.size, .slice uaa (len u1) uak), (w7.heap.size, .slice pqa (len s1) pqk), (w6.heap.size, .slice dda (len r1) ddk), (w.heap.size + 1 + 1, .slice co (len Q) cc), (w.heap.size + 1, .slice bo (len P) cb), (w.heap.size, .slice ao (len N) ca)] [(.slice vba (len x1) vbk, digs x1), (.slice vaa (len u2) vak, digs u2), (.slice uba (len z1) ubk, digs z1), (.slice uaa (len u1) uak, digs u1), (.slice pqa (len s1) pqk, digs s1), (.slice dda (len r1) ddk, digs r1), (.slice co (len Q) cc, digs Q), (.slice bo (len P) cb, digs P), (.slice ao (len N) ca, digs N)] _) := Lib.hid (((E14.out.push (.slice vaa (len u2) vak) 24 ⟨_, _, _, rfl⟩ (w10.heap.size) (by simp)).push (.slice vba (len x1) vbk) 24 ⟨_, _, _, rfl⟩ (w10.heap.size + 1) (by simp)))
  obtain ⟨p15, f15, -, -, -⟩ := E15.out.box 8 rfl
  obtain ⟨p16, f16, -, -, -⟩ := E15.out.box 6 rfl
  go_wp2_with fail
  refine (divF y3.out hnb.out (E15.out.nt 8 rfl) (E15.out.nt 6 rfl) n6.out q6.out q0.out).mono ?_
  rintro e w11 ⟨⟨waa, wak, wba, wbk, rfl, hwa, hwb⟩, hb⟩
  have E16 : Hid (EnvB w [(w10.heap.size + 1, .slice vba (len x1) vbk), (w10.heap.size, .slice vaa (len u2) vak), (w9.heap.size + 1, .slice uba (len z1) ubk), (w9.heap.size, .slice uaa (len u1) uak), (w7.heap.size, .slice pqa (len s1) pqk), (w6.heap.size, .slice dda (len r1) ddk), (w.heap.size + 1 + 1, .slice co (len Q) cc), (w.heap.size + 1, .slice bo (len P) cb), (w.heap.size, .slice ao (len N) ca)] [(.slice wba (len x2) wbk, digs x2), (.slice waa (len u3) wak, digs u3), (.slice vba (len x1) vbk, digs x1), (.slice vaa (len u2) vak, digs u2), (.slice uba (len z1) ubk, digs z1), (.slice uaa (len u1) uak, digs u1), (.slice pqa (len s1) pqk, digs s1), (.slice dda (len r1) ddk, digs r1), (.slice co (len Q) cc, digs Q), (.slice bo (len P) cb, digs P), (.slice ao (len N) ca, digs N)] _) := Lib.hid ((((E15.out.below hb).numN (hwa.out : Nt _ _ u3)).numN (hwb.out : Nt _ _ x2)))
  clear p15 f15 p16 f16 E15 E14 hb hwa hwb
  have E17 : Hid (EnvB w [(w11.heap.size + 1, .slice wba (len x2) wbk), (w11.heap.size, .slice waa (len u3) wak), (w10.heap.size + 1, .slice vba (len x1) vbk), (w10.heap.size, .slice vaa (len u2) vak), (w9.heap.size + 1, .slice uba (len z1) ubk), (w9.heap.size, .slice uaa (len u1) uak), (w7.heap.size, .slice pqa (len s1) pqk), (w6.heap.size, .slice dda (len r1) ddk), (w.heap.size + 1 + 1, .slice co (len Q) cc), (w.heap.size + 1, .slice bo (len P) cb), (w.heap.size, .slice ao (len N) ca)] [(.slice wba (len x2) wbk, digs x2), (.slice waa (len u3) wak, digs u3), (.slice vba (len x1) vbk, digs x1), (.slice vaa (len u2) vak, digs u2), (.slice uba (len z1) ubk, digs z1), (.slice uaa (len u1) uak, digs u1), (.slice pqa (len s1) pqk, digs s1), (.slice dda (len r1) ddk, digs r1), (.slice co (len Q) cc, digs Q), (.slice bo (len P) cb, digs P), (.slice ao (len N) ca, digs N)] _) := Lib.hid (((E16.out.push (.slice waa (len u3) wak) 24 ⟨_, _, _, rfl⟩ (w11.heap.size) (by simp)).push (.slice wba (len x2) wbk) 24 ⟨_, _, _, rfl⟩ (w11.heap.size + 1) (by simp)))
  obtain ⟨p17, f17, -, -, -⟩ := E17.out.box 2 rfl
  obtain ⟨p18, f18, -, -, -⟩ := E17.out.box 9 rfl
  obtain ⟨p19, f19, -, -, -⟩ := E17.out.box 0 rfl
  obtain ⟨p20, f20, -, -, -⟩ := E17.out.box 8 rfl
  go_wp2_with fail
  refine (crt_z10 hcc.out l1.out l2.out hp.out hq.out (E17.out.nt 2 rfl) (E17.out.nt 9 rfl) (E17.out.nt 0 rfl) (E17.out.nt 8 rfl)).mono ?_
  rintro e w12 ⟨⟨yya, yyk, rfl⟩, hb⟩
  have E18 : Hid (EnvB w [(w11.heap.size + 1, .slice wba (len x2) wbk), (w11.heap.size, .slice waa (len u3) wak), (w10.heap.size + 1, .slice vba (len x1) vbk), (w10.heap.size, .slice vaa (len u2) vak), (w9.heap.size + 1, .slice uba (len z1) ubk), (w9.heap.size, .slice uaa (len u1) uak), (w7.heap.size, .slice pqa (len s1) pqk), (w6.heap.size, .slice dda (len r1) ddk), (w.heap.size + 1 + 1, .slice co (len Q) cc), (w.heap.size + 1, .slice bo (len P) cb), (w.heap.size, .slice ao (len N) ca)] [(.slice wba (len x2) wbk, digs x2), (.slice waa (len u3) wak, digs u3), (.slice vba (len x1) vbk, digs x1), (.slice vaa (len u2) vak, digs u2), (.slice uba (len z1) ubk, digs z1), (.slice uaa (len u1) uak, digs u1), (.slice pqa (len s1) pqk, digs s1), (.slice dda (len r1) ddk, digs r1), (.slice co (len Q) cc, digs Q), (.slice bo (len P) cb, digs P), (.slice ao (len N) ca, digs N)] _) := Lib.hid ((E17.out.below hb))
  clear p17 f17 p18 f18 p19 f19 p20 f20 E17 E16 hb
  have E19 : Hid (EnvB w [(w12.heap.size, .slice yya 0 yyk), (w11.heap.size + 1, .slice wba (len x2) wbk), (w11.heap.size, .slice waa (len u3) wak), (w10.heap.size + 1, .slice vba (len x1) vbk), (w10.heap.size, .slice vaa (len u2) vak), (w9.heap.size + 1, .slice uba (len z1) ubk), (w9.heap.size, .slice uaa (len u1) uak), (w7.heap.size, .slice pqa (len s1) pqk), (w6.heap.size, .slice dda (len r1) ddk), (w.heap.size + 1 + 1, .slice co (len Q) cc), (w.heap.size + 1, .slice bo (len P) cb), (w.heap.size, .slice ao (len N) ca)] [(.slice wba (len x2) wbk, digs x2), (.slice waa (len u3) wak, digs u3), (.slice vba (len x1) vbk, digs x1), (.slice vaa (len u2) vak, digs u2), (.slice uba (len z1) ubk, digs z1), (.slice uaa (len u1) uak, digs u1), (.slice pqa (len s1) pqk, digs s1), (.slice dda (len r1) ddk, digs r1), (.slice co (len Q) cc, digs Q), (.slice bo (len P) cb, digs P), (.slice ao (len N) ca, digs N)] _) := Lib.hid ((E18.out.push (.slice yya 0 yyk) 24 ⟨_, _, _, rfl⟩ (w12.heap.size) (by simp)))
  obtain ⟨p21, f21, -, -, -⟩ := E19.out.box 8 rfl
  go_wp2_with fail
  have E20 : Hid (EnvB w [(w12.heap.size, .slice yya 0 yyk), (w11.heap.size + 1, .slice wba (len x2) wbk), (w11.heap.size, .slice waa (len u3) wak), (w10.heap.size + 1, .slice vba (len x1) vbk), (w10.heap.size, .slice vaa (len u2) vak), (w9.heap.size + 1, .slice uba (len z1) ubk), (w9.heap.size, .slice uaa (len u1) uak), (w7.heap.size, .slice pqa (len s1) pqk), (w6.heap.size, .slice dda (len r1) ddk), (w.heap.size + 1 + 1, .slice co (len Q) cc), (w.heap.size + 1, .slice bo (len P) cb), (w.heap.size, .slice ao (len N) ca)] [(.slice (some ⟨w12.heap.size + 1, 0, none⟩) 1 1, digs 1), (.slice wba (len x2) wbk, digs x2), (.slice waa (len u3) wak, digs u3), (.slice vba (len x1) vbk, digs x1), (.slice vaa (len u2) vak, digs u2), (.slice uba (len z1) ubk, digs z1), (.slice uaa (len u1) uak, digs u1), (.slice pqa (len s1) pqk, digs s1), (.slice dda (len r1) ddk, digs r1), (.slice co (len Q) cc, digs Q), (.slice bo (len P) cb, digs P), (.slice ao (len N) ca, digs N)] _) := Lib.hid ((E19.out.words #[.int .u32 1] [1] 1 rfl (digs_of [1] 1 (by decide) (by decide) (by decide)) (w12.heap.size + 1) (by simp)))
  refine (equal_n ht.out (E20.out.nt 8 rfl) (E20.out.nt 0 rfl)).mono ?_
  rintro e w13 ⟨rfl, hb⟩
  have E21 : Hid (EnvB w [(w12.heap.size, .slice yya 0 yyk), (w11.heap.size + 1, .slice wba (len x2) wbk), (w11.heap.size, .slice waa (len u3) wak), (w10.heap.size + 1, .slice vba (len x1) vbk), (w10.heap.size, .slice vaa (len u2) vak), (w9.heap.size + 1, .slice uba (len z1) ubk), (w9.heap.size, .slice uaa (len u1) uak), (w7.heap.size, .slice pqa (len s1) pqk), (w6.heap.size, .slice dda (len r1) ddk), (w.heap.size + 1 + 1, .slice co (len Q) cc), (w.heap.size + 1, .slice bo (len P) cb), (w.heap.size, .slice ao (len N) ca)] [(.slice (some ⟨w12.heap.size + 1, 0, none⟩) 1 1, digs 1), (.slice wba (len x2) wbk, digs x2), (.slice waa (len u3) wak, digs u3), (.slice vba (len x1) vbk, digs x1), (.slice vaa (len u2) vak, digs u2), (.slice uba (len z1) ubk, digs z1), (.slice uaa (len u1) uak, digs u1), (.slice pqa (len s1) pqk, digs s1), (.slice dda (len r1) ddk, digs r1), (.slice co (len Q) cc, digs Q), (.slice bo (len P) cb, digs P), (.slice ao (len N) ca, digs N)] _) := Lib.hid ((E20.out.below hb))
  clear p21 f21 E20 E18 E19 hb
  obtain ⟨p22, f22, -, -, -⟩ := E21.out.box 0 rfl
  have hfin := Lib.hid E21.out.1
  go_wp2
  go_ret
  exact ⟨rfl, hfin.out⟩
set_option maxRecDepth 100000 in
set_option maxHeartbeats 1000000 in
theorem Rem_ok (ao : Option Addr) (ca : Nat) (bo : Option Addr) (cb : Nat) (co : Option Addr) (cc : Nat) (N P Q : Nat) (r1 s1 z1 u1 x1 u2 x2 u3 : Nat) (w : World) (ha : Nt w (.slice ao (len N) ca) N) (hb : Nt w (.slice bo (len P) cb) P) (hc : Nt w (.slice co (len Q) cc) Q) (hf0 : len N ≤ 14 ∧ len P ≤ 14 ∧ len Q ≤ 14) (k00 : vld (digs N) = true) (k10 : mdl (digs P) = true) (k20 : mdl (digs Q) = true) (p00 : P ≠ 0) (q00 : Q ≠ 0) (hp0 : len P ≤ 32) (hq0 : len Q ≤ 32) (n60 : len N ≤ 64) (p60 : len P ≤ 64) (q60 : len Q ≤ 64) (hg0 : Nat.gcd P Q = r1) (hs0 : P * Q = s1) (s60 : len s1 ≤ 64) (s00 : s1 ≠ 0) (sv0 : vld (digs s1) = true) (sl0 : len s1 ≠ 0) (hz0 : N % s1 = z1) (y10 : N / s1 = u1) (hna0 : N % P = x1) (y20 : N / P = u2) (hnb0 : N % Q = x2) (y30 : N / Q = u3) (l10 : x1 < P) (l20 : x2 < Q) (hcc0 : Nat.gcd P Q = 1) (hr0 : crtV x1 P x2 Q = z1) (h90 : len (P * Q) ≤ 32) (ht0 : decide (r1 = 1) = true) :
    Calls Try.prog 8 #[.agg #[.slice ao (len N) ca], .agg #[.slice bo (len P) cb], .agg #[.slice co (len Q) cc]] w fun e w' => e = .returned (.bool true) ∧ Below w.heap.size w w' := by
  have hf := Lib.hid hf0
  have k0 := Lib.hid k00
  have k1 := Lib.hid k10
  have k2 := Lib.hid k20
  have p0 := Lib.hid p00
  have q0 := Lib.hid q00
  have hp := Lib.hid hp0
  have hq := Lib.hid hq0
  have n6 := Lib.hid n60
  have p6 := Lib.hid p60
  have q6 := Lib.hid q60
  have hg := Lib.hid hg0
  have hs := Lib.hid hs0
  have s6 := Lib.hid s60
  have s0 := Lib.hid s00
  have sv := Lib.hid sv0
  have sl := Lib.hid sl0
  have hz := Lib.hid hz0
  have y1 := Lib.hid y10
  have hna := Lib.hid hna0
  have y2 := Lib.hid y20
  have hnb := Lib.hid hnb0
  have y3 := Lib.hid y30
  have l1 := Lib.hid l10
  have l2 := Lib.hid l20
  have hcc := Lib.hid hcc0
  have hr := Lib.hid hr0
  have h9 := Lib.hid h90
  have ht := Lib.hid ht0
  clear hf0 k00 k10 k20 p00 q00 hp0 hq0 n60 p60 q60 hg0 hs0 s60 s00 sv0 sl0 hz0 y10 hna0 y20 hnb0 y30 l10 l20 hcc0 hr0 h90 ht0
  have E0 : Hid (EnvB w [] [(.slice co (len Q) cc, digs Q), (.slice bo (len P) cb, digs P), (.slice ao (len N) ca, digs N)] w) := Lib.hid ((((EnvB.start w).numN ha).numN hb).numN hc)
  clear ha hb hc
  go_enter Try.func8, Try.ntmps8
  go_wp2_with fail
  have E1 : Hid (EnvB w [(w.heap.size + 1 + 1, .slice co (len Q) cc), (w.heap.size + 1, .slice bo (len P) cb), (w.heap.size, .slice ao (len N) ca)] [(.slice co (len Q) cc, digs Q), (.slice bo (len P) cb, digs P), (.slice ao (len N) ca, digs N)] _) := Lib.hid ((((E0.out.push (.slice ao (len N) ca) 24 ⟨_, _, _, rfl⟩ (w.heap.size) (by simp)).push (.slice bo (len P) cb) 24 ⟨_, _, _, rfl⟩ (w.heap.size + 1) (by simp)).push (.slice co (len Q) cc) 24 ⟨_, _, _, rfl⟩ (w.heap.size + 1 + 1) (by simp)))
  refine (awake_c _).mono ?_
  rintro e w1 ⟨rfl, hb⟩
  have E2 : Hid (EnvB w [(w.heap.size + 1 + 1, .slice co (len Q) cc), (w.heap.size + 1, .slice bo (len P) cb), (w.heap.size, .slice ao (len N) ca)] [(.slice co (len Q) cc, digs Q), (.slice bo (len P) cb, digs P), (.slice ao (len N) ca, digs N)] _) := Lib.hid ((E1.out.below hb))
  clear E1 E0 hb
  obtain ⟨p1, f1, -, -, -⟩ := E2.out.box 2 rfl
  obtain ⟨p2, f2, -, -, -⟩ := E2.out.box 1 rfl
  obtain ⟨p3, f3, -, -, -⟩ := E2.out.box 0 rfl
  go_wp2_with fail
  refine (few3_t _ _ _ (digs N) _ _ _ (digs P) _ _ _ (digs Q) 14 _ (E2.out.nt 2 rfl) (E2.out.nt 1 rfl) (E2.out.nt 0 rfl) hf.out _ (by simp)).mono ?_
  rintro e w2 ⟨rfl, hb⟩
  have E3 : Hid (EnvB w [(w.heap.size + 1 + 1, .slice co (len Q) cc), (w.heap.size + 1, .slice bo (len P) cb), (w.heap.size, .slice ao (len N) ca)] [(.slice co (len Q) cc, digs Q), (.slice bo (len P) cb, digs P), (.slice ao (len N) ca, digs N)] _) := Lib.hid ((E2.out.below hb))
  clear p1 f1 p2 f2 p3 f3 E2 hb
  obtain ⟨p4, f4, -, -, -⟩ := E3.out.box 2 rfl
  go_wp2_with fail
  refine (rValid_of k0.out (E3.out.nt 2 rfl)).mono ?_
  rintro e w3 ⟨rfl, hb⟩
  have E4 : Hid (EnvB w [(w.heap.size + 1 + 1, .slice co (len Q) cc), (w.heap.size + 1, .slice bo (len P) cb), (w.heap.size, .slice ao (len N) ca)] [(.slice co (len Q) cc, digs Q), (.slice bo (len P) cb, digs P), (.slice ao (len N) ca, digs N)] _) := Lib.hid ((E3.out.below hb))
  clear p4 f4 E3 hb
  obtain ⟨p5, f5, -, -, -⟩ := E4.out.box 1 rfl
  go_wp2_with fail
  refine (first0_c _ _ _ (digs P) 0 _ (fst0_t k1.out) (E4.out.nt 1 rfl)).mono ?_
  rintro e w4 ⟨rfl, hb⟩
  have E5 : Hid (EnvB w [(w.heap.size + 1 + 1, .slice co (len Q) cc), (w.heap.size + 1, .slice bo (len P) cb), (w.heap.size, .slice ao (len N) ca)] [(.slice co (len Q) cc, digs Q), (.slice bo (len P) cb, digs P), (.slice ao (len N) ca, digs N)] _) := Lib.hid ((E4.out.below hb))
  clear p5 f5 E4 hb
  obtain ⟨p6, f6, -, -, -⟩ := E5.out.box 0 rfl
  go_wp2_with fail
  refine (first0_c _ _ _ (digs Q) 0 _ (fst0_t k2.out) (E5.out.nt 0 rfl)).mono ?_
  rintro e w5 ⟨rfl, hb⟩
  have E6 : Hid (EnvB w [(w.heap.size + 1 + 1, .slice co (len Q) cc), (w.heap.size + 1, .slice bo (len P) cb), (w.heap.size, .slice ao (len N) ca)] [(.slice co (len Q) cc, digs Q), (.slice bo (len P) cb, digs P), (.slice ao (len N) ca, digs N)] _) := Lib.hid ((E5.out.below hb))
  clear p6 f6 E5 hb
  obtain ⟨p7, f7, -, -, -⟩ := E6.out.box 1 rfl
  obtain ⟨p8, f8, -, -, -⟩ := E6.out.box 0 rfl
  go_wp2_with fail
  refine (gcd_m hg.out p6.out q6.out (E6.out.nt 1 rfl) (E6.out.nt 0 rfl)).mono ?_
  rintro e w6 ⟨⟨dda, ddk, rfl, hdd⟩, hb⟩
  have E7 : Hid (EnvB w [(w.heap.size + 1 + 1, .slice co (len Q) cc), (w.heap.size + 1, .slice bo (len P) cb), (w.heap.size, .slice ao (len N) ca)] [(.slice dda (len r1) ddk, digs r1), (.slice co (len Q) cc, digs Q), (.slice bo (len P) cb, digs P), (.slice ao (len N) ca, digs N)] _) := Lib.hid (((E6.out.below hb).numN (hdd.out : Nt _ _ r1)))
  clear p7 f7 p8 f8 E6 hb hdd
  have E8 : Hid (EnvB w [(w6.heap.size, .slice dda (len r1) ddk), (w.heap.size + 1 + 1, .slice co (len Q) cc), (w.heap.size + 1, .slice bo (len P) cb), (w.heap.size, .slice ao (len N) ca)] [(.slice dda (len r1) ddk, digs r1), (.slice co (len Q) cc, digs Q), (.slice bo (len P) cb, digs P), (.slice ao (len N) ca, digs N)] _) := Lib.hid ((E7.out.push (.slice dda (len r1) ddk) 24 ⟨_, _, _, rfl⟩ (w6.heap.size) (by simp)))
  obtain ⟨p9, f9, -, -, -⟩ := E8.out.box 2 rfl
  obtain ⟨p10, f10, -, -, -⟩ := E8.out.box 1 rfl
  go_wp2_with fail
  refine (mulF hs.out s6.out (E8.out.nt 2 rfl) (E8.out.nt 1 rfl) p6.out q6.out).mono ?_
  rintro e w7 ⟨⟨pqa, pqk, rfl, hpq⟩, hb⟩
  have E9 : Hid (EnvB w [(w6.heap.size, .slice dda (len r1) ddk), (w.heap.size + 1 + 1, .slice co (len Q) cc), (w.heap.size + 1, .slice bo (len P) cb), (w.heap.size, .slice ao (len N) ca)] [(.slice pqa (len s1) pqk, digs s1), (.slice dda (len r1) ddk, digs r1), (.slice co (len Q) cc, digs Q), (.slice bo (len P) cb, digs P), (.slice ao (len N) ca, digs N)] _) := Lib.hid (((E8.out.below hb).numN (hpq.out : Nt _ _ s1)))
  clear p9 f9 p10 f10 E8 E7 hb hpq
  go_wp2_with fail
  have E10 : Hid (EnvB w [(w7.heap.size, .slice pqa (len s1) pqk), (w6.heap.size, .slice dda (len r1) ddk), (w.heap.size + 1 + 1, .slice co (len Q) cc), (w.heap.size + 1, .slice bo (len P) cb), (w.heap.size, .slice ao (len N) ca)] [(.slice pqa (len s1) pqk, digs s1), (.slice dda (len r1) ddk, digs r1), (.slice co (len Q) cc, digs Q), (.slice bo (len P) cb, digs P), (.slice ao (len N) ca, digs N)] _) := Lib.hid ((E9.out.push (.slice pqa (len s1) pqk) 24 ⟨_, _, _, rfl⟩ (w7.heap.size) (by simp)))
  refine (rValid_of sv.out (E10.out.nt 0 rfl)).mono ?_
  rintro e w8 ⟨rfl, hb⟩
  have E11 : Hid (EnvB w [(w7.heap.size, .slice pqa (len s1) pqk), (w6.heap.size, .slice dda (len r1) ddk), (w.heap.size + 1 + 1, .slice co (len Q) cc), (w.heap.size + 1, .slice bo (len P) cb), (w.heap.size, .slice ao (len N) ca)] [(.slice pqa (len s1) pqk, digs s1), (.slice dda (len r1) ddk, digs r1), (.slice co (len Q) cc, digs Q), (.slice bo (len P) cb, digs P), (.slice ao (len N) ca, digs N)] _) := Lib.hid ((E10.out.below hb))
  clear E10 E9 hb
  obtain ⟨p11, f11, -, -, -⟩ := E11.out.box 0 rfl
  obtain ⟨p12, f12, -, -, -⟩ := E11.out.box 4 rfl
  go_wp2_with fail
  all_goals (try (exfalso; have hw4 := sl.out; have hw5 := eq_of_beq ‹(((len s1 : Nat) : Int) == 0) = true›; omega))
  refine (divF y1.out hz.out (E11.out.nt 4 rfl) (E11.out.nt 0 rfl) n6.out s6.out s0.out).mono ?_
  rintro e w9 ⟨⟨uaa, uak, uba, ubk, rfl, hua, hub⟩, hb⟩
  have E12 : Hid (EnvB w [(w7.heap.size, .slice pqa (len s1) pqk), (w6.heap.size, .slice dda (len r1) ddk), (w.heap.size + 1 + 1, .slice co (len Q) cc), (w.heap.size + 1, .slice bo (len P) cb), (w.heap.size, .slice ao (len N) ca)] [(.slice uba (len z1) ubk, digs z1), (.slice uaa (len u1) uak, digs u1), (.slice pqa (len s1) pqk, digs s1), (.slice dda (len r1) ddk, digs r1), (.slice co (len Q) cc, digs Q), (.slice bo (len P) cb, digs P), (.slice ao (len N) ca, digs N)] _) := Lib.hid ((((E11.out.below hb).numN (hua.out : Nt _ _ u1)).numN (hub.out : Nt _ _ z1)))
  clear p11 f11 p12 f12 E11 hb hua hub
  have E13 : Hid (EnvB w [(w9.heap.size + 1, .slice uba (len z1) ubk), (w9.heap.size, .slice uaa (len u1) uak), (w7.heap.size, .slice pqa (len s1) pqk), (w6.heap.size, .slice dda (len r1) ddk), (w.heap.size + 1 + 1, .slice co (len Q) cc), (w.heap.size + 1, .slice bo (len P) cb), (w.heap.size, .slice ao (len N) ca)] [(.slice uba (len z1) ubk, digs z1), (.slice uaa (len u1) uak, digs u1), (.slice pqa (len s1) pqk, digs s1), (.slice dda (len r1) ddk, digs r1), (.slice co (len Q) cc, digs Q), (.slice bo (len P) cb, digs P), (.slice ao (len N) ca, digs N)] _) := Lib.hid (((E12.out.push (.slice uaa (len u1) uak) 24 ⟨_, _, _, rfl⟩ (w9.heap.size) (by simp)).push (.slice uba (len z1) ubk) 24 ⟨_, _, _, rfl⟩ (w9.heap.size + 1) (by simp)))
  obtain ⟨p13, f13, -, -, -⟩ := E13.out.box 6 rfl
  obtain ⟨p14, f14, -, -, -⟩ := E13.out.box 5 rfl
  go_wp2_with fail
  refine (divF y2.out hna.out (E13.out.nt 6 rfl) (E13.out.nt 5 rfl) n6.out p6.out p0.out).mono ?_
  rintro e w10 ⟨⟨vaa, vak, vba, vbk, rfl, hva, hvb⟩, hb⟩
  have E14 : Hid (EnvB w [(w9.heap.size + 1, .slice uba (len z1) ubk), (w9.heap.size, .slice uaa (len u1) uak), (w7.heap.size, .slice pqa (len s1) pqk), (w6.heap.size, .slice dda (len r1) ddk), (w.heap.size + 1 + 1, .slice co (len Q) cc), (w.heap.size + 1, .slice bo (len P) cb), (w.heap.size, .slice ao (len N) ca)] [(.slice vba (len x1) vbk, digs x1), (.slice vaa (len u2) vak, digs u2), (.slice uba (len z1) ubk, digs z1), (.slice uaa (len u1) uak, digs u1), (.slice pqa (len s1) pqk, digs s1), (.slice dda (len r1) ddk, digs r1), (.slice co (len Q) cc, digs Q), (.slice bo (len P) cb, digs P), (.slice ao (len N) ca, digs N)] _) := Lib.hid ((((E13.out.below hb).numN (hva.out : Nt _ _ u2)).numN (hvb.out : Nt _ _ x1)))
  clear p13 f13 p14 f14 E13 E12 hb hva hvb
  have E15 : Hid (EnvB w [(w10.heap.size + 1, .slice vba (len x1) vbk), (w10.heap.size, .slice vaa (len u2) vak), (w9.heap.size + 1, .slice uba (len z1) ubk), (w9.heap.size, .slice uaa (len u1) uak), (w7.heap.size, .slice pqa (len s1) pqk), (w6.heap.size, .slice dda (len r1) ddk), (w.heap.size + 1 + 1, .slice co (len Q) cc), (w.heap.size + 1, .slice bo (len P) cb), (w.heap.size, .slice ao (len N) ca)] [(.slice vba (len x1) vbk, digs x1), (.slice vaa (len u2) vak, digs u2), (.slice uba (len z1) ubk, digs z1), (.slice uaa (len u1) uak, digs u1), (.slice pqa (len s1) pqk, digs s1), (.slice dda (len r1) ddk, digs r1), (.slice co (len Q) cc, digs Q), (.slice bo (len P) cb, digs P), (.slice ao (len N) ca, digs N)] _) := Lib.hid (((E14.out.push (.slice vaa (len u2) vak) 24 ⟨_, _, _, rfl⟩ (w10.heap.size) (by simp)).push (.slice vba (len x1) vbk) 24 ⟨_, _, _, rfl⟩ (w10.heap.size + 1) (by simp)))
  obtain ⟨p15, f15, -, -, -⟩ := E15.out.box 8 rfl
  obtain ⟨p16, f16, -, -, -⟩ := E15.out.box 6 rfl
  go_wp2_with fail
  refine (divF y3.out hnb.out (E15.out.nt 8 rfl) (E15.out.nt 6 rfl) n6.out q6.out q0.out).mono ?_
  rintro e w11 ⟨⟨waa, wak, wba, wbk, rfl, hwa, hwb⟩, hb⟩
  have E16 : Hid (EnvB w [(w10.heap.size + 1, .slice vba (len x1) vbk), (w10.heap.size, .slice vaa (len u2) vak), (w9.heap.size + 1, .slice uba (len z1) ubk), (w9.heap.size, .slice uaa (len u1) uak), (w7.heap.size, .slice pqa (len s1) pqk), (w6.heap.size, .slice dda (len r1) ddk), (w.heap.size + 1 + 1, .slice co (len Q) cc), (w.heap.size + 1, .slice bo (len P) cb), (w.heap.size, .slice ao (len N) ca)] [(.slice wba (len x2) wbk, digs x2), (.slice waa (len u3) wak, digs u3), (.slice vba (len x1) vbk, digs x1), (.slice vaa (len u2) vak, digs u2), (.slice uba (len z1) ubk, digs z1), (.slice uaa (len u1) uak, digs u1), (.slice pqa (len s1) pqk, digs s1), (.slice dda (len r1) ddk, digs r1), (.slice co (len Q) cc, digs Q), (.slice bo (len P) cb, digs P), (.slice ao (len N) ca, digs N)] _) := Lib.hid ((((E15.out.below hb).numN (hwa.out : Nt _ _ u3)).numN (hwb.out : Nt _ _ x2)))
  clear p15 f15 p16 f16 E15 E14 hb hwa hwb
  have E17 : Hid (EnvB w [(w11.heap.size + 1, .slice wba (len x2) wbk), (w11.heap.size, .slice waa (len u3) wak), (w10.heap.size + 1, .slice vba (len x1) vbk), (w10.heap.size, .slice vaa (len u2) vak), (w9.heap.size + 1, .slice uba (len z1) ubk), (w9.heap.size, .slice uaa (len u1) uak), (w7.heap.size, .slice pqa (len s1) pqk), (w6.heap.size, .slice dda (len r1) ddk), (w.heap.size + 1 + 1, .slice co (len Q) cc), (w.heap.size + 1, .slice bo (len P) cb), (w.heap.size, .slice ao (len N) ca)] [(.slice wba (len x2) wbk, digs x2), (.slice waa (len u3) wak, digs u3), (.slice vba (len x1) vbk, digs x1), (.slice vaa (len u2) vak, digs u2), (.slice uba (len z1) ubk, digs z1), (.slice uaa (len u1) uak, digs u1), (.slice pqa (len s1) pqk, digs s1), (.slice dda (len r1) ddk, digs r1), (.slice co (len Q) cc, digs Q), (.slice bo (len P) cb, digs P), (.slice ao (len N) ca, digs N)] _) := Lib.hid (((E16.out.push (.slice waa (len u3) wak) 24 ⟨_, _, _, rfl⟩ (w11.heap.size) (by simp)).push (.slice wba (len x2) wbk) 24 ⟨_, _, _, rfl⟩ (w11.heap.size + 1) (by simp)))
  obtain ⟨p17, f17, -, -, -⟩ := E17.out.box 2 rfl
  obtain ⟨p18, f18, -, -, -⟩ := E17.out.box 9 rfl
  obtain ⟨p19, f19, -, -, -⟩ := E17.out.box 0 rfl
  obtain ⟨p20, f20, -, -, -⟩ := E17.out.box 8 rfl
  go_wp2_with fail
  refine (crt_m hr.out hcc.out h9.out l1.out l2.out hp.out hq.out (E17.out.nt 2 rfl) (E17.out.nt 9 rfl) (E17.out.nt 0 rfl) (E17.out.nt 8 rfl)).mono ?_
  rintro e w12 ⟨⟨yya, yyk, rfl, hyy⟩, hb⟩
  have E18 : Hid (EnvB w [(w11.heap.size + 1, .slice wba (len x2) wbk), (w11.heap.size, .slice waa (len u3) wak), (w10.heap.size + 1, .slice vba (len x1) vbk), (w10.heap.size, .slice vaa (len u2) vak), (w9.heap.size + 1, .slice uba (len z1) ubk), (w9.heap.size, .slice uaa (len u1) uak), (w7.heap.size, .slice pqa (len s1) pqk), (w6.heap.size, .slice dda (len r1) ddk), (w.heap.size + 1 + 1, .slice co (len Q) cc), (w.heap.size + 1, .slice bo (len P) cb), (w.heap.size, .slice ao (len N) ca)] [(.slice yya (len z1) yyk, digs z1), (.slice wba (len x2) wbk, digs x2), (.slice waa (len u3) wak, digs u3), (.slice vba (len x1) vbk, digs x1), (.slice vaa (len u2) vak, digs u2), (.slice uba (len z1) ubk, digs z1), (.slice uaa (len u1) uak, digs u1), (.slice pqa (len s1) pqk, digs s1), (.slice dda (len r1) ddk, digs r1), (.slice co (len Q) cc, digs Q), (.slice bo (len P) cb, digs P), (.slice ao (len N) ca, digs N)] _) := Lib.hid (((E17.out.below hb).numN (hyy.out : Nt _ _ z1)))
  clear p17 f17 p18 f18 p19 f19 p20 f20 E17 E16 hb hyy
  have E19 : Hid (EnvB w [(w12.heap.size, .slice yya (len z1) yyk), (w11.heap.size + 1, .slice wba (len x2) wbk), (w11.heap.size, .slice waa (len u3) wak), (w10.heap.size + 1, .slice vba (len x1) vbk), (w10.heap.size, .slice vaa (len u2) vak), (w9.heap.size + 1, .slice uba (len z1) ubk), (w9.heap.size, .slice uaa (len u1) uak), (w7.heap.size, .slice pqa (len s1) pqk), (w6.heap.size, .slice dda (len r1) ddk), (w.heap.size + 1 + 1, .slice co (len Q) cc), (w.heap.size + 1, .slice bo (len P) cb), (w.heap.size, .slice ao (len N) ca)] [(.slice yya (len z1) yyk, digs z1), (.slice wba (len x2) wbk, digs x2), (.slice waa (len u3) wak, digs u3), (.slice vba (len x1) vbk, digs x1), (.slice vaa (len u2) vak, digs u2), (.slice uba (len z1) ubk, digs z1), (.slice uaa (len u1) uak, digs u1), (.slice pqa (len s1) pqk, digs s1), (.slice dda (len r1) ddk, digs r1), (.slice co (len Q) cc, digs Q), (.slice bo (len P) cb, digs P), (.slice ao (len N) ca, digs N)] _) := Lib.hid ((E18.out.push (.slice yya (len z1) yyk) 24 ⟨_, _, _, rfl⟩ (w12.heap.size) (by simp)))
  obtain ⟨p21, f21, -, -, -⟩ := E19.out.box 8 rfl
  go_wp2_with fail
  have E20 : Hid (EnvB w [(w12.heap.size, .slice yya (len z1) yyk), (w11.heap.size + 1, .slice wba (len x2) wbk), (w11.heap.size, .slice waa (len u3) wak), (w10.heap.size + 1, .slice vba (len x1) vbk), (w10.heap.size, .slice vaa (len u2) vak), (w9.heap.size + 1, .slice uba (len z1) ubk), (w9.heap.size, .slice uaa (len u1) uak), (w7.heap.size, .slice pqa (len s1) pqk), (w6.heap.size, .slice dda (len r1) ddk), (w.heap.size + 1 + 1, .slice co (len Q) cc), (w.heap.size + 1, .slice bo (len P) cb), (w.heap.size, .slice ao (len N) ca)] [(.slice (some ⟨w12.heap.size + 1, 0, none⟩) 1 1, digs 1), (.slice yya (len z1) yyk, digs z1), (.slice wba (len x2) wbk, digs x2), (.slice waa (len u3) wak, digs u3), (.slice vba (len x1) vbk, digs x1), (.slice vaa (len u2) vak, digs u2), (.slice uba (len z1) ubk, digs z1), (.slice uaa (len u1) uak, digs u1), (.slice pqa (len s1) pqk, digs s1), (.slice dda (len r1) ddk, digs r1), (.slice co (len Q) cc, digs Q), (.slice bo (len P) cb, digs P), (.slice ao (len N) ca, digs N)] _) := Lib.hid ((E19.out.words #[.int .u32 1] [1] 1 rfl (digs_of [1] 1 (by decide) (by decide) (by decide)) (w12.heap.size + 1) (by simp)))
  refine (equal_n ht.out (E20.out.nt 9 rfl) (E20.out.nt 0 rfl)).mono ?_
  rintro e w13 ⟨rfl, hb⟩
  have E21 : Hid (EnvB w [(w12.heap.size, .slice yya (len z1) yyk), (w11.heap.size + 1, .slice wba (len x2) wbk), (w11.heap.size, .slice waa (len u3) wak), (w10.heap.size + 1, .slice vba (len x1) vbk), (w10.heap.size, .slice vaa (len u2) vak), (w9.heap.size + 1, .slice uba (len z1) ubk), (w9.heap.size, .slice uaa (len u1) uak), (w7.heap.size, .slice pqa (len s1) pqk), (w6.heap.size, .slice dda (len r1) ddk), (w.heap.size + 1 + 1, .slice co (len Q) cc), (w.heap.size + 1, .slice bo (len P) cb), (w.heap.size, .slice ao (len N) ca)] [(.slice (some ⟨w12.heap.size + 1, 0, none⟩) 1 1, digs 1), (.slice yya (len z1) yyk, digs z1), (.slice wba (len x2) wbk, digs x2), (.slice waa (len u3) wak, digs u3), (.slice vba (len x1) vbk, digs x1), (.slice vaa (len u2) vak, digs u2), (.slice uba (len z1) ubk, digs z1), (.slice uaa (len u1) uak, digs u1), (.slice pqa (len s1) pqk, digs s1), (.slice dda (len r1) ddk, digs r1), (.slice co (len Q) cc, digs Q), (.slice bo (len P) cb, digs P), (.slice ao (len N) ca, digs N)] _) := Lib.hid ((E20.out.below hb))
  clear p21 f21 E20 E18 E19 hb
  obtain ⟨p22, f22, -, -, -⟩ := E21.out.box 5 rfl
  obtain ⟨p23, f23, -, -, -⟩ := E21.out.box 0 rfl
  go_wp2_with fail
  refine (same_c (t := true) (by simp) (E21.out.nt 6 rfl) (E21.out.nt 1 rfl)).mono ?_
  rintro e w14 ⟨rfl, hb⟩
  have E22 : Hid (EnvB w [(w12.heap.size, .slice yya (len z1) yyk), (w11.heap.size + 1, .slice wba (len x2) wbk), (w11.heap.size, .slice waa (len u3) wak), (w10.heap.size + 1, .slice vba (len x1) vbk), (w10.heap.size, .slice vaa (len u2) vak), (w9.heap.size + 1, .slice uba (len z1) ubk), (w9.heap.size, .slice uaa (len u1) uak), (w7.heap.size, .slice pqa (len s1) pqk), (w6.heap.size, .slice dda (len r1) ddk), (w.heap.size + 1 + 1, .slice co (len Q) cc), (w.heap.size + 1, .slice bo (len P) cb), (w.heap.size, .slice ao (len N) ca)] [(.slice (some ⟨w12.heap.size + 1, 0, none⟩) 1 1, digs 1), (.slice yya (len z1) yyk, digs z1), (.slice wba (len x2) wbk, digs x2), (.slice waa (len u3) wak, digs u3), (.slice vba (len x1) vbk, digs x1), (.slice vaa (len u2) vak, digs u2), (.slice uba (len z1) ubk, digs z1), (.slice uaa (len u1) uak, digs u1), (.slice pqa (len s1) pqk, digs s1), (.slice dda (len r1) ddk, digs r1), (.slice co (len Q) cc, digs Q), (.slice bo (len P) cb, digs P), (.slice ao (len N) ca, digs N)] _) := Lib.hid ((E21.out.below hb))
  clear p22 f22 p23 f23 E21 hb
  have hfin := Lib.hid E22.out.1
  go_wp2
  go_ret
  exact ⟨rfl, hfin.out⟩
theorem NatmodRemainders_walk (n p q : Value) (ln lp lq : List Nat) (w : World) (hn : Sl w n ln) (hp : Sl w p lp) (hq : Sl w q lq) :
    Calls Try.prog 8 #[.agg #[n], .agg #[p], .agg #[q]] w fun e w' => e = .returned (.bool true) ∧ Below w.heap.size w w' := by
  obtain ⟨no, cn, rfl, _⟩ := hn.open
  obtain ⟨po, cp, rfl, _⟩ := hp.open
  obtain ⟨qo, cq, rfl, _⟩ := hq.open
  by_cases hf : ln.length ≤ 14 ∧ lp.length ≤ 14 ∧ lq.length ≤ 14
  rotate_left
  · exact Rem_no0 no cn po cp qo cq ln lp lq w hn hp hq hf
  cases k0 : vld ln
  · exact Rem_no1 no cn po cp qo cq ln lp lq w hn hp hq hf k0
  cases k1 : mdl lp
  · exact Rem_no2 no cn po cp qo cq ln lp lq w hn hp hq hf k0 k1
  cases k2 : mdl lq
  · exact Rem_no3 no cn po cp qo cq ln lp lq w hn hp hq hf k0 k1 k2
  obtain ⟨P, rfl, p0, p1, hP⟩ := mdl_nt hp k1
  obtain ⟨Q, rfl, q0, q1, hQ⟩ := mdl_nt hq k2
  obtain ⟨N, rfl, n1, hN⟩ := nt_of hn k0
  have hs : len (P * Q) ≤ 28 := len_mul_le hf.2.1 hf.2.2 (by decide)
  have s0 : P * Q ≠ 0 := Nat.mul_ne_zero p0 q0
  have sl : len (P * Q) ≠ 0 := fun h => s0 (len_eq_zero.1 h)
  have l1 := Nat.mod_lt N (Nat.pos_of_ne_zero p0)
  have l2 := Nat.mod_lt N (Nat.pos_of_ne_zero q0)
  have sv : vld (digs (P * Q)) = true := by rw [vld_digs]; exact decide_eq_true (by omega)
  by_cases hc : Nat.gcd P Q = 1
  · exact Rem_ok no cn po cp qo cq N P Q _ _ _ _ _ _ _ _ w hN hP hQ hf k0 k1 k2 p0 q0 p1 q1 n1 (by omega) (by omega) rfl rfl (by omega) s0 sv sl rfl rfl rfl rfl rfl rfl l1 l2 hc (crtV_back p0 q0 hc) (by omega) (decide_eq_true hc)
  · exact Rem_n no cn po cp qo cq N P Q _ _ _ _ _ _ _ _ w hN hP hQ hf k0 k1 k2 p0 q0 p1 q1 n1 (by omega) (by omega) rfl rfl (by omega) s0 sv sl rfl rfl rfl rfl rfl rfl l1 l2 hc (decide_eq_false hc)
end Go.Proofs.Ythphmgdmhlimjaa
