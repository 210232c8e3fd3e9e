/- NatmodDivides: the walk. -/
import Derived.Test.YthphmgdmhlimjaaModFrame
import Derived.Test.YthphmgdmhlimjaaModL4
import Derived.LoopN
namespace Go.Proofs.Ythphmgdmhlimjaa
open Go.RowKit NatMath
set_option linter.unusedVariables false
theorem equal_n2 {a b : Value} {N M : Nat} {t : Bool} {w : World} (ht : decide (N = M) = t) (ha : Nt w a N) (hb : Nt w b M) :
    Calls Try.prog 33 #[a, b] w fun e w' => e = .returned (.bool t) ∧ Below w.heap.size w w' := by
  subst ht
  have := Equal_c a b (digs N) (digs M) w ha hb
  have e : decide (digs N = digs M) = decide (N = M) := by rw [Bool.eq_iff_iff]; simp [digs_inj]
  rwa [e] at this
/-- a slice of two numbers -/
def Two (g : Nat) (va vb : Value) (W : World) : Prop := g < W.heap.size ∧ W.cell? ⟨g, 0, none⟩ = some va ∧ W.cell? ⟨g, 1, none⟩ = some vb
theorem Two.below {g : Nat} {va vb : Value} {W W' : World} (h : Two g va vb W) (hb : Below W.heap.size W W') : Two g va vb W' :=
  ⟨Nat.lt_of_lt_of_le h.1 hb.size, (hb.cell (p := ⟨g, 0, none⟩) h.1).trans h.2.1, (hb.cell (p := ⟨g, 1, none⟩) h.1).trans h.2.2⟩
theorem Two.mk2 {ao bo : Option Addr} {na nb ca cb : Nat} {W : World} (ha : (na : Int) ≤ 9223372036854775807) (hb : (nb : Int) ≤ 9223372036854775807) :
    Two W.heap.size (.slice ao na ca) (.slice bo nb cb) (W.alloc (.cells #[.slice ao na ca, .slice bo nb cb] 24)) := by
  obtain ⟨h1, _, h3⟩ := row2 ao na ca bo nb cb W W.heap.size rfl ha hb
  exact ⟨h1, h3 0 (by decide), h3 1 (by decide)⟩
def ResQ (e : Ending) : Prop := ∃ (n : Nat) (qa : Option Addr) (qk : Nat) (ra : Option Addr) (rk : Nat), e = .returned (.tuple #[.agg #[.slice qa n qk], .agg #[.slice ra 0 rk], .int .i64 0])
theorem div_zr {a b : Value} {N M : Nat} {w : World} (hr : N % M = 0) (h1 : len N ≤ 64) (h2 : len M ≤ 64) (h0 : M ≠ 0) (ha : Nt w a N) (hb : Nt w b M) :
    Calls Try.prog 32 #[.agg #[a], .agg #[b]] w fun e w' => ResQ e ∧ Below w.heap.size w w' := by
  refine (divF rfl hr ha hb h1 h2 h0).mono ?_
  rintro e w' ⟨⟨qa, qk, ra, rk, rfl, _, _⟩, hb⟩
  exact ⟨⟨_, qa, qk, ra, rk, by rw [len_zero]⟩, hb⟩
theorem mul_m {a b c : Value} {N M K r : Nat} {w : World} (hr : N * M % K = r) (hn : N < K) (hm : M < K) (hk : len K ≤ 32) (ha : Nt w a N) (hb : Nt w b M) (hc : Nt w c K) :
    Calls Try.prog 28 #[.agg #[a], .agg #[b], .agg #[c]] w fun e w' => ResN r 0 e w' ∧ Below w.heap.size w w' := Mul_m hr hn hm hk ha hb hc

set_option maxRecDepth 100000 in
set_option maxHeartbeats 1000000 in
theorem Divs_no (ao : Option Addr) (ca : Nat) (bo : Option Addr) (cb : Nat) (la lm : List Nat)  (w : World) (ha : Sl w (.slice ao la.length ca) la) (hb : Sl w (.slice bo lm.length cb) lm) (hf0 : ¬ (la.length ≤ 32 ∧ lm.length ≤ 32)) :
    Calls Try.prog 7 #[.agg #[.slice ao la.length ca], .agg #[.slice bo lm.length cb]] w fun e w' => e = .returned (.bool true) ∧ Below w.heap.size w w' := by
  have hf := Lib.hid hf0
  clear hf0
  have E0 : Hid (EnvB w [] [(.slice bo lm.length cb, lm), (.slice ao la.length ca, la)] w) := Lib.hid (((EnvB.start w).num ha).num hb)
  clear ha hb
  go_enter Try.func7, Try.ntmps7
  go_wp2_with fail
  have E1 : Hid (EnvB w [(w.heap.size + 1, .slice bo lm.length cb), (w.heap.size, .slice ao la.length ca)] [(.slice bo lm.length cb, lm), (.slice ao la.length ca, la)] _) := Lib.hid (((E0.out.push (.slice ao la.length ca) 24 ⟨_, _, _, rfl⟩ (w.heap.size) (by simp)).push (.slice bo lm.length cb) 24 ⟨_, _, _, rfl⟩ (w.heap.size + 1) (by simp)))
  refine (awake_c _).mono ?_
  rintro e w1 ⟨rfl, hb⟩
  have E2 : Hid (EnvB w [(w.heap.size + 1, .slice bo lm.length cb), (w.heap.size, .slice ao la.length ca)] [(.slice bo lm.length cb, lm), (.slice ao la.length ca, la)] _) := Lib.hid ((E1.out.below hb))
  clear E1 E0 hb
  obtain ⟨p1, f1, -, -, -⟩ := E2.out.box 1 rfl
  obtain ⟨p2, f2, -, -, -⟩ := E2.out.box 0 rfl
  go_wp2_with fail
  refine (few2_f _ _ _ (la) _ _ _ (lm) 32 _ (E2.out.sl 1 rfl) (E2.out.sl 0 rfl) hf.out _ (by simp)).mono ?_
  rintro e w2 ⟨rfl, hb⟩
  have E3 : Hid (EnvB w [(w.heap.size + 1, .slice bo lm.length cb), (w.heap.size, .slice ao la.length ca)] [(.slice bo lm.length cb, lm), (.slice ao la.length ca, la)] _) := Lib.hid ((E2.out.below hb))
  clear p1 f1 p2 f2 E2 hb
  go_wp2_with fail
  refine (awake_c _).mono ?_
  rintro e w3 ⟨rfl, hb⟩
  have E4 : Hid (EnvB w [(w.heap.size + 1, .slice bo lm.length cb), (w.heap.size, .slice ao la.length ca)] [(.slice bo lm.length cb, lm), (.slice ao la.length ca, la)] _) := Lib.hid ((E3.out.below hb))
  clear E3 hb
  have hfin := Lib.hid E4.out.1
  go_wp2
  go_ret
  exact ⟨rfl, hfin.out⟩
set_option maxRecDepth 100000 in
set_option maxHeartbeats 1000000 in
theorem Divs_e1 (ao : Option Addr) (ca : Nat) (bo : Option Addr) (cb : Nat) (la lm : List Nat)  (w : World) (ha : Sl w (.slice ao la.length ca) la) (hb : Sl w (.slice bo lm.length cb) lm) (hf0 : la.length ≤ 32 ∧ lm.length ≤ 32) (hfs0 : fstc (lm) [la] = 1) :
    Calls Try.prog 7 #[.agg #[.slice ao la.length ca], .agg #[.slice bo lm.length cb]] w fun e w' => e = .returned (.bool true) ∧ Below w.heap.size w w' := by
  have hf := Lib.hid hf0
  have hfs := Lib.hid hfs0
  clear hf0 hfs0
  have E0 : Hid (EnvB w [] [(.slice bo lm.length cb, lm), (.slice ao la.length ca, la)] w) := Lib.hid (((EnvB.start w).num ha).num hb)
  clear ha hb
  go_enter Try.func7, Try.ntmps7
  go_wp2_with fail
  have E1 : Hid (EnvB w [(w.heap.size + 1, .slice bo lm.length cb), (w.heap.size, .slice ao la.length ca)] [(.slice bo lm.length cb, lm), (.slice ao la.length ca, la)] _) := Lib.hid (((E0.out.push (.slice ao la.length ca) 24 ⟨_, _, _, rfl⟩ (w.heap.size) (by simp)).push (.slice bo lm.length cb) 24 ⟨_, _, _, rfl⟩ (w.heap.size + 1) (by simp)))
  refine (awake_c _).mono ?_
  rintro e w1 ⟨rfl, hb⟩
  have E2 : Hid (EnvB w [(w.heap.size + 1, .slice bo lm.length cb), (w.heap.size, .slice ao la.length ca)] [(.slice bo lm.length cb, lm), (.slice ao la.length ca, la)] _) := Lib.hid ((E1.out.below hb))
  clear E1 E0 hb
  obtain ⟨p1, f1, -, -, -⟩ := E2.out.box 1 rfl
  obtain ⟨p2, f2, -, -, -⟩ := E2.out.box 0 rfl
  go_wp2_with fail
  refine (few2_t _ _ _ (la) _ _ _ (lm) 32 _ (E2.out.sl 1 rfl) (E2.out.sl 0 rfl) hf.out _ (by simp)).mono ?_
  rintro e w2 ⟨rfl, hb⟩
  have E3 : Hid (EnvB w [(w.heap.size + 1, .slice bo lm.length cb), (w.heap.size, .slice ao la.length ca)] [(.slice bo lm.length cb, lm), (.slice ao la.length ca, la)] _) := Lib.hid ((E2.out.below hb))
  clear p1 f1 p2 f2 E2 hb
  obtain ⟨p3, f3, -, -, -⟩ := E3.out.box 0 rfl
  obtain ⟨p4, f4, -, -, -⟩ := E3.out.box 1 rfl
  go_wp2_with fail
  refine (first1_c _ _ _ (la) _ _ _ (lm) 1 _ hfs.out (E3.out.sl 0 rfl) (E3.out.sl 1 rfl) _ (by simp)).mono ?_
  rintro e w3 ⟨rfl, hb⟩
  have E4 : Hid (EnvB w [(w.heap.size + 1, .slice bo lm.length cb), (w.heap.size, .slice ao la.length ca)] [(.slice bo lm.length cb, lm), (.slice ao la.length ca, la)] _) := Lib.hid ((E3.out.below hb))
  clear p3 f3 p4 f4 E3 hb
  go_wp2_with fail
  refine (awake_c _).mono ?_
  rintro e w4 ⟨rfl, hb⟩
  have E5 : Hid (EnvB w [(w.heap.size + 1, .slice bo lm.length cb), (w.heap.size, .slice ao la.length ca)] [(.slice bo lm.length cb, lm), (.slice ao la.length ca, la)] _) := Lib.hid ((E4.out.below hb))
  clear E4 hb
  have hfin := Lib.hid E5.out.1
  go_wp2
  go_ret
  exact ⟨rfl, hfin.out⟩
set_option maxRecDepth 100000 in
set_option maxHeartbeats 1000000 in
theorem Divs_e2 (ao : Option Addr) (ca : Nat) (bo : Option Addr) (cb : Nat) (la lm : List Nat)  (w : World) (ha : Sl w (.slice ao la.length ca) la) (hb : Sl w (.slice bo lm.length cb) lm) (hf0 : la.length ≤ 32 ∧ lm.length ≤ 32) (hfs0 : fstc (lm) [la] = 2) :
    Calls Try.prog 7 #[.agg #[.slice ao la.length ca], .agg #[.slice bo lm.length cb]] w fun e w' => e = .returned (.bool true) ∧ Below w.heap.size w w' := by
  have hf := Lib.hid hf0
  have hfs := Lib.hid hfs0
  clear hf0 hfs0
  have E0 : Hid (EnvB w [] [(.slice bo lm.length cb, lm), (.slice ao la.length ca, la)] w) := Lib.hid (((EnvB.start w).num ha).num hb)
  clear ha hb
  go_enter Try.func7, Try.ntmps7
  go_wp2_with fail
  have E1 : Hid (EnvB w [(w.heap.size + 1, .slice bo lm.length cb), (w.heap.size, .slice ao la.length ca)] [(.slice bo lm.length cb, lm), (.slice ao la.length ca, la)] _) := Lib.hid (((E0.out.push (.slice ao la.length ca) 24 ⟨_, _, _, rfl⟩ (w.heap.size) (by simp)).push (.slice bo lm.length cb) 24 ⟨_, _, _, rfl⟩ (w.heap.size + 1) (by simp)))
  refine (awake_c _).mono ?_
  rintro e w1 ⟨rfl, hb⟩
  have E2 : Hid (EnvB w [(w.heap.size + 1, .slice bo lm.length cb), (w.heap.size, .slice ao la.length ca)] [(.slice bo lm.length cb, lm), (.slice ao la.length ca, la)] _) := Lib.hid ((E1.out.below hb))
  clear E1 E0 hb
  obtain ⟨p1, f1, -, -, -⟩ := E2.out.box 1 rfl
  obtain ⟨p2, f2, -, -, -⟩ := E2.out.box 0 rfl
  go_wp2_with fail
  refine (few2_t _ _ _ (la) _ _ _ (lm) 32 _ (E2.out.sl 1 rfl) (E2.out.sl 0 rfl) hf.out _ (by simp)).mono ?_
  rintro e w2 ⟨rfl, hb⟩
  have E3 : Hid (EnvB w [(w.heap.size + 1, .slice bo lm.length cb), (w.heap.size, .slice ao la.length ca)] [(.slice bo lm.length cb, lm), (.slice ao la.length ca, la)] _) := Lib.hid ((E2.out.below hb))
  clear p1 f1 p2 f2 E2 hb
  obtain ⟨p3, f3, -, -, -⟩ := E3.out.box 0 rfl
  obtain ⟨p4, f4, -, -, -⟩ := E3.out.box 1 rfl
  go_wp2_with fail
  refine (first1_c _ _ _ (la) _ _ _ (lm) 2 _ hfs.out (E3.out.sl 0 rfl) (E3.out.sl 1 rfl) _ (by simp)).mono ?_
  rintro e w3 ⟨rfl, hb⟩
  have E4 : Hid (EnvB w [(w.heap.size + 1, .slice bo lm.length cb), (w.heap.size, .slice ao la.length ca)] [(.slice bo lm.length cb, lm), (.slice ao la.length ca, la)] _) := Lib.hid ((E3.out.below hb))
  clear p3 f3 p4 f4 E3 hb
  go_wp2_with fail
  refine (awake_c _).mono ?_
  rintro e w4 ⟨rfl, hb⟩
  have E5 : Hid (EnvB w [(w.heap.size + 1, .slice bo lm.length cb), (w.heap.size, .slice ao la.length ca)] [(.slice bo lm.length cb, lm), (.slice ao la.length ca, la)] _) := Lib.hid ((E4.out.below hb))
  clear E4 hb
  have hfin := Lib.hid E5.out.1
  go_wp2
  go_ret
  exact ⟨rfl, hfin.out⟩
set_option maxRecDepth 100000 in
set_option maxHeartbeats 1000000 in
theorem Divs_n (ao : Option Addr) (ca : Nat) (bo : Option Addr) (cb : Nat) (N M : Nat) (r1 : Nat) (w : World) (ha : Nt w (.slice ao (len N) ca) N) (hb : Nt w (.slice bo (len M) cb) M) (hf0 : len N ≤ 32 ∧ len M ≤ 32) (hfs0 : fstc (digs M) [digs N] = 0) (hn0 : N < M) (hk0 : len M ≤ 32) (n60 : len N ≤ 64) (m60 : len M ≤ 64) (hg0 : Nat.gcd N M = r1) (r60 : len r1 ≤ 64) (r00 : r1 ≠ 0) (sv0 : vld (digs r1) = true) (sl0 : len r1 ≠ 0) (y10 : N % r1 = 0) (y20 : M % r1 = 0) (hi0 : decide (invG N M = 1) = false) (ht0 : decide (r1 = 1) = false) :
    Calls Try.prog 7 #[.agg #[.slice ao (len N) ca], .agg #[.slice bo (len M) cb]] w fun e w' => e = .returned (.bool true) ∧ Below w.heap.size w w' := by
  have hf := Lib.hid hf0
  have hfs := Lib.hid hfs0
  have hn := Lib.hid hn0
  have hk := Lib.hid hk0
  have n6 := Lib.hid n60
  have m6 := Lib.hid m60
  have hg := Lib.hid hg0
  have r6 := Lib.hid r60
  have r0 := Lib.hid r00
  have sv := Lib.hid sv0
  have sl := Lib.hid sl0
  have y1 := Lib.hid y10
  have y2 := Lib.hid y20
  have hi := Lib.hid hi0
  have ht := Lib.hid ht0
  clear hf0 hfs0 hn0 hk0 n60 m60 hg0 r60 r00 sv0 sl0 y10 y20 hi0 ht0
  have E0 : Hid (EnvB w [] [(.slice bo (len M) cb, digs M), (.slice ao (len N) ca, digs N)] w) := Lib.hid (((EnvB.start w).numN ha).numN hb)
  clear ha hb
  go_enter Try.func7, Try.ntmps7
  go_wp2_with fail
  have E1 : Hid (EnvB w [(w.heap.size + 1, .slice bo (len M) cb), (w.heap.size, .slice ao (len N) ca)] [(.slice bo (len M) cb, digs M), (.slice ao (len N) ca, digs N)] _) := Lib.hid (((E0.out.push (.slice ao (len N) ca) 24 ⟨_, _, _, rfl⟩ (w.heap.size) (by simp)).push (.slice bo (len M) cb) 24 ⟨_, _, _, rfl⟩ (w.heap.size + 1) (by simp)))
  refine (awake_c _).mono ?_
  rintro e w1 ⟨rfl, hb⟩
  have E2 : Hid (EnvB w [(w.heap.size + 1, .slice bo (len M) cb), (w.heap.size, .slice ao (len N) ca)] [(.slice bo (len M) cb, digs M), (.slice ao (len N) ca, digs N)] _) := Lib.hid ((E1.out.below hb))
  clear E1 E0 hb
  obtain ⟨p1, f1, -, -, -⟩ := E2.out.box 1 rfl
  obtain ⟨p2, f2, -, -, -⟩ := E2.out.box 0 rfl
  go_wp2_with fail
  refine (few2_t _ _ _ (digs N) _ _ _ (digs M) 32 _ (E2.out.nt 1 rfl) (E2.out.nt 0 rfl) hf.out _ (by simp)).mono ?_
  rintro e w2 ⟨rfl, hb⟩
  have E3 : Hid (EnvB w [(w.heap.size + 1, .slice bo (len M) cb), (w.heap.size, .slice ao (len N) ca)] [(.slice bo (len M) cb, digs M), (.slice ao (len N) ca, digs N)] _) := Lib.hid ((E2.out.below hb))
  clear p1 f1 p2 f2 E2 hb
  obtain ⟨p3, f3, -, -, -⟩ := E3.out.box 0 rfl
  obtain ⟨p4, f4, -, -, -⟩ := E3.out.box 1 rfl
  go_wp2_with fail
  refine (first1_c _ _ _ (digs N) _ _ _ (digs M) 0 _ hfs.out (E3.out.nt 0 rfl) (E3.out.nt 1 rfl) _ (by simp)).mono ?_
  rintro e w3 ⟨rfl, hb⟩
  have E4 : Hid (EnvB w [(w.heap.size + 1, .slice bo (len M) cb), (w.heap.size, .slice ao (len N) ca)] [(.slice bo (len M) cb, digs M), (.slice ao (len N) ca, digs N)] _) := Lib.hid ((E3.out.below hb))
  clear p3 f3 p4 f4 E3 hb
  obtain ⟨p5, f5, -, -, -⟩ := E4.out.box 1 rfl
  obtain ⟨p6, f6, -, -, -⟩ := E4.out.box 0 rfl
  go_wp2_with fail
  refine (gcd_m hg.out n6.out m6.out (E4.out.nt 1 rfl) (E4.out.nt 0 rfl)).mono ?_
  rintro e w4 ⟨⟨dda, ddk, rfl, hdd⟩, hb⟩
  have E5 : Hid (EnvB w [(w.heap.size + 1, .slice bo (len M) cb), (w.heap.size, .slice ao (len N) ca)] [(.slice dda (len r1) ddk, digs r1), (.slice bo (len M) cb, digs M), (.slice ao (len N) ca, digs N)] _) := Lib.hid (((E4.out.below hb).numN (hdd.out : Nt _ _ r1)))
  clear p5 f5 p6 f6 E4 hb hdd
  have E6 : Hid (EnvB w [(w4.heap.size, .slice dda (len r1) ddk), (w.heap.size + 1, .slice bo (len M) cb), (w.heap.size, .slice ao (len N) ca)] [(.slice dda (len r1) ddk, digs r1), (.slice bo (len M) cb, digs M), (.slice ao (len N) ca, digs N)] _) := Lib.hid ((E5.out.push (.slice dda (len r1) ddk) 24 ⟨_, _, _, rfl⟩ (w4.heap.size) (by simp)))
  obtain ⟨p7, f7, -, -, -⟩ := E6.out.box 2 rfl
  obtain ⟨p8, f8, -, -, -⟩ := E6.out.box 1 rfl
  go_wp2_with fail
  refine (inv_n hi.out hn.out hk.out (E6.out.nt 2 rfl) (E6.out.nt 1 rfl)).mono ?_
  rintro e w5 ⟨⟨xxa, xxk, rfl⟩, hb⟩
  have E7 : Hid (EnvB w [(w4.heap.size, .slice dda (len r1) ddk), (w.heap.size + 1, .slice bo (len M) cb), (w.heap.size, .slice ao (len N) ca)] [(.slice dda (len r1) ddk, digs r1), (.slice bo (len M) cb, digs M), (.slice ao (len N) ca, digs N)] _) := Lib.hid ((E6.out.below hb))
  clear p7 f7 p8 f8 E6 E5 hb
  have E8 : Hid (EnvB w [(w5.heap.size, .slice xxa 0 xxk), (w4.heap.size, .slice dda (len r1) ddk), (w.heap.size + 1, .slice bo (len M) cb), (w.heap.size, .slice ao (len N) ca)] [(.slice dda (len r1) ddk, digs r1), (.slice bo (len M) cb, digs M), (.slice ao (len N) ca, digs N)] _) := Lib.hid ((E7.out.push (.slice xxa 0 xxk) 24 ⟨_, _, _, rfl⟩ (w5.heap.size) (by simp)))
  obtain ⟨p9, f9, -, -, -⟩ := E8.out.box 1 rfl
  go_wp2_with fail
  refine (rValid_of sv.out (E8.out.nt 0 rfl)).mono ?_
  rintro e w6 ⟨rfl, hb⟩
  have E9 : Hid (EnvB w [(w5.heap.size, .slice xxa 0 xxk), (w4.heap.size, .slice dda (len r1) ddk), (w.heap.size + 1, .slice bo (len M) cb), (w.heap.size, .slice ao (len N) ca)] [(.slice dda (len r1) ddk, digs r1), (.slice bo (len M) cb, digs M), (.slice ao (len N) ca, digs N)] _) := Lib.hid ((E8.out.below hb))
  clear p9 f9 E8 E7 hb
  obtain ⟨p10, f10, -, -, -⟩ := E9.out.box 1 rfl
  obtain ⟨p11, f11, -, -, -⟩ := E9.out.box 3 rfl
  obtain ⟨p12, f12, -, -, -⟩ := E9.out.box 2 rfl
  go_wp2_with fail
  all_goals (try (exfalso; have hw4 := sl.out; have hw5 := eq_of_beq ‹(((len r1 : Nat) : Int) == 0) = true›; omega))
  have E10 : Hid (EnvB w [(w5.heap.size, .slice xxa 0 xxk), (w4.heap.size, .slice dda (len r1) ddk), (w.heap.size + 1, .slice bo (len M) cb), (w.heap.size, .slice ao (len N) ca)] [(.slice dda (len r1) ddk, digs r1), (.slice bo (len M) cb, digs M), (.slice ao (len N) ca, digs N)] (w6.alloc (.cells #[.slice ao (len N) ca, .slice bo (len M) cb] 24))) := Lib.hid (E9.out.alloc _)
  have RW : Hid (Two w6.heap.size (.slice ao (len N) ca) (.slice bo (len M) cb) (w6.alloc (.cells #[.slice ao (len N) ca, .slice bo (len M) cb] 24))) := Lib.hid (Two.mk2 (sl_len ((E9.out.nt 2 rfl))) (sl_len ((E9.out.nt 1 rfl))))
  clear p10 f10 p11 f11 p12 f12 E9
  refine wp_loop_rounds 3 ?_
  rw [rounds_succ]
  obtain ⟨-, q00, q01⟩ := RW.out
  have RW2 : Hid (Two w6.heap.size (.slice ao (len N) ca) (.slice bo (len M) cb) ((w6.alloc (.cells #[.slice ao (len N) ca, .slice bo (len M) cb] 24)).alloc (.cells #[.slice ao (len N) ca] 24))) := Lib.hid (RW.out.below (below_one _ _))
  clear RW
  have RW := RW2
  clear RW2
  have E11 : Hid (EnvB w [(w6.heap.size + 1, .slice ao (len N) ca), (w5.heap.size, .slice xxa 0 xxk), (w4.heap.size, .slice dda (len r1) ddk), (w.heap.size + 1, .slice bo (len M) cb), (w.heap.size, .slice ao (len N) ca)] [(.slice dda (len r1) ddk, digs r1), (.slice bo (len M) cb, digs M), (.slice ao (len N) ca, digs N)] _) := Lib.hid ((E10.out.push (.slice ao (len N) ca) 24 ⟨_, _, _, rfl⟩ (w6.heap.size + 1) (by simp)))
  obtain ⟨p13, f13, -, -, -⟩ := E11.out.box 2 rfl
  go_wp2_with fail
  refine (div_zr y1.out n6.out r6.out r0.out (E11.out.nt 2 rfl) (E11.out.nt 0 rfl)).mono ?_
  rintro e w7 ⟨⟨z0n, z0a, z0k, z0ra, z0rk, rfl⟩, hb⟩
  have RW2 := Lib.hid (RW.out.below hb)
  clear RW
  have RW := RW2
  clear RW2
  have E12 : Hid (EnvB w [(w6.heap.size + 1, .slice ao (len N) ca), (w5.heap.size, .slice xxa 0 xxk), (w4.heap.size, .slice dda (len r1) ddk), (w.heap.size + 1, .slice bo (len M) cb), (w.heap.size, .slice ao (len N) ca)] [(.slice dda (len r1) ddk, digs r1), (.slice bo (len M) cb, digs M), (.slice ao (len N) ca, digs N)] _) := Lib.hid ((E11.out.below hb))
  clear p13 f13 E11 q00 q01 E10 hb
  go_wp2_with fail
  rw [rounds_succ]
  have RW2 : Hid (Two w6.heap.size (.slice ao (len N) ca) (.slice bo (len M) cb) ((w7.alloc (.cells #[.slice z0a z0n z0k] 24)).alloc (.cells #[.slice z0ra 0 z0rk] 24))) := Lib.hid ((RW.out.below (below_one _ _)).below (below_one _ _))
  clear RW
  have RW := RW2
  clear RW2
  have E13 : Hid (EnvB w [(w7.heap.size + 1, .slice z0ra 0 z0rk), (w7.heap.size, .slice z0a z0n z0k), (w6.heap.size + 1, .slice ao (len N) ca), (w5.heap.size, .slice xxa 0 xxk), (w4.heap.size, .slice dda (len r1) ddk), (w.heap.size + 1, .slice bo (len M) cb), (w.heap.size, .slice ao (len N) ca)] [(.slice dda (len r1) ddk, digs r1), (.slice bo (len M) cb, digs M), (.slice ao (len N) ca, digs N)] _) := Lib.hid (((E12.out.push (.slice z0a z0n z0k) 24 ⟨_, _, _, rfl⟩ (w7.heap.size) (by simp)).push (.slice z0ra 0 z0rk) 24 ⟨_, _, _, rfl⟩ (w7.heap.size + 1) (by simp)))
  obtain ⟨-, q10, q11⟩ := RW.out
  have RW2 : Hid (Two w6.heap.size (.slice ao (len N) ca) (.slice bo (len M) cb) (((w7.alloc (.cells #[.slice z0a z0n z0k] 24)).alloc (.cells #[.slice z0ra 0 z0rk] 24)).alloc (.cells #[.slice bo (len M) cb] 24))) := Lib.hid (RW.out.below (below_one _ _))
  clear RW
  have RW := RW2
  clear RW2
  have E14 : Hid (EnvB w [(w7.heap.size + 1 + 1, .slice bo (len M) cb), (w7.heap.size + 1, .slice z0ra 0 z0rk), (w7.heap.size, .slice z0a z0n z0k), (w6.heap.size + 1, .slice ao (len N) ca), (w5.heap.size, .slice xxa 0 xxk), (w4.heap.size, .slice dda (len r1) ddk), (w.heap.size + 1, .slice bo (len M) cb), (w.heap.size, .slice ao (len N) ca)] [(.slice dda (len r1) ddk, digs r1), (.slice bo (len M) cb, digs M), (.slice ao (len N) ca, digs N)] _) := Lib.hid ((E13.out.push (.slice bo (len M) cb) 24 ⟨_, _, _, rfl⟩ (w7.heap.size + 1 + 1) (by simp)))
  obtain ⟨p14, f14, -, -, -⟩ := E14.out.box 5 rfl
  go_wp2_with fail
  refine (div_zr y2.out m6.out r6.out r0.out (E14.out.nt 1 rfl) (E14.out.nt 0 rfl)).mono ?_
  rintro e w8 ⟨⟨z1n, z1a, z1k, z1ra, z1rk, rfl⟩, hb⟩
  have RW2 := Lib.hid (RW.out.below hb)
  clear RW
  have RW := RW2
  clear RW2
  have E15 : Hid (EnvB w [(w7.heap.size + 1 + 1, .slice bo (len M) cb), (w7.heap.size + 1, .slice z0ra 0 z0rk), (w7.heap.size, .slice z0a z0n z0k), (w6.heap.size + 1, .slice ao (len N) ca), (w5.heap.size, .slice xxa 0 xxk), (w4.heap.size, .slice dda (len r1) ddk), (w.heap.size + 1, .slice bo (len M) cb), (w.heap.size, .slice ao (len N) ca)] [(.slice dda (len r1) ddk, digs r1), (.slice bo (len M) cb, digs M), (.slice ao (len N) ca, digs N)] _) := Lib.hid ((E14.out.below hb))
  clear p14 f14 E14 E12 q10 q11 E13 hb
  go_wp2_with fail
  rw [rounds_succ]
  have E16 : Hid (EnvB w [(w8.heap.size + 1, .slice z1ra 0 z1rk), (w8.heap.size, .slice z1a z1n z1k), (w7.heap.size + 1 + 1, .slice bo (len M) cb), (w7.heap.size + 1, .slice z0ra 0 z0rk), (w7.heap.size, .slice z0a z0n z0k), (w6.heap.size + 1, .slice ao (len N) ca), (w5.heap.size, .slice xxa 0 xxk), (w4.heap.size, .slice dda (len r1) ddk), (w.heap.size + 1, .slice bo (len M) cb), (w.heap.size, .slice ao (len N) ca)] [(.slice dda (len r1) ddk, digs r1), (.slice bo (len M) cb, digs M), (.slice ao (len N) ca, digs N)] _) := Lib.hid (((E15.out.push (.slice z1a z1n z1k) 24 ⟨_, _, _, rfl⟩ (w8.heap.size) (by simp)).push (.slice z1ra 0 z1rk) 24 ⟨_, _, _, rfl⟩ (w8.heap.size + 1) (by simp)))
  obtain ⟨p15, f15, -, -, -⟩ := E16.out.box 7 rfl
  go_wp2_with fail
  have E17 : Hid (EnvB w [(w8.heap.size + 1, .slice z1ra 0 z1rk), (w8.heap.size, .slice z1a z1n z1k), (w7.heap.size + 1 + 1, .slice bo (len M) cb), (w7.heap.size + 1, .slice z0ra 0 z0rk), (w7.heap.size, .slice z0a z0n z0k), (w6.heap.size + 1, .slice ao (len N) ca), (w5.heap.size, .slice xxa 0 xxk), (w4.heap.size, .slice dda (len r1) ddk), (w.heap.size + 1, .slice bo (len M) cb), (w.heap.size, .slice ao (len N) ca)] [(.slice (some ⟨w8.heap.size + 1 + 1, 0, none⟩) 1 1, digs 1), (.slice dda (len r1) ddk, digs r1), (.slice bo (len M) cb, digs M), (.slice ao (len N) ca, digs N)] _) := Lib.hid ((E16.out.words #[.int .u32 1] [1] 1 rfl (digs_of [1] 1 (by decide) (by decide) (by decide)) (w8.heap.size + 1 + 1) (by simp)))
  refine (equal_n2 ht.out (E17.out.nt 1 rfl) (E17.out.nt 0 rfl)).mono ?_
  rintro e w9 ⟨rfl, hb⟩
  have E18 : Hid (EnvB w [(w8.heap.size + 1, .slice z1ra 0 z1rk), (w8.heap.size, .slice z1a z1n z1k), (w7.heap.size + 1 + 1, .slice bo (len M) cb), (w7.heap.size + 1, .slice z0ra 0 z0rk), (w7.heap.size, .slice z0a z0n z0k), (w6.heap.size + 1, .slice ao (len N) ca), (w5.heap.size, .slice xxa 0 xxk), (w4.heap.size, .slice dda (len r1) ddk), (w.heap.size + 1, .slice bo (len M) cb), (w.heap.size, .slice ao (len N) ca)] [(.slice (some ⟨w8.heap.size + 1 + 1, 0, none⟩) 1 1, digs 1), (.slice dda (len r1) ddk, digs r1), (.slice bo (len M) cb, digs M), (.slice ao (len N) ca, digs N)] _) := Lib.hid ((E17.out.below hb))
  clear p15 f15 E17 E15 E16 hb
  obtain ⟨p16, f16, -, -, -⟩ := E18.out.box 6 rfl
  have hfin := Lib.hid E18.out.1
  go_wp2
  go_ret
  exact ⟨rfl, hfin.out⟩
set_option maxRecDepth 100000 in
set_option maxHeartbeats 1000000 in
theorem Divs_ok (ao : Option Addr) (ca : Nat) (bo : Option Addr) (cb : Nat) (N M : Nat) (r1 v1 o1 : Nat) (w : World) (ha : Nt w (.slice ao (len N) ca) N) (hb : Nt w (.slice bo (len M) cb) M) (hf0 : len N ≤ 32 ∧ len M ≤ 32) (hfs0 : fstc (digs M) [digs N] = 0) (hn0 : N < M) (hk0 : len M ≤ 32) (n60 : len N ≤ 64) (m60 : len M ≤ 64) (hg0 : Nat.gcd N M = r1) (r60 : len r1 ≤ 64) (r00 : r1 ≠ 0) (sv0 : vld (digs r1) = true) (sl0 : len r1 ≠ 0) (y10 : N % r1 = 0) (y20 : M % r1 = 0) (hi0 : decide (invG N M = 1) = true) (hV0 : invV N M = v1) (vv0 : vld (digs v1) = true) (vl0 : v1 < M) (hvl0 : decide (v1 < M) = true) (ho0 : N * v1 % M = o1) (ho20 : 1 % M = o1) (ht0 : decide (r1 = 1) = true) (l10 : len 1 ≤ 2000) (m00 : M ≠ 0) (m50 : len M ≤ 5000) :
    Calls Try.prog 7 #[.agg #[.slice ao (len N) ca], .agg #[.slice bo (len M) cb]] w fun e w' => e = .returned (.bool true) ∧ Below w.heap.size w w' := by
  have hf := Lib.hid hf0
  have hfs := Lib.hid hfs0
  have hn := Lib.hid hn0
  have hk := Lib.hid hk0
  have n6 := Lib.hid n60
  have m6 := Lib.hid m60
  have hg := Lib.hid hg0
  have r6 := Lib.hid r60
  have r0 := Lib.hid r00
  have sv := Lib.hid sv0
  have sl := Lib.hid sl0
  have y1 := Lib.hid y10
  have y2 := Lib.hid y20
  have hi := Lib.hid hi0
  have hV := Lib.hid hV0
  have vv := Lib.hid vv0
  have vl := Lib.hid vl0
  have hvl := Lib.hid hvl0
  have ho := Lib.hid ho0
  have ho2 := Lib.hid ho20
  have ht := Lib.hid ht0
  have l1 := Lib.hid l10
  have m0 := Lib.hid m00
  have m5 := Lib.hid m50
  clear hf0 hfs0 hn0 hk0 n60 m60 hg0 r60 r00 sv0 sl0 y10 y20 hi0 hV0 vv0 vl0 hvl0 ho0 ho20 ht0 l10 m00 m50
  have E0 : Hid (EnvB w [] [(.slice bo (len M) cb, digs M), (.slice ao (len N) ca, digs N)] w) := Lib.hid (((EnvB.start w).numN ha).numN hb)
  clear ha hb
  go_enter Try.func7, Try.ntmps7
  go_wp2_with fail
  have E1 : Hid (EnvB w [(w.heap.size + 1, .slice bo (len M) cb), (w.heap.size, .slice ao (len N) ca)] [(.slice bo (len M) cb, digs M), (.slice ao (len N) ca, digs N)] _) := Lib.hid (((E0.out.push (.slice ao (len N) ca) 24 ⟨_, _, _, rfl⟩ (w.heap.size) (by simp)).push (.slice bo (len M) cb) 24 ⟨_, _, _, rfl⟩ (w.heap.size + 1) (by simp)))
  refine (awake_c _).mono ?_
  rintro e w1 ⟨rfl, hb⟩
  have E2 : Hid (EnvB w [(w.heap.size + 1, .slice bo (len M) cb), (w.heap.size, .slice ao (len N) ca)] [(.slice bo (len M) cb, digs M), (.slice ao (len N) ca, digs N)] _) := Lib.hid ((E1.out.below hb))
  clear E1 E0 hb
  obtain ⟨p1, f1, -, -, -⟩ := E2.out.box 1 rfl
  obtain ⟨p2, f2, -, -, -⟩ := E2.out.box 0 rfl
  go_wp2_with fail
  refine (few2_t _ _ _ (digs N) _ _ _ (digs M) 32 _ (E2.out.nt 1 rfl) (E2.out.nt 0 rfl) hf.out _ (by simp)).mono ?_
  rintro e w2 ⟨rfl, hb⟩
  have E3 : Hid (EnvB w [(w.heap.size + 1, .slice bo (len M) cb), (w.heap.size, .slice ao (len N) ca)] [(.slice bo (len M) cb, digs M), (.slice ao (len N) ca, digs N)] _) := Lib.hid ((E2.out.below hb))
  clear p1 f1 p2 f2 E2 hb
  obtain ⟨p3, f3, -, -, -⟩ := E3.out.box 0 rfl
  obtain ⟨p4, f4, -, -, -⟩ := E3.out.box 1 rfl
  go_wp2_with fail
  refine (first1_c _ _ _ (digs N) _ _ _ (digs M) 0 _ hfs.out (E3.out.nt 0 rfl) (E3.out.nt 1 rfl) _ (by simp)).mono ?_
  rintro e w3 ⟨rfl, hb⟩
  have E4 : Hid (EnvB w [(w.heap.size + 1, .slice bo (len M) cb), (w.heap.size, .slice ao (len N) ca)] [(.slice bo (len M) cb, digs M), (.slice ao (len N) ca, digs N)] _) := Lib.hid ((E3.out.below hb))
  clear p3 f3 p4 f4 E3 hb
  obtain ⟨p5, f5, -, -, -⟩ := E4.out.box 1 rfl
  obtain ⟨p6, f6, -, -, -⟩ := E4.out.box 0 rfl
  go_wp2_with fail
  refine (gcd_m hg.out n6.out m6.out (E4.out.nt 1 rfl) (E4.out.nt 0 rfl)).mono ?_
  rintro e w4 ⟨⟨dda, ddk, rfl, hdd⟩, hb⟩
  have E5 : Hid (EnvB w [(w.heap.size + 1, .slice bo (len M) cb), (w.heap.size, .slice ao (len N) ca)] [(.slice dda (len r1) ddk, digs r1), (.slice bo (len M) cb, digs M), (.slice ao (len N) ca, digs N)] _) := Lib.hid (((E4.out.below hb).numN (hdd.out : Nt _ _ r1)))
  clear p5 f5 p6 f6 E4 hb hdd
  have E6 : Hid (EnvB w [(w4.heap.size, .slice dda (len r1) ddk), (w.heap.size + 1, .slice bo (len M) cb), (w.heap.size, .slice ao (len N) ca)] [(.slice dda (len r1) ddk, digs r1), (.slice bo (len M) cb, digs M), (.slice ao (len N) ca, digs N)] _) := Lib.hid ((E5.out.push (.slice dda (len r1) ddk) 24 ⟨_, _, _, rfl⟩ (w4.heap.size) (by simp)))
  obtain ⟨p7, f7, -, -, -⟩ := E6.out.box 2 rfl
  obtain ⟨p8, f8, -, -, -⟩ := E6.out.box 1 rfl
  go_wp2_with fail
  refine (inv_m hV.out hi.out hn.out hk.out (E6.out.nt 2 rfl) (E6.out.nt 1 rfl)).mono ?_
  rintro e w5 ⟨⟨xxa, xxk, rfl, hxx⟩, hb⟩
  have E7 : Hid (EnvB w [(w4.heap.size, .slice dda (len r1) ddk), (w.heap.size + 1, .slice bo (len M) cb), (w.heap.size, .slice ao (len N) ca)] [(.slice xxa (len v1) xxk, digs v1), (.slice dda (len r1) ddk, digs r1), (.slice bo (len M) cb, digs M), (.slice ao (len N) ca, digs N)] _) := Lib.hid (((E6.out.below hb).numN (hxx.out : Nt _ _ v1)))
  clear p7 f7 p8 f8 E6 E5 hb hxx
  have E8 : Hid (EnvB w [(w5.heap.size, .slice xxa (len v1) xxk), (w4.heap.size, .slice dda (len r1) ddk), (w.heap.size + 1, .slice bo (len M) cb), (w.heap.size, .slice ao (len N) ca)] [(.slice xxa (len v1) xxk, digs v1), (.slice dda (len r1) ddk, digs r1), (.slice bo (len M) cb, digs M), (.slice ao (len N) ca, digs N)] _) := Lib.hid ((E7.out.push (.slice xxa (len v1) xxk) 24 ⟨_, _, _, rfl⟩ (w5.heap.size) (by simp)))
  obtain ⟨p9, f9, -, -, -⟩ := E8.out.box 1 rfl
  go_wp2_with fail
  refine (rValid_of sv.out (E8.out.nt 1 rfl)).mono ?_
  rintro e w6 ⟨rfl, hb⟩
  have E9 : Hid (EnvB w [(w5.heap.size, .slice xxa (len v1) xxk), (w4.heap.size, .slice dda (len r1) ddk), (w.heap.size + 1, .slice bo (len M) cb), (w.heap.size, .slice ao (len N) ca)] [(.slice xxa (len v1) xxk, digs v1), (.slice dda (len r1) ddk, digs r1), (.slice bo (len M) cb, digs M), (.slice ao (len N) ca, digs N)] _) := Lib.hid ((E8.out.below hb))
  clear p9 f9 E8 E7 hb
  obtain ⟨p10, f10, -, -, -⟩ := E9.out.box 1 rfl
  obtain ⟨p11, f11, -, -, -⟩ := E9.out.box 3 rfl
  obtain ⟨p12, f12, -, -, -⟩ := E9.out.box 2 rfl
  go_wp2_with fail
  all_goals (try (exfalso; have hw4 := sl.out; have hw5 := eq_of_beq ‹(((len r1 : Nat) : Int) == 0) = true›; omega))
  have E10 : Hid (EnvB w [(w5.heap.size, .slice xxa (len v1) xxk), (w4.heap.size, .slice dda (len r1) ddk), (w.heap.size + 1, .slice bo (len M) cb), (w.heap.size, .slice ao (len N) ca)] [(.slice xxa (len v1) xxk, digs v1), (.slice dda (len r1) ddk, digs r1), (.slice bo (len M) cb, digs M), (.slice ao (len N) ca, digs N)] (w6.alloc (.cells #[.slice ao (len N) ca, .slice bo (len M) cb] 24))) := Lib.hid (E9.out.alloc _)
  have RW : Hid (Two w6.heap.size (.slice ao (len N) ca) (.slice bo (len M) cb) (w6.alloc (.cells #[.slice ao (len N) ca, .slice bo (len M) cb] 24))) := Lib.hid (Two.mk2 (sl_len ((E9.out.nt 3 rfl))) (sl_len ((E9.out.nt 2 rfl))))
  clear p10 f10 p11 f11 p12 f12 E9
  refine wp_loop_rounds 3 ?_
  rw [rounds_succ]
  obtain ⟨-, q00, q01⟩ := RW.out
  have RW2 : Hid (Two w6.heap.size (.slice ao (len N) ca) (.slice bo (len M) cb) ((w6.alloc (.cells #[.slice ao (len N) ca, .slice bo (len M) cb] 24)).alloc (.cells #[.slice ao (len N) ca] 24))) := Lib.hid (RW.out.below (below_one _ _))
  clear RW
  have RW := RW2
  clear RW2
  have E11 : Hid (EnvB w [(w6.heap.size + 1, .slice ao (len N) ca), (w5.heap.size, .slice xxa (len v1) xxk), (w4.heap.size, .slice dda (len r1) ddk), (w.heap.size + 1, .slice bo (len M) cb), (w.heap.size, .slice ao (len N) ca)] [(.slice xxa (len v1) xxk, digs v1), (.slice dda (len r1) ddk, digs r1), (.slice bo (len M) cb, digs M), (.slice ao (len N) ca, digs N)] _) := Lib.hid ((E10.out.push (.slice ao (len N) ca) 24 ⟨_, _, _, rfl⟩ (w6.heap.size + 1) (by simp)))
  obtain ⟨p13, f13, -, -, -⟩ := E11.out.box 2 rfl
  go_wp2_with fail
  refine (div_zr y1.out n6.out r6.out r0.out (E11.out.nt 3 rfl) (E11.out.nt 1 rfl)).mono ?_
  rintro e w7 ⟨⟨z0n, z0a, z0k, z0ra, z0rk, rfl⟩, hb⟩
  have RW2 := Lib.hid (RW.out.below hb)
  clear RW
  have RW := RW2
  clear RW2
  have E12 : Hid (EnvB w [(w6.heap.size + 1, .slice ao (len N) ca), (w5.heap.size, .slice xxa (len v1) xxk), (w4.heap.size, .slice dda (len r1) ddk), (w.heap.size + 1, .slice bo (len M) cb), (w.heap.size, .slice ao (len N) ca)] [(.slice xxa (len v1) xxk, digs v1), (.slice dda (len r1) ddk, digs r1), (.slice bo (len M) cb, digs M), (.slice ao (len N) ca, digs N)] _) := Lib.hid ((E11.out.below hb))
  clear p13 f13 E11 q00 q01 E10 hb
  go_wp2_with fail
  rw [rounds_succ]
  have RW2 : Hid (Two w6.heap.size (.slice ao (len N) ca) (.slice bo (len M) cb) ((w7.alloc (.cells #[.slice z0a z0n z0k] 24)).alloc (.cells #[.slice z0ra 0 z0rk] 24))) := Lib.hid ((RW.out.below (below_one _ _)).below (below_one _ _))
  clear RW
  have RW := RW2
  clear RW2
  have E13 : Hid (EnvB w [(w7.heap.size + 1, .slice z0ra 0 z0rk), (w7.heap.size, .slice z0a z0n z0k), (w6.heap.size + 1, .slice ao (len N) ca), (w5.heap.size, .slice xxa (len v1) xxk), (w4.heap.size, .slice dda (len r1) ddk), (w.heap.size + 1, .slice bo (len M) cb), (w.heap.size, .slice ao (len N) ca)] [(.slice xxa (len v1) xxk, digs v1), (.slice dda (len r1) ddk, digs r1), (.slice bo (len M) cb, digs M), (.slice ao (len N) ca, digs N)] _) := Lib.hid (((E12.out.push (.slice z0a z0n z0k) 24 ⟨_, _, _, rfl⟩ (w7.heap.size) (by simp)).push (.slice z0ra 0 z0rk) 24 ⟨_, _, _, rfl⟩ (w7.heap.size + 1) (by simp)))
  obtain ⟨-, q10, q11⟩ := RW.out
  have RW2 : Hid (Two w6.heap.size (.slice ao (len N) ca) (.slice bo (len M) cb) (((w7.alloc (.cells #[.slice z0a z0n z0k] 24)).alloc (.cells #[.slice z0ra 0 z0rk] 24)).alloc (.cells #[.slice bo (len M) cb] 24))) := Lib.hid (RW.out.below (below_one _ _))
  clear RW
  have RW := RW2
  clear RW2
  have E14 : Hid (EnvB w [(w7.heap.size + 1 + 1, .slice bo (len M) cb), (w7.heap.size + 1, .slice z0ra 0 z0rk), (w7.heap.size, .slice z0a z0n z0k), (w6.heap.size + 1, .slice ao (len N) ca), (w5.heap.size, .slice xxa (len v1) xxk), (w4.heap.size, .slice dda (len r1) ddk), (w.heap.size + 1, .slice bo (len M) cb), (w.heap.size, .slice ao (len N) ca)] [(.slice xxa (len v1) xxk, digs v1), (.slice dda (len r1) ddk, digs r1), (.slice bo (len M) cb, digs M), (.slice ao (len N) ca, digs N)] _) := Lib.hid ((E13.out.push (.slice bo (len M) cb) 24 ⟨_, _, _, rfl⟩ (w7.heap.size + 1 + 1) (by simp)))
  obtain ⟨p14, f14, -, -, -⟩ := E14.out.box 5 rfl
  go_wp2_with fail
  refine (div_zr y2.out m6.out r6.out r0.out (E14.out.nt 2 rfl) (E14.out.nt 1 rfl)).mono ?_
  rintro e w8 ⟨⟨z1n, z1a, z1k, z1ra, z1rk, rfl⟩, hb⟩
  have RW2 := Lib.hid (RW.out.below hb)
  clear RW
  have RW := RW2
  clear RW2
  have E15 : Hid (EnvB w [(w7.heap.size + 1 + 1, .slice bo (len M) cb), (w7.heap.size + 1, .slice z0ra 0 z0rk), (w7.heap.size, .slice z0a z0n z0k), (w6.heap.size + 1, .slice ao (len N) ca), (w5.heap.size, .slice xxa (len v1) xxk), (w4.heap.size, .slice dda (len r1) ddk), (w.heap.size + 1, .slice bo (len M) cb), (w.heap.size, .slice ao (len N) ca)] [(.slice xxa (len v1) xxk, digs v1), (.slice dda (len r1) ddk, digs r1), (.slice bo (len M) cb, digs M), (.slice ao (len N) ca, digs N)] _) := Lib.hid ((E14.out.below hb))
  clear p14 f14 E14 E12 q10 q11 E13 hb
  go_wp2_with fail
  rw [rounds_succ]
  have E16 : Hid (EnvB w [(w8.heap.size + 1, .slice z1ra 0 z1rk), (w8.heap.size, .slice z1a z1n z1k), (w7.heap.size + 1 + 1, .slice bo (len M) cb), (w7.heap.size + 1, .slice z0ra 0 z0rk), (w7.heap.size, .slice z0a z0n z0k), (w6.heap.size + 1, .slice ao (len N) ca), (w5.heap.size, .slice xxa (len v1) xxk), (w4.heap.size, .slice dda (len r1) ddk), (w.heap.size + 1, .slice bo (len M) cb), (w.heap.size, .slice ao (len N) ca)] [(.slice xxa (len v1) xxk, digs v1), (.slice dda (len r1) ddk, digs r1), (.slice bo (len M) cb, digs M), (.slice ao (len N) ca, digs N)] _) := Lib.hid (((E15.out.push (.slice z1a z1n z1k) 24 ⟨_, _, _, rfl⟩ (w8.heap.size) (by simp)).push (.slice z1ra 0 z1rk) 24 ⟨_, _, _, rfl⟩ (w8.heap.size + 1) (by simp)))
  obtain ⟨p15, f15, -, -, -⟩ := E16.out.box 7 rfl
  go_wp2_with fail
  have E17 : Hid (EnvB w [(w8.heap.size + 1, .slice z1ra 0 z1rk), (w8.heap.size, .slice z1a z1n z1k), (w7.heap.size + 1 + 1, .slice bo (len M) cb), (w7.heap.size + 1, .slice z0ra 0 z0rk), (w7.heap.size, .slice z0a z0n z0k), (w6.heap.size + 1, .slice ao (len N) ca), (w5.heap.size, .slice xxa (len v1) xxk), (w4.heap.size, .slice dda (len r1) ddk), (w.heap.size + 1, .slice bo (len M) cb), (w.heap.size, .slice ao (len N) ca)] [(.slice (some ⟨w8.heap.size + 1 + 1, 0, none⟩) 1 1, digs 1), (.slice xxa (len v1) xxk, digs v1), (.slice dda (len r1) ddk, digs r1), (.slice bo (len M) cb, digs M), (.slice ao (len N) ca, digs N)] _) := Lib.hid ((E16.out.words #[.int .u32 1] [1] 1 rfl (digs_of [1] 1 (by decide) (by decide) (by decide)) (w8.heap.size + 1 + 1) (by simp)))
  refine (equal_n2 ht.out (E17.out.nt 2 rfl) (E17.out.nt 0 rfl)).mono ?_
  rintro e w9 ⟨rfl, hb⟩
  have E18 : Hid (EnvB w [(w8.heap.size + 1, .slice z1ra 0 z1rk), (w8.heap.size, .slice z1a z1n z1k), (w7.heap.size + 1 + 1, .slice bo (len M) cb), (w7.heap.size + 1, .slice z0ra 0 z0rk), (w7.heap.size, .slice z0a z0n z0k), (w6.heap.size + 1, .slice ao (len N) ca), (w5.heap.size, .slice xxa (len v1) xxk), (w4.heap.size, .slice dda (len r1) ddk), (w.heap.size + 1, .slice bo (len M) cb), (w.heap.size, .slice ao (len N) ca)] [(.slice (some ⟨w8.heap.size + 1 + 1, 0, none⟩) 1 1, digs 1), (.slice xxa (len v1) xxk, digs v1), (.slice dda (len r1) ddk, digs r1), (.slice bo (len M) cb, digs M), (.slice ao (len N) ca, digs N)] _) := Lib.hid ((E17.out.below hb))
  clear p15 f15 E17 E15 E16 hb
  obtain ⟨p16, f16, -, -, -⟩ := E18.out.box 6 rfl
  go_wp2_with fail
  refine (rValid_of vv.out (E18.out.nt 1 rfl)).mono ?_
  rintro e w10 ⟨rfl, hb⟩
  have E19 : Hid (EnvB w [(w8.heap.size + 1, .slice z1ra 0 z1rk), (w8.heap.size, .slice z1a z1n z1k), (w7.heap.size + 1 + 1, .slice bo (len M) cb), (w7.heap.size + 1, .slice z0ra 0 z0rk), (w7.heap.size, .slice z0a z0n z0k), (w6.heap.size + 1, .slice ao (len N) ca), (w5.heap.size, .slice xxa (len v1) xxk), (w4.heap.size, .slice dda (len r1) ddk), (w.heap.size + 1, .slice bo (len M) cb), (w.heap.size, .slice ao (len N) ca)] [(.slice (some ⟨w8.heap.size + 1 + 1, 0, none⟩) 1 1, digs 1), (.slice xxa (len v1) xxk, digs v1), (.slice dda (len r1) ddk, digs r1), (.slice bo (len M) cb, digs M), (.slice ao (len N) ca, digs N)] _) := Lib.hid ((E18.out.below hb))
  clear p16 f16 E18 hb
  obtain ⟨p17, f17, -, -, -⟩ := E19.out.box 6 rfl
  obtain ⟨p18, f18, -, -, -⟩ := E19.out.box 8 rfl
  go_wp2_with fail
  refine (rLess_c hvl.out (E19.out.nt 1 rfl) (E19.out.nt 3 rfl)).mono ?_
  rintro e w11 ⟨rfl, hb⟩
  have E20 : Hid (EnvB w [(w8.heap.size + 1, .slice z1ra 0 z1rk), (w8.heap.size, .slice z1a z1n z1k), (w7.heap.size + 1 + 1, .slice bo (len M) cb), (w7.heap.size + 1, .slice z0ra 0 z0rk), (w7.heap.size, .slice z0a z0n z0k), (w6.heap.size + 1, .slice ao (len N) ca), (w5.heap.size, .slice xxa (len v1) xxk), (w4.heap.size, .slice dda (len r1) ddk), (w.heap.size + 1, .slice bo (len M) cb), (w.heap.size, .slice ao (len N) ca)] [(.slice (some ⟨w8.heap.size + 1 + 1, 0, none⟩) 1 1, digs 1), (.slice xxa (len v1) xxk, digs v1), (.slice dda (len r1) ddk, digs r1), (.slice bo (len M) cb, digs M), (.slice ao (len N) ca, digs N)] _) := Lib.hid ((E19.out.below hb))
  clear p17 f17 p18 f18 E19 hb
  obtain ⟨p19, f19, -, -, -⟩ := E20.out.box 9 rfl
  obtain ⟨p20, f20, -, -, -⟩ := E20.out.box 6 rfl
  obtain ⟨p21, f21, -, -, -⟩ := E20.out.box 8 rfl
  go_wp2_with fail
  refine (mul_m ho.out hn.out vl.out hk.out (E20.out.nt 4 rfl) (E20.out.nt 1 rfl) (E20.out.nt 3 rfl)).mono ?_
  rintro e w12 ⟨⟨ooa, ook, rfl, hoo⟩, hb⟩
  have E21 : Hid (EnvB w [(w8.heap.size + 1, .slice z1ra 0 z1rk), (w8.heap.size, .slice z1a z1n z1k), (w7.heap.size + 1 + 1, .slice bo (len M) cb), (w7.heap.size + 1, .slice z0ra 0 z0rk), (w7.heap.size, .slice z0a z0n z0k), (w6.heap.size + 1, .slice ao (len N) ca), (w5.heap.size, .slice xxa (len v1) xxk), (w4.heap.size, .slice dda (len r1) ddk), (w.heap.size + 1, .slice bo (len M) cb), (w.heap.size, .slice ao (len N) ca)] [(.slice ooa (len o1) ook, digs o1), (.slice (some ⟨w8.heap.size + 1 + 1, 0, none⟩) 1 1, digs 1), (.slice xxa (len v1) xxk, digs v1), (.slice dda (len r1) ddk, digs r1), (.slice bo (len M) cb, digs M), (.slice ao (len N) ca, digs N)] _) := Lib.hid (((E20.out.below hb).numN (hoo.out : Nt _ _ o1)))
  clear p19 f19 p20 f20 p21 f21 E20 hb hoo
  go_wp2_with fail
  have E22 : Hid (EnvB w [(w12.heap.size, .slice ooa (len o1) ook), (w8.heap.size + 1, .slice z1ra 0 z1rk), (w8.heap.size, .slice z1a z1n z1k), (w7.heap.size + 1 + 1, .slice bo (len M) cb), (w7.heap.size + 1, .slice z0ra 0 z0rk), (w7.heap.size, .slice z0a z0n z0k), (w6.heap.size + 1, .slice ao (len N) ca), (w5.heap.size, .slice xxa (len v1) xxk), (w4.heap.size, .slice dda (len r1) ddk), (w.heap.size + 1, .slice bo (len M) cb), (w.heap.size, .slice ao (len N) ca)] [(.slice ooa (len o1) ook, digs o1), (.slice (some ⟨w8.heap.size + 1 + 1, 0, none⟩) 1 1, digs 1), (.slice xxa (len v1) xxk, digs v1), (.slice dda (len r1) ddk, digs r1), (.slice bo (len M) cb, digs M), (.slice ao (len N) ca, digs N)] (w12.alloc (.cells #[.slice ooa (len o1) ook] 24))) := Lib.hid ((E21.out.push (.slice ooa (len o1) ook) 24 ⟨_, _, _, rfl⟩ (w12.heap.size) (by simp)))
  clear E21
  generalize w12.alloc (.cells #[.slice ooa (len o1) ook] 24) = w13 at *
  have bx0 := Lib.hid (E22.out.box 0 rfl)
  have bx1 := Lib.hid (E22.out.box 9 rfl)
  refine' wp_region_phase (by kernel_rfl) [0, 1, 2, 3, 4, 5, 6, 7, 8] (by kernel_rfl) #[true, true, true, true, true, true, true, true, true, false] (by kernel_rfl) 1 (by kernel_rfl) [PEq (.int .i64 0), PEq (.bool true), PEq (.bool true), PEq (.agg #[.slice ooa (len o1) ook]), PNum (1), PEq (.agg #[.slice bo (len M) cb]), PNum (o1), PEq (.bool true), PEq (.bool true), Fact.none] (List.forall_mem_cons.2 ⟨PEq.st _, List.forall_mem_cons.2 ⟨PEq.st _, List.forall_mem_cons.2 ⟨PEq.st _, List.forall_mem_cons.2 ⟨PEq.st _, List.forall_mem_cons.2 ⟨PNum.st _, List.forall_mem_cons.2 ⟨PEq.st _, List.forall_mem_cons.2 ⟨PNum.st _, List.forall_mem_cons.2 ⟨PEq.st _, List.forall_mem_cons.2 ⟨PEq.st _, List.forall_mem_cons.2 ⟨Fact.none_st, List.forall_mem_nil _⟩⟩⟩⟩⟩⟩⟩⟩⟩⟩) _ ?hFr1 ?stepr1 ?doner1
  case hFr1 => intro x; simp only [frameL, Act.put, List.setIfInBounds_toArray, List.set_cons_zero, List.set_cons_succ, Nat.zero_add, Nat.reduceAdd]; exact rfl
  case stepr1 =>
    refine List.forall_mem_cons.2 ⟨?_, ?_⟩
    · intro xv bv ev WW hB hdp
      refine op_of rfl ?_
      clear hdp
      intro KK hKK
      go_simp
      exact act_eq (hKK.out _ _ (Below.refl _ _) rfl) (by first | rfl | simp [upd])
    refine List.forall_mem_cons.2 ⟨?_, ?_⟩
    · intro xv bv ev WW hB hdp
      refine op_of rfl ?_
      have ed0 : xv 0 = .int .i64 0 := hdp 0 (by kernel_rfl)
      clear hdp
      intro KK hKK
      go_simp
      exact act_eq (hKK.out _ _ (Below.refl _ _) rfl) (by first | rfl | simp [upd, ed0])
    refine List.forall_mem_cons.2 ⟨?_, ?_⟩
    · intro xv bv ev WW hB hdp
      refine op_of rfl ?_
      have ed1 : xv 1 = .bool true := hdp 1 (by kernel_rfl)
      clear hdp
      intro KK hKK
      go_simp
      exact act_eq (hKK.out _ _ (Below.refl _ _) rfl) (by first | rfl | simp [upd, ed1])
    refine List.forall_mem_cons.2 ⟨?_, ?_⟩
    · intro xv bv ev WW hB hdp
      refine op_of rfl ?_
      have ed2 : xv 2 = .bool true := hdp 2 (by kernel_rfl)
      clear hdp
      intro KK hKK
      refine op_guard (d := 117) rfl rfl (by first | exact congrArg some ed2 | simp [ed2]) ?_
      obtain ⟨z, -, -, -, -⟩ := bx0.out.below hB
      go_simp
      exact act_eq (hKK.out (.agg #[.slice ooa (len o1) ook]) _ (Below.refl _ _) rfl) (by first | rfl | simp [upd, ed2])
    refine List.forall_mem_cons.2 ⟨?_, ?_⟩
    · intro xv bv ev WW hB hdp
      refine op_of rfl ?_
      have ed2 : xv 2 = .bool true := hdp 2 (by kernel_rfl)
      clear hdp
      intro KK hKK
      refine op_guard (d := 117) rfl rfl (by first | exact congrArg some ed2 | simp [ed2]) ?_
      go_simp
      refine (rOf_c 1 _ (by decide)).mono ?_
      rintro e WW' ⟨⟨iia, iik, rfl, hii⟩, hb⟩
      (try dsimp only)
      (try simp only [Act.put, List.setIfInBounds_toArray, List.set_cons_zero, List.set_cons_succ])
      exact act_eq (hKK.out _ _ hb ⟨_, _, rfl, hii⟩) (by first | rfl | simp [upd, ed2])
    refine List.forall_mem_cons.2 ⟨?_, ?_⟩
    · intro xv bv ev WW hB hdp
      refine op_of rfl ?_
      have ed2 : xv 2 = .bool true := hdp 2 (by kernel_rfl)
      clear hdp
      intro KK hKK
      refine op_guard (d := 117) rfl rfl (by first | exact congrArg some ed2 | simp [ed2]) ?_
      obtain ⟨z, -, -, -, -⟩ := bx1.out.below hB
      go_simp
      exact act_eq (hKK.out (.agg #[.slice bo (len M) cb]) _ (Below.refl _ _) rfl) (by first | rfl | simp [upd, ed2])
    refine List.forall_mem_cons.2 ⟨?_, ?_⟩
    · intro xv bv ev WW hB hdp
      refine op_of rfl ?_
      obtain ⟨iia, iik, ed4, hii⟩ := (show (PNum (1)) (xv 4) (bv 4) (ev 4) WW from hdp 4 (by kernel_rfl))
      have ed5 : xv 5 = .agg #[.slice bo (len M) cb] := hdp 5 (by kernel_rfl)
      have ed2 : xv 2 = .bool true := hdp 2 (by kernel_rfl)
      clear hdp
      intro KK hKK
      refine op_guard (d := 117) rfl rfl (by first | exact congrArg some ed2 | simp [ed2]) ?_
      go_simp
      refine (rMod_n ho2.out l1.out m0.out m5.out hii.out ((E22.out.below hB).nt 4 rfl)).mono ?_
      rintro e WW' ⟨⟨jja, jjk, rfl, hjj⟩, hb⟩
      (try dsimp only)
      (try simp only [Act.put, List.setIfInBounds_toArray, List.set_cons_zero, List.set_cons_succ])
      exact act_eq (hKK.out _ _ hb ⟨_, _, rfl, hjj⟩) (by first | rfl | simp [upd, ed4, ed5, ed2])
    refine List.forall_mem_cons.2 ⟨?_, ?_⟩
    · intro xv bv ev WW hB hdp
      refine op_of rfl ?_
      have ed3 : xv 3 = .agg #[.slice ooa (len o1) ook] := hdp 3 (by kernel_rfl)
      obtain ⟨jja, jjk, ed6, hjj⟩ := (show (PNum (o1)) (xv 6) (bv 6) (ev 6) WW from hdp 6 (by kernel_rfl))
      have ed2 : xv 2 = .bool true := hdp 2 (by kernel_rfl)
      clear hdp
      intro KK hKK
      refine op_guard (d := 117) rfl rfl (by first | exact congrArg some ed2 | simp [ed2]) ?_
      go_simp
      refine (same_c (t := true) (by simp) ((E22.out.below hB).nt 0 rfl) hjj.out).mono ?_
      rintro e WW' ⟨rfl, hb⟩
      (try dsimp only)
      (try simp only [Act.put, List.setIfInBounds_toArray, List.set_cons_zero, List.set_cons_succ])
      exact act_eq (hKK.out _ _ hb rfl) (by first | rfl | simp [upd, ed3, ed6, ed2])
    refine List.forall_mem_cons.2 ⟨?_, ?_⟩
    · intro xv bv ev WW hB hdp
      refine op_of rfl ?_
      have ed2 : xv 2 = .bool true := hdp 2 (by kernel_rfl)
      have ed7 : xv 7 = .bool true := hdp 7 (by kernel_rfl)
      clear hdp
      intro KK hKK
      go_simp
      exact act_eq (hKK.out _ _ (Below.refl _ _) rfl) (by first | rfl | simp [upd, ed2, ed7])
    exact List.forall_mem_nil _
  intro xv bv ev w14 hB hR hO
  have ed0 : xv 0 = .int .i64 0 := hR 0 (by kernel_rfl)
  have ed1 : xv 1 = .bool true := hR 1 (by kernel_rfl)
  have ed2 : xv 2 = .bool true := hR 2 (by kernel_rfl)
  have ed3 : xv 3 = .agg #[.slice ooa (len o1) ook] := hR 3 (by kernel_rfl)
  obtain ⟨iia, iik, ed4, hii⟩ := (show (PNum (1)) (xv 4) (bv 4) (ev 4) w14 from hR 4 (by kernel_rfl))
  have ed5 : xv 5 = .agg #[.slice bo (len M) cb] := hR 5 (by kernel_rfl)
  obtain ⟨jja, jjk, ed6, hjj⟩ := (show (PNum (o1)) (xv 6) (bv 6) (ev 6) w14 from hR 6 (by kernel_rfl))
  have ed7 : xv 7 = .bool true := hR 7 (by kernel_rfl)
  have ed8 : xv 8 = .bool true := hR 8 (by kernel_rfl)
  simp only [ed0, ed1, ed2, ed3, ed4, ed5, ed6, ed7, ed8]
  have E23 : Hid (EnvB w [(w12.heap.size, .slice ooa (len o1) ook), (w8.heap.size + 1, .slice z1ra 0 z1rk), (w8.heap.size, .slice z1a z1n z1k), (w7.heap.size + 1 + 1, .slice bo (len M) cb), (w7.heap.size + 1, .slice z0ra 0 z0rk), (w7.heap.size, .slice z0a z0n z0k), (w6.heap.size + 1, .slice ao (len N) ca), (w5.heap.size, .slice xxa (len v1) xxk), (w4.heap.size, .slice dda (len r1) ddk), (w.heap.size + 1, .slice bo (len M) cb), (w.heap.size, .slice ao (len N) ca)] [(.slice jja (len o1) jjk, digs o1), (.slice iia (len 1) iik, digs 1), (.slice ooa (len o1) ook, digs o1), (.slice (some ⟨w8.heap.size + 1 + 1, 0, none⟩) 1 1, digs 1), (.slice xxa (len v1) xxk, digs v1), (.slice dda (len r1) ddk, digs r1), (.slice bo (len M) cb, digs M), (.slice ao (len N) ca, digs N)] _) := Lib.hid ((((E22.out.below hB).numN (hii.out : Nt _ _ (1))).numN (hjj.out : Nt _ _ (o1))))
  clear E22 hB hR hO bx0 bx1 ed0 ed1 ed2 ed3 ed4 ed5 ed6 ed7 ed8 hii hjj
  refine wpAny_next (i := 9) (by kernel_rfl) rfl (fun KK hKK => ?_)
  go_simp
  refine hKK.out _ _ ?_
  clear hKK KK
  refine wpAny_done (by kernel_rfl) ?_ _
  have hfin := Lib.hid E23.out.1
  go_wp2
  go_ret
  exact ⟨rfl, hfin.out⟩
theorem NatmodDivides_walk (a m : Value) (la lm : List Nat) (w : World) (ha : Sl w a la) (hm : Sl w m lm) :
    Calls Try.prog 7 #[.agg #[a], .agg #[m]] w fun e w' => e = .returned (.bool true) ∧ Below w.heap.size w w' := by
  obtain ⟨ao, ca, rfl, _⟩ := ha.open
  obtain ⟨mo, cm, rfl, _⟩ := hm.open
  by_cases hf : la.length ≤ 32 ∧ lm.length ≤ 32
  rotate_left
  · exact Divs_no ao ca mo cm la lm w ha hm hf
  rcases fst_cases lm [la] with h | h | h
  · obtain ⟨h1, h2, h3⟩ := fst_zero h
    obtain ⟨M, rfl, m0, hk, hM⟩ := mdl_nt hm h1
    obtain ⟨N, rfl, n6, hN⟩ := nt_of ha (h2 la (by simp))
    have a1 := h3 (digs N) (by simp)
    rw [val_digs, val_digs] at a1
    have r0 : Nat.gcd N M ≠ 0 := fun h => m0 (Nat.gcd_eq_zero_iff.1 h).2
    have hgl : len (Nat.gcd N M) ≤ 64 := Nat.le_trans (len_le_of_le (Nat.le_of_dvd (by omega) (Nat.gcd_dvd_right N M))) (by omega)
    have hgv : vld (digs (Nat.gcd N M)) = true := by rw [vld_digs]; exact decide_eq_true hgl
    have hg0 : len (Nat.gcd N M) ≠ 0 := fun h => r0 (len_eq_zero.1 h)
    have y1 : N % Nat.gcd N M = 0 := Nat.mod_eq_zero_of_dvd (Nat.gcd_dvd_left N M)
    have y2 : M % Nat.gcd N M = 0 := Nat.mod_eq_zero_of_dvd (Nat.gcd_dvd_right N M)
    have hie : invG N M = Nat.gcd N M := invG_eq m0
    by_cases hc : Nat.gcd N M = 1
    · have hi : decide (invG N M = 1) = true := by rw [hie]; exact decide_eq_true hc
      have hv := @invV_lt N M m0
      exact Divs_ok ao ca mo cm N M _ _ _ w hN hM hf h a1 hk n6 (by omega) rfl hgl r0 hgv hg0 y1 y2 hi rfl (by rw [vld_digs]; exact decide_eq_true (by have := len_le_of_lt hv hk; omega)) hv (decide_eq_true hv) (invV_mul m0 hc) rfl (decide_eq_true hc) (by rw [len_one]; decide) m0 (by omega)
    · have hi : decide (invG N M = 1) = false := by rw [hie]; exact decide_eq_false hc
      exact Divs_n ao ca mo cm N M _ w hN hM hf h a1 hk n6 (by omega) rfl hgl r0 hgv hg0 y1 y2 hi (decide_eq_false hc)
  · exact Divs_e1 ao ca mo cm la lm w ha hm hf h
  · exact Divs_e2 ao ca mo cm la lm w ha hm hf h
end Go.Proofs.Ythphmgdmhlimjaa
