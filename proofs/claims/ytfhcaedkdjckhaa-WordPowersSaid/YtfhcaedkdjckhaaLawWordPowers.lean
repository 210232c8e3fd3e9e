/- The walk of the statement WordPowers: it returns true at every input. -/
import Derived.Test.YtfhcaedkdjckhaaWordG
import Derived.OpenShut
namespace Go.Proofs.Ytfhcaedkdjckhaa
open Go.RowKit DivMath WordMath
set_option linter.unusedVariables false

theorem chk_eq2 {a m : Int} (h1 : 1 ≤ m) (h2 : m < Top) (h3 : ¬ (0 ≤ a ∧ a < m)) : chk a a m = 2 := by
  unfold chk; rw [if_neg (by omega), if_neg (fun h => h3 h.1)]
theorem chk_eq0 {a m : Int} (h1 : 1 ≤ m) (h2 : m < Top) (h3 : 0 ≤ a ∧ a < m) : chk a a m = 0 := by
  unfold chk; rw [if_neg (by omega), if_pos ⟨h3, h3⟩]
theorem chk_eq1 {a m : Int} (h : ¬ (1 ≤ m ∧ m < Top)) : chk a a m = 1 := by
  unfold chk; rw [if_pos (by omega)]

set_option maxHeartbeats 1000000 in
theorem WordPowers_walk (a x m : Int) (wa : (Lit.int .i64 a).wf = true) (wb : (Lit.int .i64 x).wf = true) (wm : (Lit.int .i64 m).wf = true) (w : World) :
    Calls Try.prog 8 #[.int .i64 a, .int .i64 x, .int .i64 m] w fun e w' => e = .returned (.bool true) ∧ Grown w w' := by
  have hx63 : x ≤ 9223372036854775807 := by
    have := bounds_i64 wb
    omega
  by_cases hm : 1 ≤ m ∧ m < Top
  · have hmod : modB m = true := decide_eq_true hm
    by_cases ha : 0 ≤ a ∧ a < m
    · have hres : resid a m = true := decide_eq_true ha
      have hc := chk_eq0 hm.1 hm.2 ha
      by_cases hx : x < 0
      · have hg : decide (x < 0) = true := decide_eq_true hx
        have c1 := fun w => Pow_neg a x m w hc hx
        clear hm ha hc hx63 hx wa wb wm
        go_enter Try.func8, Try.ntmps8
        go_wp2_with fail
        refine (awake_c _).mono ?_; rintro e w1 ⟨rfl, q1⟩
        go_wp2_with fail
        refine (c1 _).mono ?_; rintro e w2 ⟨rfl, rfl⟩
        go_wp2_with (first | (go_at_call 22; refine (refModulus_c _ _).mono ?_; rintro e w' ⟨rfl, rfl⟩) | (go_at_call 17; refine (refResidue_c _ _ _).mono ?_; rintro e w' ⟨rfl, rfl⟩))
        go_ret
        exact ⟨rfl, q1.grown⟩
      · have hg : decide (x < 0) = false := decide_eq_false hx
        obtain ⟨a, rfl⟩ := Int.eq_ofNat_of_zero_le ha.1
        obtain ⟨x, rfl⟩ := Int.eq_ofNat_of_zero_le (show 0 ≤ x by omega)
        obtain ⟨m, rfl⟩ := Int.eq_ofNat_of_zero_le (show 0 ≤ m by omega)
        have hm2 : (m : Int) ≤ 2305843009213693951 := by unfold Top at hm; omega
        have c1 := fun w => Pow_ok a x m w ha.2 hx63 hm.2
        have c2 := fun w => refPow_c a x m w (by omega) hx63 hm.1 hm.2
        have hg2 : decide ((x : Int) < 0) = false := decide_eq_false (by omega)
        clear hm ha hc hx63 hx wa wb wm hm2 hg
        go_enter Try.func8, Try.ntmps8
        go_wp2_with fail
        refine (awake_c _).mono ?_; rintro e w1 ⟨rfl, q1⟩
        go_wp2_with fail
        refine (c1 _).mono ?_; rintro e w2 ⟨⟨r, hr, rfl⟩, q2⟩
        go_wp2_with (first | (go_at_call 22; refine (refModulus_c _ _).mono ?_; rintro e w' ⟨rfl, rfl⟩) | (go_at_call 17; refine (refResidue_c _ _ _).mono ?_; rintro e w' ⟨rfl, rfl⟩) | fail)
        refine (c2 _).mono ?_; rintro e w3 ⟨⟨r2, hr2, rfl⟩, q3⟩
        obtain rfl : r = r2 := hr.out.trans hr2.out.symm
        go_wp2
        go_ret
        exact ⟨rfl, ((q1.trans q2).trans q3).grown⟩
    · have hres : resid a m = false := decide_eq_false ha
      have hc := chk_eq2 hm.1 hm.2 ha
      have c1 := fun w => Pow_err a x m w (by rw [hc]; rfl)
      rw [hc] at c1
      clear hm ha hc hx63 wa wb wm
      go_enter Try.func8, Try.ntmps8
      go_wp2_with fail
      refine (awake_c _).mono ?_; rintro e w1 ⟨rfl, q1⟩
      go_wp2_with fail
      refine (c1 _).mono ?_; rintro e w2 ⟨rfl, rfl⟩
      go_wp2_with (first | (go_at_call 22; refine (refModulus_c _ _).mono ?_; rintro e w' ⟨rfl, rfl⟩) | (go_at_call 17; refine (refResidue_c _ _ _).mono ?_; rintro e w' ⟨rfl, rfl⟩))
      go_ret
      exact ⟨rfl, q1.grown⟩
  · have hmod : modB m = false := decide_eq_false hm
    have hc := chk_eq1 (a := a) hm
    have c1 := fun w => Pow_err a x m w (by rw [hc]; rfl)
    rw [hc] at c1
    clear hm hc hx63 wa wb wm
    go_enter Try.func8, Try.ntmps8
    go_wp2_with fail
    refine (awake_c _).mono ?_; rintro e w1 ⟨rfl, q1⟩
    go_wp2_with fail
    refine (c1 _).mono ?_; rintro e w2 ⟨rfl, rfl⟩
    go_wp2_with (first | (go_at_call 22; refine (refModulus_c _ _).mono ?_; rintro e w' ⟨rfl, rfl⟩) | (go_at_call 17; refine (refResidue_c _ _ _).mono ?_; rintro e w' ⟨rfl, rfl⟩))
    go_ret
    exact ⟨rfl, q1.grown⟩
end Go.Proofs.Ytfhcaedkdjckhaa
