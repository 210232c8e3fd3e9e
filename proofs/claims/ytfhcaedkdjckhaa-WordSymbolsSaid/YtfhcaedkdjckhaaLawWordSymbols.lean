/- The walk of the statement WordSymbols: it returns true at every input. -/
import Derived.Test.YtfhcaedkdjckhaaWordG
import Derived.OpenShut
namespace Go.Proofs.Ytfhcaedkdjckhaa
open Go.RowKit DivMath WordMath
set_option linter.unusedVariables false

set_option maxHeartbeats 1000000 in
theorem WordSymbols_walk (a n : Int) (wa : (Lit.int .i64 a).wf = true) (wn : (Lit.int .i64 n).wf = true) (w : World) :
    Calls Try.prog 5 #[.int .i64 a, .int .i64 n] w fun e w' => e = .returned (.bool true) ∧ Grown w w' := by
  clear wa wn
  by_cases hm : 1 ≤ n ∧ n < Top
  · have hmod : modB n = true := decide_eq_true hm
    obtain ⟨n, rfl⟩ := Int.eq_ofNat_of_zero_le (show 0 ≤ n by omega)
    have hn2 : (n : Int) ≤ 2305843009213693951 := by unfold Top at hm; omega
    by_cases h2 : n % 2 = 1
    · have e2 : ((n : Int) % 2 == 0) = false := by simp; omega
      by_cases ha : 0 ≤ a ∧ a < n
      · have hres : resid a n = true := decide_eq_true ha
        obtain ⟨a, rfl⟩ := Int.eq_ofNat_of_zero_le ha.1
        have c1 := fun w => Jacobi_ok a n w ha.2 hm.2 h2
        have c2 := fun w => refJacobi_c a n w (by omega) hn2
        generalize J a n = j at *
        clear hm ha h2
        go_enter Try.func5, Try.ntmps5
        go_wp2_with fail
        refine (awake_c _).mono ?_; rintro e w1 ⟨rfl, q1⟩
        go_wp2_with fail
        refine (c1 _).mono ?_; rintro e w2 ⟨rfl, q2⟩
        go_wp2_with (first | (go_at_call 22; refine (refModulus_c _ _).mono ?_; rintro e w' ⟨rfl, rfl⟩) | (go_at_call 17; refine (refResidue_c _ _ _).mono ?_; rintro e w' ⟨rfl, rfl⟩) | fail)
        refine (c2 _).mono ?_; rintro e w3 ⟨rfl, q3⟩
        go_wp2
        go_ret
        exact ⟨by simp, ((q1.trans q2).trans q3).grown⟩
      · have hres : resid a n = false := decide_eq_false ha
        have c1 := fun w => Jacobi_range a n w hm.1 hm.2 (by omega) hres
        clear hm ha h2
        go_enter Try.func5, Try.ntmps5
        go_wp2_with fail
        refine (awake_c _).mono ?_; rintro e w1 ⟨rfl, q1⟩
        go_wp2_with fail
        refine (c1 _).mono ?_; rintro e w2 ⟨rfl, rfl⟩
        go_wp2_with (first | (go_at_call 22; refine (refModulus_c _ _).mono ?_; rintro e w' ⟨rfl, rfl⟩) | (go_at_call 17; refine (refResidue_c _ _ _).mono ?_; rintro e w' ⟨rfl, rfl⟩))
        go_ret
        exact ⟨rfl, q1.grown⟩
    · have e2 : ((n : Int) % 2 == 0) = true := by simp; omega
      have c1 := fun w => Jacobi_arg a n w (Or.inr (Or.inr (by rw [Int.tmod_eq_emod_of_nonneg (by omega)]; omega)))
      clear hm h2
      go_enter Try.func5, Try.ntmps5
      go_wp2_with fail
      refine (awake_c _).mono ?_; rintro e w1 ⟨rfl, q1⟩
      go_wp2_with fail
      refine (c1 _).mono ?_; rintro e w2 ⟨rfl, rfl⟩
      go_wp2_with (first | (go_at_call 22; refine (refModulus_c _ _).mono ?_; rintro e w' ⟨rfl, rfl⟩))
      go_ret
      exact ⟨rfl, q1.grown⟩
  · have hmod : modB n = false := decide_eq_false hm
    have c1 := fun w => Jacobi_arg a n w (by omega)
    clear hm
    go_enter Try.func5, Try.ntmps5
    go_wp2_with fail
    refine (awake_c _).mono ?_; rintro e w1 ⟨rfl, q1⟩
    go_wp2_with fail
    refine (c1 _).mono ?_; rintro e w2 ⟨rfl, rfl⟩
    go_wp2_with (first | (go_at_call 22; refine (refModulus_c _ _).mono ?_; rintro e w' ⟨rfl, rfl⟩))
    go_ret
    exact ⟨rfl, q1.grown⟩
end Go.Proofs.Ytfhcaedkdjckhaa
