/- The walk of the statement WordReduces: it returns true at every input. -/
import Derived.Test.YtfhcaedkdjckhaaWordG
import Derived.OpenShut
namespace Go.Proofs.Ytfhcaedkdjckhaa
open Go.RowKit DivMath WordMath
set_option linter.unusedVariables false

set_option maxHeartbeats 1000000 in
theorem WordReduces_walk (a b : Int) (wa : (Lit.int .i64 a).wf = true) (wb : (Lit.int .i64 b).wf = true) (w : World) :
    Calls Try.prog 11 #[.int .i64 a, .int .i64 b] w fun e w' => e = .returned (.bool true) ∧ Grown w w' := by
  have ba := bounds_i64 wa
  have bb := bounds_i64 wb
  have g1 := fun w => Gcd_c a b w ba.1 ba.2 bb.1 bb.2
  have g2 := fun w => refGcd_c a b w ba.1 ba.2 bb.1 bb.2
  generalize gcdI a b = g at *
  clear ba bb wa wb
  by_cases hm : 1 ≤ b ∧ b < Top
  · have hmod : modB b = true := decide_eq_true hm
    have c1 := fun w => Reduce_ok a b w hm.1 hm.2
    have c2 := fun w => refReduce_c a b w hm.1 hm.2
    generalize a % b = r at *
    clear hm
    go_enter Try.func11, Try.ntmps11
    go_wp2_with fail
    refine (awake_c _).mono ?_; rintro e w1 ⟨rfl, q1⟩
    go_wp2_with fail
    refine (c1 _).mono ?_; rintro e w2 ⟨rfl, q2⟩
    go_wp2_with fail
    refine (g1 _).mono ?_; rintro e w3 ⟨rfl, q3⟩
    go_wp2_with fail
    refine (g2 _).mono ?_; rintro e w4 ⟨rfl, q4⟩
    go_wp2_with (first | (go_at_call 22; refine (refModulus_c _ _).mono ?_; rintro e w' ⟨rfl, rfl⟩) | (go_at_call 27; refine (c2 _).mono ?_; rintro e w' ⟨rfl, rfl⟩))
    go_ret
    exact ⟨by simp, (((q1.trans q2).trans q3).trans q4).grown⟩
  · have hmod : modB b = false := decide_eq_false hm
    have c1 := fun w => Reduce_err a b w (by omega)
    clear hm
    go_enter Try.func11, Try.ntmps11
    go_wp2_with fail
    refine (awake_c _).mono ?_; rintro e w1 ⟨rfl, q1⟩
    go_wp2_with fail
    refine (c1 _).mono ?_; rintro e w2 ⟨rfl, rfl⟩
    go_wp2_with fail
    refine (g1 _).mono ?_; rintro e w3 ⟨rfl, q3⟩
    go_wp2_with fail
    refine (g2 _).mono ?_; rintro e w4 ⟨rfl, q4⟩
    go_wp2_with (first | (go_at_call 22; refine (refModulus_c _ _).mono ?_; rintro e w' ⟨rfl, rfl⟩))
    go_ret
    exact ⟨rfl, ((q1.trans q3).trans q4).grown⟩
end Go.Proofs.Ytfhcaedkdjckhaa
