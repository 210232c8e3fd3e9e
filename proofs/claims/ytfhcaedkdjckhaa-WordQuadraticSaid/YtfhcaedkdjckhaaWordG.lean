/- The examples of the chapter: 'awake' of the statements of layer 1 is true. -/
import Derived.Test.YtfhcaedkdjckhaaWordF
namespace Go.Proofs.Ytfhcaedkdjckhaa
open Go.RowKit DivMath WordMath
set_option linter.unusedVariables false

theorem Qw.grown {w w' : World} (h : Qw w w') : Grown w w' := by
  obtain ⟨n, rfl⟩ := h
  induction n with
  | zero => exact Grown.refl _
  | succ n ih => exact Grown.drew ih

theorem J_2_15 : J 2 15 = 1 := by
  rw [J_even 2 15 (by decide) (by decide), J_odd (2 / 2) 15 (by decide), J_zero (n := 2 / 2)] <;> decide

theorem awake_mul (w : World) : Calls Try.prog 24 #[.int .i64 7, .int .i64 8, .int .i64 11] w fun e w' => e = .returned (.tuple #[.int .i64 1, .int .i64 0]) ∧ Qw w w' :=
  (Mul_ok 7 8 11 w (by decide) (by decide) (by decide)).mono fun e w' ⟨⟨r, hr, he⟩, hw⟩ => ⟨by rw [he, hr.out]; rfl, hw⟩
theorem awake_inverse (w : World) : Calls Try.prog 14 #[.int .i64 7, .int .i64 11] w fun e w' => e = .returned (.tuple #[.int .i64 8, .int .i64 0]) ∧ Qw w w' :=
  (Inverse_ok 7 11 w (by decide) (by decide) (by decide)).mono fun e w' ⟨⟨r, hr, he⟩, hw⟩ => ⟨by
    have h := hr.out
    have : r = 8 := by omega
    rw [he, this]; rfl, hw⟩
theorem awake_solve (w : World) : Calls Try.prog 19 #[.int .i64 6, .int .i64 4, .int .i64 10] w fun e w' => e = .returned (.tuple #[.int .i64 4, .int .i64 5, .int .i64 0]) ∧ Qw w w' :=
  (Solve_ok 6 4 10 w (by decide) (by decide) (by decide) (by decide)).mono fun e w' ⟨⟨r, s, hr, he⟩, hw⟩ => ⟨by
    have h := hr.out
    unfold Sol at h
    rw [show Nat.gcd 6 10 = 2 by decide] at h
    have h1 : s = 5 := by omega
    subst h1
    have h2 : r = 4 := by omega
    rw [he, h2]; rfl, hw⟩
theorem awake_jacobi (w : World) : Calls Try.prog 21 #[.int .i64 2, .int .i64 15] w fun e w' => e = .returned (.tuple #[.int .i64 1, .int .i64 0]) ∧ Qw w w' :=
  (Jacobi_ok 2 15 w (by decide) (by decide) (by decide)).mono fun e w' ⟨he, hw⟩ => ⟨by rw [he, J_2_15], hw⟩

set_option maxHeartbeats 400000 in
theorem awake_c (w : World) : Calls Try.prog 13 #[] w fun e w' => e = .returned (.bool true) ∧ Qw w w' := by
  go_enter Try.func13, Try.ntmps13
  go_wp2_with fail
  refine (awake_mul _).mono ?_; rintro e w1 ⟨rfl, h1⟩
  go_wp2_with fail
  refine (awake_inverse _).mono ?_; rintro e w2 ⟨rfl, h2⟩
  go_wp2_with fail
  refine (awake_solve _).mono ?_; rintro e w3 ⟨rfl, h3⟩
  go_wp2_with fail
  refine (awake_jacobi _).mono ?_; rintro e w4 ⟨rfl, h4⟩
  go_wp2
  go_ret
  exact ⟨rfl, ((h1.trans h2).trans h3).trans h4⟩
end Go.Proofs.Ytfhcaedkdjckhaa
