/- The walk of the statement WordSums: it returns true at every input. -/
import Derived.Test.YtfhcaedkdjckhaaWordG
namespace Go.Proofs.Ytfhcaedkdjckhaa
open Go.RowKit DivMath WordMath
set_option linter.unusedVariables false

set_option maxHeartbeats 1000000 in
theorem WordSums_walk (a b m : Int) (wa : (Lit.int .i64 a).wf = true) (wb : (Lit.int .i64 b).wf = true) (wm : (Lit.int .i64 m).wf = true) (w : World) :
    Calls Try.prog 7 #[.int .i64 a, .int .i64 b, .int .i64 m] w fun e w' => e = .returned (.bool true) ∧ Grown w w' := by
  clear wa wb wm
  by_cases hc : chk a b m = 0
  · rcases chk_cases a b m with ⟨_, h⟩ | ⟨_, _, h⟩ | ⟨⟨h1, h2⟩, ⟨h3, h4⟩, ⟨h5, h6⟩, h⟩
    · omega
    · omega
    · clear h
      obtain ⟨a, rfl⟩ := Int.eq_ofNat_of_zero_le h3
      obtain ⟨b, rfl⟩ := Int.eq_ofNat_of_zero_le h5
      obtain ⟨m, rfl⟩ := Int.eq_ofNat_of_zero_le (show 0 ≤ m by omega)
      have c1 := fun w => Add_ok a b m w h4 h6 h2
      have c2 := fun w => Sub_ok a b m w h4 h6 h2
      have c3 := fun w => Mul_ok a b m w h4 h6 h2
      have c4 := fun w => refFault_c (a : Int) (b : Int) (m : Int) w
      rw [hc] at c4
      have h2' : (m : Int) ≤ 2305843009213693951 := by unfold Top at h2; omega
      have c5 : ∀ w, Calls Try.prog 27 #[.int .i64 ((a : Int) + b), .int .i64 m] w fun e w' => e = .returned (.int .i64 (((a + b) % m : Nat) : Int)) ∧ w = w' := fun w =>
        (refReduce_c ((a : Int) + b) m w h1 h2).mono fun e w' ⟨he, hw⟩ => ⟨by rw [he]; rfl, hw⟩
      have c6 : ∀ w, Calls Try.prog 27 #[.int .i64 ((a : Int) - b), .int .i64 m] w fun e w' => e = .returned (.int .i64 (((a + (m - b)) % m : Nat) : Int)) ∧ w = w' := fun w =>
        (refReduce_c ((a : Int) - b) m w h1 h2).mono fun e w' ⟨he, hw⟩ => ⟨by
          rw [he, Int.natCast_emod, show (((a + (m - b)) : Nat) : Int) = (a : Int) - b + m by omega, Int.add_emod_right], hw⟩
      have c7 := fun w => refMul_c a b m w (by omega) (by omega) h1 h2
      clear hc h2 h5 h3
      generalize hr5 : (a + b) % m = r5 at *
      generalize hr6 : (a + (m - b)) % m = r6 at *
      clear hr5 hr6
      go_enter Try.func7, Try.ntmps7
      go_wp2_with fail
      refine (awake_c _).mono ?_; rintro e w1 ⟨rfl, q1⟩
      go_wp2_with fail
      refine (c1 _).mono ?_; rintro e w2 ⟨⟨r, hr, rfl⟩, q2⟩
      obtain rfl := hr.out
      go_wp2_with fail
      refine (c2 _).mono ?_; rintro e w3 ⟨⟨r, hr, rfl⟩, q3⟩
      obtain rfl := hr.out
      go_wp2_with fail
      refine (c3 _).mono ?_; rintro e w4 ⟨⟨r3, hr3, rfl⟩, q4⟩
      go_wp2_with fail
      refine (c4 _).mono ?_; rintro e w5 ⟨rfl, rfl⟩
      go_wp2_with fail
      refine (c5 _).mono ?_; rintro e w5 ⟨rfl, rfl⟩
      go_wp2_with fail
      refine (c6 _).mono ?_; rintro e w5 ⟨rfl, rfl⟩
      go_wp2_with fail
      refine (c7 _).mono ?_; rintro e w6 ⟨⟨r4, hr4, rfl⟩, q5⟩
      obtain rfl : r3 = r4 := hr3.out.trans hr4.out.symm
      go_wp2
      go_ret
      exact ⟨rfl, ((((q1.trans q2).trans q3).trans q4).trans q5).grown⟩
  · have hb : (chk a b m != 0) = true := by simpa using hc
    clear hc
    have c1 := fun w => Add_err a b m w hb
    have c2 := fun w => Sub_err a b m w hb
    have c3 := fun w => Mul_err a b m w hb
    have c4 := fun w => refFault_c a b m w
    generalize chk a b m = k at *
    go_enter Try.func7, Try.ntmps7
    go_wp2_with fail
    refine (awake_c _).mono ?_; rintro e w1 ⟨rfl, q1⟩
    go_wp2_with fail
    refine (c1 _).mono ?_; rintro e w2 ⟨rfl, rfl⟩
    go_wp2_with fail
    refine (c2 _).mono ?_; rintro e w2 ⟨rfl, rfl⟩
    go_wp2_with fail
    refine (c3 _).mono ?_; rintro e w2 ⟨rfl, rfl⟩
    go_wp2_with fail
    refine (c4 _).mono ?_; rintro e w2 ⟨rfl, rfl⟩
    go_wp2
    go_ret
    exact ⟨rfl, q1.grown⟩
end Go.Proofs.Ytfhcaedkdjckhaa
