/- The walk of the statement WordSolves: it returns true at every input. -/
import Derived.Test.YtfhcaedkdjckhaaWordG
namespace Go.Proofs.Ytfhcaedkdjckhaa
open Go.RowKit DivMath WordMath
set_option linter.unusedVariables false

set_option maxHeartbeats 1000000 in
theorem WordSolves_walk (a b m : Int) (wa : (Lit.int .i64 a).wf = true) (wb : (Lit.int .i64 b).wf = true) (wm : (Lit.int .i64 m).wf = true) (w : World) :
    Calls Try.prog 4 #[.int .i64 a, .int .i64 b, .int .i64 m] w fun e w' => e = .returned (.bool true) ∧ Grown w w' := by
  clear wa wb wm
  by_cases hc : chk a b m = 0
  · rcases chk_cases a b m with ⟨_, h⟩ | ⟨_, _, h⟩ | ⟨⟨h1, h2⟩, ⟨h3, h4⟩, ⟨h5, h6⟩, h⟩
    · omega
    · omega
    · clear h
      obtain ⟨a, rfl⟩ := Int.eq_ofNat_of_zero_le h3
      obtain ⟨b, rfl⟩ := Int.eq_ofNat_of_zero_le h5
      obtain ⟨m, rfl⟩ := Int.eq_ofNat_of_zero_le (show 0 ≤ m by omega)
      have c4 := fun w => refFault_c (a : Int) (b : Int) (m : Int) w
      rw [hc] at c4
      have hu := fun x n x' n' => sol_unique (a := a) (b := b) (m := m) (x := x) (n := n) (x' := x') (n' := n') (by omega)
      by_cases hg : b % Nat.gcd a m = 0
      · have c1 := fun w => Solve_ok a b m w h4 h6 h2 hg
        have c2 := fun w => refSolve_ok a b m w h4 h6 h2 hg
        have HU := Lib.hid hu
        clear hc h1 h2 h3 h4 h5 h6 hg hu
        go_enter Try.func4, Try.ntmps4
        go_wp2_with fail
        refine (awake_c _).mono ?_; rintro e w1 ⟨rfl, q1⟩
        go_wp2_with fail
        refine (c1 _).mono ?_; rintro e w2 ⟨⟨x, n, hx, rfl⟩, q2⟩
        go_wp2_with fail
        refine (c4 _).mono ?_; rintro e w3 ⟨rfl, rfl⟩
        go_wp2_with fail
        refine (c2 _).mono ?_; rintro e w3 ⟨⟨x', n', hx', rfl⟩, q3⟩
        obtain ⟨rfl, rfl⟩ := HU.out _ _ _ _ hx.out hx'.out
        clear HU hx hx' c1 c2 c4
        go_wp2
        go_ret
        exact ⟨rfl, ((q1.trans q2).trans q3).grown⟩
      · have c1 := fun w => Solve_none a b m w h4 h6 h2 hg
        have c2 := fun w => refSolve_none a b m w h4 h6 h2 hg
        clear hc h1 h2 h3 h4 h5 h6 hg hu
        go_enter Try.func4, Try.ntmps4
        go_wp2_with fail
        refine (awake_c _).mono ?_; rintro e w1 ⟨rfl, q1⟩
        go_wp2_with fail
        refine (c1 _).mono ?_; rintro e w2 ⟨rfl, q2⟩
        go_wp2_with fail
        refine (c4 _).mono ?_; rintro e w3 ⟨rfl, rfl⟩
        go_wp2_with fail
        refine (c2 _).mono ?_; rintro e w3 ⟨rfl, q3⟩
        go_wp2
        go_ret
        exact ⟨rfl, ((q1.trans q2).trans q3).grown⟩
  · have hb : (chk a b m != 0) = true := by simpa using hc
    clear hc
    have c1 := fun w => Solve_err a b m w hb
    have c4 := fun w => refFault_c a b m w
    generalize chk a b m = k at *
    go_enter Try.func4, Try.ntmps4
    go_wp2_with fail
    refine (awake_c _).mono ?_; rintro e w1 ⟨rfl, q1⟩
    go_wp2_with fail
    refine (c1 _).mono ?_; rintro e w2 ⟨rfl, rfl⟩
    go_wp2_with fail
    refine (c4 _).mono ?_; rintro e w2 ⟨rfl, rfl⟩
    go_wp2
    go_ret
    exact ⟨rfl, q1.grown⟩
end Go.Proofs.Ytfhcaedkdjckhaa
