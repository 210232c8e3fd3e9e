/- The walk of the statement WordInverses: it returns true at every input. -/
import Derived.Test.YtfhcaedkdjckhaaWordG
namespace Go.Proofs.Ytfhcaedkdjckhaa
open Go.RowKit DivMath WordMath
set_option linter.unusedVariables false

theorem chk0 (a m : Int) : chk a 0 m = chk a a m := by
  unfold chk
  by_cases h1 : m < 1 ∨ Top ≤ m
  · rw [if_pos h1, if_pos h1]
  · rw [if_neg h1, if_neg h1]
    by_cases h2 : (0 ≤ a ∧ a < m)
    · rw [if_pos ⟨h2, by omega, by omega⟩, if_pos ⟨h2, h2⟩]
    · rw [if_neg (fun h => h2 h.1), if_neg (fun h => h2 h.1)]

set_option maxHeartbeats 1000000 in
theorem WordInverses_walk (a m : Int) (wa : (Lit.int .i64 a).wf = true) (wm : (Lit.int .i64 m).wf = true) (w : World) :
    Calls Try.prog 3 #[.int .i64 a, .int .i64 m] w fun e w' => e = .returned (.bool true) ∧ Grown w w' := by
  clear wa wm
  by_cases hc : chk a a m = 0
  · rcases chk_cases a a m with ⟨_, h⟩ | ⟨_, _, h⟩ | ⟨⟨h1, h2⟩, ⟨h3, h4⟩, _, h⟩
    · omega
    · omega
    · clear h
      obtain ⟨a, rfl⟩ := Int.eq_ofNat_of_zero_le h3
      obtain ⟨m, rfl⟩ := Int.eq_ofNat_of_zero_le (show 0 ≤ m by omega)
      have h2' : (m : Int) ≤ 2305843009213693951 := by unfold Top at h2; omega
      have c4 := fun w => refFault_c (a : Int) 0 (m : Int) w
      rw [chk0, hc] at c4
      have cg := fun w => refGcd_c (a : Int) (m : Int) w (by omega) (by omega) (by omega) (by omega)
      rw [gcdI_nat a m (by omega) (by omega)] at cg
      by_cases hg : Nat.gcd a m = 1
      · have c1 := fun w => Inverse_ok a m w h4 h2 hg
        rw [hg] at cg
        have c7 := fun (x : Nat) (hx : (x : Int) < (m : Int)) w => refMul_c a x m w (by omega) (by omega) h1 h2
        have cr := fun (x : Nat) w => refResidue_c (x : Int) (m : Int) w
        have e1 : (1 : Int) % (m : Int) = ((1 % m : Nat) : Int) := rfl
        have hmz : ((m : Int) == 0) = false := by simp; omega
        have hmz2 : (m == 0) = false := by simp; omega
        have C1 := Lib.hid c1
        have CG := Lib.hid cg
        have C4 := Lib.hid c4
        have C7 := Lib.hid c7
        have CR := Lib.hid cr
        clear hc h2 h3 hg c1 cg c4 c7 cr
        go_enter Try.func3, Try.ntmps3
        go_wp2_with fail
        refine (awake_c _).mono ?_; rintro e w1 ⟨rfl, q1⟩
        go_wp2_with fail
        refine (C1.out _).mono ?_; rintro e w2 ⟨⟨x, hx, rfl⟩, q2⟩
        have hxm : (x : Int) < (m : Int) := by have := hx.out.1; omega
        have hres : resid (x : Int) (m : Int) = true := decide_eq_true ⟨by omega, hxm⟩
        go_wp2_with fail
        refine (C4.out _).mono ?_; rintro e w3 ⟨rfl, rfl⟩
        go_wp2_with fail
        refine (CG.out _).mono ?_; rintro e w3 ⟨rfl, q3⟩
        have cq1 : ∀ w, Calls Try.prog 17 #[.int .i64 x, .int .i64 m] w fun e w' => e = .returned (.bool true) ∧ Qw w w' := fun w =>
          (CR.out x w).mono fun e w' ⟨he, hw⟩ => ⟨by rw [he, hres], by rw [← hw]; exact Qw.refl _⟩
        have cq2 : ∀ w, Calls Try.prog 18 #[.int .i64 a, .int .i64 x, .int .i64 m] w fun e w' => e = .returned (.int .i64 ((1 % m : Nat) : Int)) ∧ Qw w w' := fun w =>
          (C7.out x hxm w).mono fun e w' ⟨⟨r, hr, he⟩, hw⟩ => ⟨by rw [he, hr.out, hx.out.2], hw⟩
        have e1r := e1
        generalize ((1 % m : Nat) : Int) = o at *
        have CQ1 := Lib.hid cq1
        have CQ2 := Lib.hid cq2
        clear hx C1 CG C4 C7 CR cq1 cq2 e1r
        go_wp2_with fail
        go_quiet ((first | (go_at_call 17; exact Calls.quiet_of (CQ1.out _)) | (go_at_call 18; exact Calls.quiet_of (CQ2.out _))))
        go_wp2
        go_ret
        exact ⟨by simp [e1], (((q1.trans q2).trans q3).drewN _).grown⟩
      · have c1 := fun w => Inverse_none a m w h4 h2 hg
        have hne : (((Nat.gcd a m : Nat) : Int) != 1) = true := by simp; omega
        generalize Nat.gcd a m = d at *
        clear hc h2 h3 hg
        go_enter Try.func3, Try.ntmps3
        go_wp2_with fail
        refine (awake_c _).mono ?_; rintro e w1 ⟨rfl, q1⟩
        go_wp2_with fail
        refine (c1 _).mono ?_; rintro e w2 ⟨rfl, q2⟩
        go_wp2_with fail
        refine (c4 _).mono ?_; rintro e w3 ⟨rfl, rfl⟩
        go_wp2_with fail
        refine (cg _).mono ?_; rintro e w3 ⟨rfl, q3⟩
        go_wp2
        go_ret
        exact ⟨rfl, ((q1.trans q2).trans q3).grown⟩
  · have hb : (chk a a m != 0) = true := by simpa using hc
    clear hc
    have c1 := fun w => Inverse_err a m w hb
    have c4 := fun w => refFault_c a 0 m w
    rw [chk0] at c4
    generalize chk a a m = k at *
    go_enter Try.func3, Try.ntmps3
    go_wp2_with fail
    refine (awake_c _).mono ?_; rintro e w1 ⟨rfl, q1⟩
    go_wp2_with fail
    refine (c1 _).mono ?_; rintro e w2 ⟨rfl, rfl⟩
    go_wp2_with fail
    refine (c4 _).mono ?_; rintro e w2 ⟨rfl, rfl⟩
    go_wp2
    go_ret
    exact ⟨rfl, q1.grown⟩
end Go.Proofs.Ytfhcaedkdjckhaa
