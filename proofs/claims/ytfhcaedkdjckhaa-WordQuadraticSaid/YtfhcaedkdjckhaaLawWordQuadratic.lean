/- The walk of the statement WordQuadratic: it returns true at every input. -/
import Derived.Test.YtfhcaedkdjckhaaWordG
import Derived.Test.YtfhcaedkdjckhaaQuad
import Derived.OpenShut
namespace Go.Proofs.Ytfhcaedkdjckhaa
open Go.RowKit DivMath WordMath QuadMath
set_option linter.unusedVariables false

theorem bounds_J (a n : Nat) : -1 ≤ J a n ∧ J a n ≤ 1 := by rcases J_range a n with h | h | h <;> rw [h] <;> omega

/-- what the trial division has shown so far -/
def Tried (n D : Nat) : Prop := ∀ d, 3 ≤ d → d % 2 = 1 → d < D → d * d ≤ n → n % d ≠ 0
theorem Tried.start (n : Nat) : Tried n 3 := fun d h1 _ h2 => by omega
theorem Tried.step {n D : Nat} (h : Tried n D) (hD : D % 2 = 1) (hn : n % D ≠ 0) : Tried n (D + 2) := by
  intro d h1 h2 h3 h4
  by_cases e : d = D
  · rw [e]; exact hn
  · exact h d h1 h2 (by omega) h4
theorem Tried.prime {n D : Nat} (h : Tried n D) (h3 : 3 ≤ n) (ho : n % 2 = 1) (hD : n < D * D) : QuadMath.Prime n := by
  refine prime_of h3 ho (fun d h1 h2 h4 => h d h1 h2 ?_ h4)
  apply Nat.lt_of_not_le; intro hl
  have := Nat.mul_le_mul hl hl
  omega
theorem small_sq {D : Nat} (h : D ≤ 258) : D * D ≤ 66564 := Nat.mul_le_mul h h
theorem root_lt {D n : Nat} (h : D * D ≤ n) (hn : n ≤ 65536) : D ≤ 256 := by
  apply Nat.le_of_not_lt; intro h2
  have : 257 * 257 ≤ D * D := Nat.mul_le_mul h2 h2
  omega

set_option maxRecDepth 100000 in
set_option maxHeartbeats 2000000 in
theorem WordQuadratic_main (a b n : Nat) (w : World) (h1 : 1 ≤ n) (hm : (n : Int) < Top) (h2 : n % 2 = 1) (ha : a < n) (hb : b < n) :
    Calls Try.prog 12 #[.int .i64 a, .int .i64 b, .int .i64 n] w fun e w' => e = .returned (.bool true) ∧ Grown w w' := by
  have hn2 : (n : Int) ≤ 2305843009213693951 := by unfold Top at hm; omega
  have c1 := fun w => Jacobi_ok a n w (by omega) hm h2
  have c2 := fun w => Jacobi_ok b n w (by omega) hm h2
  have c3 := fun w => Mul_ok a b n w (by omega) (by omega) hm
  have c4 := fun w => Mul_ok a a n w (by omega) (by omega) hm
  have hab : a * b % n < n := Nat.mod_lt _ (by omega)
  have haa : a * a % n < n := Nat.mod_lt _ (by omega)
  have c5 := fun w => Jacobi_ok (a * b % n) n w (by omega) hm h2
  have c6 := fun w => Jacobi_ok (a * a % n) n w (by omega) hm h2
  rw [J_mul h2] at c5 c6
  have bx := bounds_J a n
  have byy := bounds_J b n
  have hz := @J_zero_iff a n h2
  have c7 := fun w => Gcd_c a n w (by omega) (by omega) (by omega) (by omega)
  rw [gcdI_nat a n h1 (by omega)] at c7
  have c9 := fun w => Reduce_ok (J a n) n w (by omega) hm
  have c8 := fun w => Pow_ok a ((n - 1) / 2) n w (by omega) (by omega) hm
  have heu := fun hp : QuadMath.Prime n => euler hp h2 ha
  generalize hP : a ^ ((n - 1) / 2) % n = P at *
  have hE : ((n : Int) - 1) / 2 = ((((n - 1) / 2 : Nat)) : Int) := by omega
  generalize (n - 1) / 2 = E at *
  generalize a * b % n = p at *
  generalize a * a % n = q at *
  generalize J a n = X at *
  generalize J b n = Y at *
  have wxy : IntKind.i64.wrap (X * Y) = X * Y := by
    apply IntWalk.i64_in
    rcases (show X = -1 ∨ X = 0 ∨ X = 1 by omega) with rfl | rfl | rfl <;> omega
  have wxx : IntKind.i64.wrap (X * X) = X * X := by
    apply IntWalk.i64_in
    rcases (show X = -1 ∨ X = 0 ∨ X = 1 by omega) with rfl | rfl | rfl <;> omega
  obtain ⟨U, hU⟩ : ∃ U, U = X * Y := ⟨_, rfl⟩
  obtain ⟨V, hV⟩ : ∃ V, V = X * X := ⟨_, rfl⟩
  rw [← hU] at c5
  rw [← hV] at c6
  have wxy' : IntKind.i64.wrap (X * Y) = U := wxy.trans hU.symm
  have wxx' : IntKind.i64.wrap (X * X) = V := wxx.trans hV.symm
  have ht : Hid (Tried n 3) := Lib.hid (Tried.start n)
  clear hU hV wxy wxx
  generalize Nat.gcd a n = g at *
  have hg : ((X == 0) = true ∧ ((g : Int) != 1) = true) ∨ ((X == 0) = false ∧ ((g : Int) != 1) = false) := by
    by_cases e : X = 0
    · left; have := hz.1 e; refine ⟨by simp [e], ?_⟩; simp; omega
    · right
      have hg1 : g = 1 := by
        apply Classical.byContradiction; intro hne; exact e (hz.2 hne)
      subst hg1
      exact ⟨by simp [e], by simp⟩
  have HEU := Lib.hid heu
  have C8 := Lib.hid c8
  have C9 := Lib.hid c9
  have C1 := Lib.hid c1
  have C2 := Lib.hid c2
  have C3 := Lib.hid c3
  have C4 := Lib.hid c4
  have C5 := Lib.hid c5
  have C6 := Lib.hid c6
  have C7 := Lib.hid c7
  have H2 := Lib.hid h2
  have HE := Lib.hid hE
  have k1 : decide ((n : Int) < 1) = false := decide_eq_false (by omega)
  have k1' : decide (n < 1) = false := decide_eq_false (by omega)
  have k2 : decide (2305843009213693952 ≤ (n : Int)) = false := decide_eq_false (by omega)
  have k3 : ((n : Int) % 2 == 0) = false := by simp; omega
  have k4 : decide ((a : Int) < 0) = false := decide_eq_false (by omega)
  have k5 : decide (n ≤ a) = false := decide_eq_false (by omega)
  have k6 : decide ((b : Int) < 0) = false := decide_eq_false (by omega)
  have k7 : decide (n ≤ b) = false := decide_eq_false (by omega)
  have uu : (U != U) = false := by simp
  have vv : (V != V) = false := by simp
  clear hz heu c1 c2 c3 c4 c5 c6 c7 c8 c9 h2 hE hP hab haa hm ha hb
  rcases hg with ⟨g1, g2⟩ | ⟨g1, g2⟩
  all_goals
    go_enter Try.func12, Try.ntmps12
    go_wp2_with fail
    refine (awake_c _).mono ?_; rintro e w1 ⟨rfl, q1⟩
    go_wp2_with fail
    refine (C1.out _).mono ?_; rintro e w2 ⟨rfl, q2⟩
    go_wp2_with fail
    refine (C2.out _).mono ?_; rintro e w3 ⟨rfl, q3⟩
    go_wp2_with fail
    refine (C3.out _).mono ?_; rintro e w4 ⟨⟨r, hr, rfl⟩, q4⟩
    obtain rfl := hr.out
    clear hr
    go_wp2_with fail
    refine (C4.out _).mono ?_; rintro e w5 ⟨⟨r, hr, rfl⟩, q5⟩
    obtain rfl := hr.out
    clear hr
    go_wp2_with fail
    refine (C5.out _).mono ?_; rintro e w6 ⟨rfl, q6⟩
    go_wp2_with fail
    refine (C6.out _).mono ?_; rintro e w7 ⟨rfl, q7⟩
    go_wp2_with fail
    refine (C7.out _).mono ?_; rintro e w8 ⟨rfl, q8⟩
    have Q8 := Lib.hid (((((((q1.trans q2).trans q3).trans q4).trans q5).trans q6).trans q7).trans q8)
    clear q1 q2 q3 q4 q5 q6 q7 q8 C1 C2 C3 C4 C5 C6 C7 k1 k1' k2 k3 k4 k5 k6 k7
    by_cases l3 : n < 3
    · have t1 : decide ((n : Int) < 3) = true := decide_eq_true (by omega)
      go_wp2
      go_ret
      exact ⟨rfl, Q8.out.grown⟩
    · by_cases l4 : 65536 < n
      · have t1 : decide ((n : Int) < 3) = false := decide_eq_false (by omega)
        have t2 : decide (65536 < (n : Int)) = true := decide_eq_true (by omega)
        go_wp2
        go_ret
        exact ⟨rfl, Q8.out.grown⟩
      · have t1 : decide ((n : Int) < 3) = false := decide_eq_false (by omega)
        have t2 : decide (65536 < (n : Int)) = false := decide_eq_false (by omega)
        go_wp2
        clear t1 t2 uu vv wxy' wxx' g1 g2
        go_loop [17] (fun s17 => ∃ D : Nat, s17 = .int .i64 (D : Int) ∧ 3 ≤ D ∧ D ≤ 258 ∧ Hid (D % 2 = 1 ∧ Tried n D)) (fun s17 => (300 - RowKit.intOf s17).toNat)
        case atStart => exact ⟨3, rfl, by omega, by omega, Lib.hid ⟨rfl, ht.out⟩⟩
        case round =>
          obtain ⟨D, rfl, d1, d2, HD⟩ := hrel
          have hsq := small_sq d2
          have wq : IntKind.i64.wrap ((D : Int) * (D : Int)) = ((D * D : Nat) : Int) := by
            rw [← Int.natCast_mul]; exact IntWalk.i64_in _ (by omega)
          by_cases hc : D * D ≤ n
          · have t1 : decide (D * D ≤ n) = true := decide_eq_true hc
            have t1' : decide (((D * D : Nat) : Int) ≤ (n : Int)) = true := decide_eq_true (by omega)
            have hr := root_lt hc (by omega)
            have eM : (n : Int) % (D : Int) = ((n % D : Nat) : Int) := (Int.natCast_emod _ _).symm
            by_cases hd : n % D = 0
            · have t3 : (((n % D : Nat) : Int) == 0) = true := by rw [hd]; rfl
              generalize D * D = S at *
              generalize n % D = R at *
              clear hd HD
              go_wp2
              go_ret
              exact ⟨rfl, Q8.out.grown⟩
            · have t3 : (((n % D : Nat) : Int) == 0) = false := by simp; omega
              have HD2 : Hid ((D + 2) % 2 = 1 ∧ Tried n (D + 2)) := Lib.hid ⟨by have := HD.out.1; omega, HD.out.2.step HD.out.1 hd⟩
              generalize D * D = S at *
              generalize n % D = R at *
              clear hd HD
              go_wp2
              go_round
              case rel => exact ⟨D + 2, by go_num, by omega, by omega, HD2⟩
              case measure => simp [RowKit.intOf]; omega
          · have t1 : decide (D * D ≤ n) = false := decide_eq_false hc
            have t1' : decide (((D * D : Nat) : Int) ≤ (n : Int)) = false := decide_eq_false (by omega)
            have hpr := HD.out.2.prime (by omega) H2.out (by omega)
            have heu := HEU.out hpr
            have hp : (((P : Int)) == (P : Int)) = true := by simp
            rw [← heu] at C9
            have hE := HE.out
            generalize D * D = S at *
            clear heu hpr HD HEU HE hc
            go_wp2_with fail
            refine (C8.out _).mono ?_; rintro e w9 ⟨⟨r, hr, rfl⟩, q9⟩
            obtain rfl := hr.out
            clear hr
            go_wp2_with fail
            refine (C9.out _).mono ?_; rintro e w10 ⟨rfl, q10⟩
            go_wp2
            go_ret
            exact ⟨by simp, ((Q8.out.trans q9).trans q10).grown⟩

set_option maxRecDepth 100000 in
set_option maxHeartbeats 1000000 in
theorem WordQuadratic_out (a b n : Int) (w : World) (h : ¬ (1 ≤ n ∧ n < Top ∧ n % 2 = 1 ∧ 0 ≤ a ∧ a < n ∧ 0 ≤ b ∧ b < n)) :
    Calls Try.prog 12 #[.int .i64 a, .int .i64 b, .int .i64 n] w fun e w' => e = .returned (.bool true) ∧ Grown w w' := by
  unfold Top at h
  by_cases c1 : n < 1
  · have k1 : decide (n < 1) = true := decide_eq_true c1
    clear h c1
    go_enter Try.func12, Try.ntmps12
    go_wp2_with fail
    refine (awake_c _).mono ?_; rintro e w1 ⟨rfl, q1⟩
    go_wp2
    go_ret
    exact ⟨rfl, q1.grown⟩
  have k1 : decide (n < 1) = false := decide_eq_false c1
  have b1 : 1 ≤ n := by omega
  by_cases c2 : 2305843009213693952 ≤ n
  · have k2 : decide (2305843009213693952 ≤ n) = true := decide_eq_true c2
    clear h c1 c2
    go_enter Try.func12, Try.ntmps12
    go_wp2_with fail
    refine (awake_c _).mono ?_; rintro e w1 ⟨rfl, q1⟩
    go_wp2
    go_ret
    exact ⟨rfl, q1.grown⟩
  have k2 : decide (2305843009213693952 ≤ n) = false := decide_eq_false c2
  by_cases c3 : n % 2 = 0
  · have k3 : (n % 2 == 0) = true := by simp; omega
    clear h c1 c2 c3
    go_enter Try.func12, Try.ntmps12
    go_wp2_with fail
    refine (awake_c _).mono ?_; rintro e w1 ⟨rfl, q1⟩
    go_wp2
    go_ret
    exact ⟨rfl, q1.grown⟩
  have k3 : (n % 2 == 0) = false := by simp; omega
  by_cases c4 : a < 0
  · have k4 : decide (a < 0) = true := decide_eq_true c4
    clear h c1 c2 c3 c4
    go_enter Try.func12, Try.ntmps12
    go_wp2_with fail
    refine (awake_c _).mono ?_; rintro e w1 ⟨rfl, q1⟩
    go_wp2
    go_ret
    exact ⟨rfl, q1.grown⟩
  have k4 : decide (a < 0) = false := decide_eq_false c4
  by_cases c5 : n ≤ a
  · have k5 : decide (n ≤ a) = true := decide_eq_true c5
    clear h c1 c2 c3 c4 c5
    go_enter Try.func12, Try.ntmps12
    go_wp2_with fail
    refine (awake_c _).mono ?_; rintro e w1 ⟨rfl, q1⟩
    go_wp2
    go_ret
    exact ⟨rfl, q1.grown⟩
  have k5 : decide (n ≤ a) = false := decide_eq_false c5
  by_cases c6 : b < 0
  · have k6 : decide (b < 0) = true := decide_eq_true c6
    clear h c1 c2 c3 c4 c5 c6
    go_enter Try.func12, Try.ntmps12
    go_wp2_with fail
    refine (awake_c _).mono ?_; rintro e w1 ⟨rfl, q1⟩
    go_wp2
    go_ret
    exact ⟨rfl, q1.grown⟩
  have k6 : decide (b < 0) = false := decide_eq_false c6
  have c7 : n ≤ b := by omega
  have k7 : decide (n ≤ b) = true := decide_eq_true c7
  clear h c1 c2 c3 c4 c5 c6 c7
  go_enter Try.func12, Try.ntmps12
  go_wp2_with fail
  refine (awake_c _).mono ?_; rintro e w1 ⟨rfl, q1⟩
  go_wp2
  go_ret
  exact ⟨rfl, q1.grown⟩

theorem WordQuadratic_walk (a b n : Int) (wa : (Lit.int .i64 a).wf = true) (wb : (Lit.int .i64 b).wf = true) (wn : (Lit.int .i64 n).wf = true) (w : World) :
    Calls Try.prog 12 #[.int .i64 a, .int .i64 b, .int .i64 n] w fun e w' => e = .returned (.bool true) ∧ Grown w w' := by
  by_cases h : 1 ≤ n ∧ n < Top ∧ n % 2 = 1 ∧ 0 ≤ a ∧ a < n ∧ 0 ≤ b ∧ b < n
  · obtain ⟨h1, h2, h3, h4, h5, h6, h7⟩ := h
    obtain ⟨a, rfl⟩ := Int.eq_ofNat_of_zero_le h4
    obtain ⟨b, rfl⟩ := Int.eq_ofNat_of_zero_le h6
    obtain ⟨n, rfl⟩ := Int.eq_ofNat_of_zero_le (show 0 ≤ n by omega)
    exact WordQuadratic_main a b n w (by omega) h2 (by omega) (by omega) (by omega)
  · exact WordQuadratic_out a b n w h
end Go.Proofs.Ytfhcaedkdjckhaa
