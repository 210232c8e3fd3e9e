/- The walk of the statement WordExponents: it returns true at every input. -/
import Derived.Test.YtfhcaedkdjckhaaWordG
import Derived.OpenShut
namespace Go.Proofs.Ytfhcaedkdjckhaa
open Go.RowKit DivMath WordMath
set_option linter.unusedVariables false

theorem pow_sum (a e f m : Nat) : a ^ e % m * (a ^ f % m) % m = a ^ (e + f) % m := by rw [← Nat.mul_mod, Nat.pow_add]
theorem pow_base (a b e m : Nat) : a ^ e % m * (b ^ e % m) % m = (a * b % m) ^ e % m := by rw [← Nat.mul_mod, ← Nat.pow_mod, Nat.mul_pow]
theorem pow_twice (a e k m : Nat) : (a ^ e % m) ^ k % m = a ^ (e * k) % m := by rw [← Nat.pow_mod, Nat.pow_mul]

theorem small_prod (x k : Nat) (hx : x ≤ 4294967295) (hk : k ≤ 999) : x * k ≤ 4290672328705 :=
  Nat.le_trans (Nat.mul_le_mul hx hk) (by decide)

/-- the guard of the statement: it answers at once, or all is in range -/
theorem exp_guard (a b m : Int) : (decide (m < 1) = true) ∨ (decide (m < 1) = false ∧ decide (2305843009213693952 ≤ m) = true) ∨ (decide (m < 1) = false ∧ decide (2305843009213693952 ≤ m) = false ∧ decide (a < 0) = true) ∨
    (decide (m < 1) = false ∧ decide (2305843009213693952 ≤ m) = false ∧ decide (a < 0) = false ∧ decide (m ≤ a) = true) ∨
    (decide (m < 1) = false ∧ decide (2305843009213693952 ≤ m) = false ∧ decide (a < 0) = false ∧ decide (m ≤ a) = false ∧ decide (b < 0) = true) ∨
    (decide (m < 1) = false ∧ decide (2305843009213693952 ≤ m) = false ∧ decide (a < 0) = false ∧ decide (m ≤ a) = false ∧ decide (b < 0) = false ∧ decide (m ≤ b) = true) ∨
    (1 ≤ m ∧ m < Top ∧ 0 ≤ a ∧ a < m ∧ 0 ≤ b ∧ b < m) := by
  simp only [decide_eq_true_eq, decide_eq_false_iff_not]
  unfold Top
  omega

set_option maxRecDepth 100000 in
set_option maxHeartbeats 2000000 in
theorem WordExponents_walk (a b m x f : Int) (wa : (Lit.int .i64 a).wf = true) (wb : (Lit.int .i64 b).wf = true) (wm : (Lit.int .i64 m).wf = true) (wx : (Lit.int .u32 x).wf = true) (wf : (Lit.int .u32 f).wf = true) (w : World) :
    Calls Try.prog 9 #[.int .i64 a, .int .i64 b, .int .i64 m, .int .u32 x, .int .u32 f] w fun e w' => e = .returned (.bool true) ∧ Grown w w' := by
  have bx := bounds_u32 wx
  have bf := bounds_u32 wf
  clear wa wb wm wx wf
  rcases exp_guard a b m with k1 | ⟨k1, k2⟩ | ⟨k1, k2, k3⟩ | ⟨k1, k2, k3, k4⟩ | ⟨k1, k2, k3, k4, k5⟩ | ⟨k1, k2, k3, k4, k5, k6⟩ | ⟨h1, h2, h3, h4, h5, h6⟩
  iterate 6
    · clear bx bf
      go_enter Try.func9, Try.ntmps9
      go_wp2_with fail
      refine (awake_c _).mono ?_; rintro e w1 ⟨rfl, q1⟩
      go_wp2
      go_ret
      exact ⟨rfl, q1.grown⟩
  obtain ⟨a, rfl⟩ := Int.eq_ofNat_of_zero_le h3
  obtain ⟨b, rfl⟩ := Int.eq_ofNat_of_zero_le h5
  obtain ⟨m, rfl⟩ := Int.eq_ofNat_of_zero_le (show 0 ≤ m by omega)
  obtain ⟨x, rfl⟩ := Int.eq_ofNat_of_zero_le bx.1
  obtain ⟨f, rfl⟩ := Int.eq_ofNat_of_zero_le bf.1
  have k1 : decide ((m : Int) < 1) = false := decide_eq_false (by omega)
  have k2 : decide (2305843009213693952 ≤ (m : Int)) = false := decide_eq_false (by unfold Top at h2; omega)
  have k3 : decide ((a : Int) < 0) = false := decide_eq_false (by omega)
  have k4 : decide ((m : Int) ≤ (a : Int)) = false := decide_eq_false (by omega)
  have k4' : decide (m ≤ a) = false := decide_eq_false (by omega)
  have k5 : decide ((b : Int) < 0) = false := decide_eq_false (by omega)
  have k6 : decide ((m : Int) ≤ (b : Int)) = false := decide_eq_false (by omega)
  have k6' : decide (m ≤ b) = false := decide_eq_false (by omega)
  obtain ⟨k, hk⟩ : ∃ k, k = f % 1000 := ⟨_, rfl⟩
  have ek : (f : Int) % 1000 = (k : Int) := by omega
  have bk : (k : Int) ≤ 999 := by omega
  have hp := small_prod x k (by omega) (by omega)
  obtain ⟨p, hp'⟩ : ∃ p, p = x * k := ⟨_, rfl⟩
  rw [← hp'] at hp
  have bp : (p : Int) ≤ 4290672328705 := by omega
  have ep : wrap64 ((x : Int) * (k : Int)) = (p : Int) := by
    rw [hp', ← Int.natCast_mul, ← hp']; exact IntWalk.wrap64_in _ ⟨by omega, by omega⟩
  have hx1 : (x : Int) ≤ 4294967295 := bx.2
  have hf1 : (f : Int) ≤ 4294967295 := bf.2
  have lt_of : ∀ (r t : Nat), r = t % m → (r : Int) < (m : Int) := by
    intro r t h; rw [h]; have := Nat.mod_lt t (show 0 < m by omega); omega
  have LT := Lib.hid lt_of
  have HM := Lib.hid h2
  have HK := Lib.hid hk
  have HP := Lib.hid hp'
  clear hk hp' hp bx bf h2 h3 h5 lt_of
  go_enter Try.func9, Try.ntmps9
  go_wp2_with fail
  refine (awake_c _).mono ?_; rintro e w1 ⟨rfl, q1⟩
  go_wp2_with fail
  refine (Pow_ok a x m _ h4 (by omega) HM.out).mono ?_; rintro e w2 ⟨⟨X, e1, rfl⟩, q2⟩
  go_wp2_with fail
  refine (Pow_ok a f m _ h4 (by omega) HM.out).mono ?_; rintro e w3 ⟨⟨Y, e2, rfl⟩, q3⟩
  go_wp2_with fail
  refine (Pow_ok a (x + f) m _ h4 (by omega) HM.out).mono ?_; rintro e w4 ⟨⟨S, e3, rfl⟩, q4⟩
  have Q1 := ((q1.trans q2).trans q3).trans q4
  clear q1 q2 q3 q4
  have b1 := LT.out _ _ e1.out
  have b2 := LT.out _ _ e2.out
  go_wp2_with fail
  refine (Mul_ok X Y m _ b1 b2 HM.out).mono ?_; rintro e w5 ⟨⟨XY, e4, rfl⟩, q1⟩
  obtain rfl : XY = S := by rw [e4.out, e3.out, e1.out, e2.out]; exact pow_sum a x f m
  go_wp2_with fail
  refine (Pow_ok b x m _ h6 (by omega) HM.out).mono ?_; rintro e w6 ⟨⟨Z, e5, rfl⟩, q2⟩
  have b5 := LT.out _ _ e5.out
  go_wp2_with fail
  refine (Mul_ok a b m _ h4 h6 HM.out).mono ?_; rintro e w7 ⟨⟨AB, e6, rfl⟩, q3⟩
  have b6 := LT.out _ _ e6.out
  have Q2 := ((Q1.trans q1).trans q2).trans q3
  clear q1 q2 q3 Q1
  go_wp2_with fail
  refine (Mul_ok X Z m _ b1 b5 HM.out).mono ?_; rintro e w8 ⟨⟨XZ, e7, rfl⟩, q1⟩
  go_wp2_with fail
  refine (Pow_ok AB x m _ b6 (by omega) HM.out).mono ?_; rintro e w9 ⟨⟨P, e8, rfl⟩, q2⟩
  obtain rfl : XZ = P := by rw [e7.out, e8.out, e1.out, e5.out, e6.out]; exact pow_base a b x m
  go_wp2_with fail
  refine (Pow_ok X k m _ b1 (by omega) HM.out).mono ?_; rintro e w10 ⟨⟨T, e9, rfl⟩, q3⟩
  go_wp2_with fail
  refine (Pow_ok a p m _ h4 (by omega) HM.out).mono ?_; rintro e w11 ⟨⟨U, e10, rfl⟩, q4⟩
  obtain rfl : T = U := by rw [e9.out, e10.out, e1.out, HP.out]; exact pow_twice a x k m
  have Q3 := (((Q2.trans q1).trans q2).trans q3).trans q4
  clear q1 q2 q3 q4 Q2 e1 e2 e3 e4 e5 e6 e7 e8 e9 e10
  go_wp2
  go_ret
  exact ⟨by simp, Q3.grown⟩
end Go.Proofs.Ytfhcaedkdjckhaa
