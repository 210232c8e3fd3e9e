/- The contracts of powers, inverses, linear congruences, and the Jacobi symbol: package word and the reference. -/
import Derived.Test.YtfhcaedkdjckhaaWordC
namespace Go.Proofs.Ytfhcaedkdjckhaa
open Go.RowKit DivMath WordMath
set_option linter.unusedVariables false

theorem and_one_i64 (E : Nat) (h : E < 9223372036854775808) : bits .and .i64 (E : Int) 1 = ((E % 2 : Nat) : Int) := by
  have h1 : (BitVec.ofInt 64 (E : Int)).toNat = E := by
    rw [BitVec.ofInt_natCast, BitVec.toNat_ofNat]; exact Nat.mod_eq_of_lt (by omega)
  show IntKind.i64.wrap ((BitVec.ofInt 64 (E : Int) &&& BitVec.ofInt 64 (1 : Int)).toNat : Int) = _
  have h2 : (BitVec.ofInt 64 (1 : Int)).toNat = 1 := by decide
  rw [BitVec.toNat_and, h1, h2, Nat.and_one_is_mod, IntKind.wrap_i64]
  omega

set_option maxHeartbeats 1000000 in
theorem Pow_ok (a e m : Nat) (w : World) (ha : (a : Int) < (m : Int)) (he : (e : Int) ≤ 9223372036854775807) (hm : (m : Int) < Top) :
    Calls Try.prog 28 #[.int .i64 a, .int .i64 e, .int .i64 m] w fun e' w' => RetE (fun r => r = a ^ e % m) e' ∧ Qw w w' := by
  have hc : chk (a : Int) (a : Int) (m : Int) = 0 := by
    unfold Top at hm; unfold chk Top; rw [if_neg (by omega), if_pos (by omega)]
  have hm0 : 1 ≤ (m : Int) := by omega
  have hmz : ((m : Int) == 0) = false := by simp; omega
  have hmz2 : (m == 0) = false := by simp; omega
  have hm' : (m : Int) ≤ 2305843009213693951 := by unfold Top at hm; omega
  obtain ⟨o, ho⟩ : ∃ o : Nat, o = 1 % m := ⟨_, rfl⟩
  have eo : (1 : Int) % (m : Int) = (o : Int) := by rw [ho]; rfl
  have bo : (o : Int) < (m : Int) := by rw [ho]; have := Nat.mod_lt 1 (show 0 < m by omega); omega
  have hst : Hid (o * a ^ e % m = a ^ e % m) := Lib.hid (by rw [ho, Nat.mul_mod, Nat.mod_mod, ← Nat.mul_mod, Nat.one_mul])
  have hen : decide ((e : Int) < 0) = false := decide_eq_false (by omega)
  have EO := Lib.hid eo
  clear ho eo
  have hm2 := Lib.hid hm
  clear hm
  have cc := fun w => check_c (a : Int) (a : Int) (m : Int) w
  rw [hc] at cc
  clear hc
  go_enter Try.func28, Try.ntmps28
  go_wp2_with (first | (go_at_call 32; refine (cc _).mono ?_; rintro e w' ⟨rfl, rfl⟩))
  clear cc
  go_loopw [0, 1, 9] (fun s0 s1 s9 wr => ∃ A E X : Nat, s0 = .int .i64 A ∧ s1 = .int .i64 E ∧ s9 = .int .i64 X ∧ (A : Int) < (m : Int) ∧ (E : Int) ≤ 9223372036854775807 ∧ (X : Int) < (m : Int) ∧ Hid (X * A ^ E % m = a ^ e % m) ∧ Qw w wr) (fun _ s1 _ _ => (RowKit.intOf s1).toNat)
  case atStart => exact ⟨a, e, o, rfl, rfl, congrArg (Value.int .i64) EO.out, ha, he, bo, hst, Qw.refl _⟩
  case round =>
    obtain ⟨A, E, X, rfl, rfl, rfl, hA, hE, hX, HI, n, rfl⟩ := hrel
    by_cases h0 : E = 0
    · have hdone : Hid (X = a ^ e % m) := Lib.hid (by
        have := HI.out
        rw [h0, Nat.pow_zero, Nat.mul_one, Nat.mod_eq_of_lt (by omega)] at this
        exact this)
      subst h0
      clear HI
      go_wp2
      go_ret2
      exact ⟨⟨X, hdone, rfl⟩, _, rfl⟩
    · have hg : decide (0 < E) = true := decide_eq_true (by omega)
      have hp := pow_half X A E m
      rw [HI.out] at hp
      have eb := and_one_i64 E (by omega)
      by_cases h2 : E % 2 = 1
      · rw [if_pos h2] at hp
        rw [h2] at eb
        have HP := Lib.hid hp
        clear hp HI h2
        go_wp2_with fail
        refine (mul_c X A m _ hX hA hm2.out).mono ?_; rintro e1 w1 ⟨⟨X2, hX2, rfl⟩, n1, rfl⟩
        have bX2 : (X2 : Int) < (m : Int) := by rw [hX2.out]; have := Nat.mod_lt (X * A) (show 0 < m by omega); omega
        go_wp2_with fail
        refine (mul_c A A m _ hA hA hm2.out).mono ?_; rintro e1 w1 ⟨⟨A2, hA2, rfl⟩, n2, rfl⟩
        have bA2 : (A2 : Int) < (m : Int) := by rw [hA2.out]; have := Nat.mod_lt (A * A) (show 0 < m by omega); omega
        have HR : Hid (X2 * A2 ^ (E / 2) % m = a ^ e % m) := Lib.hid (by rw [hX2.out, hA2.out]; exact HP.out)
        clear HP hX2 hA2
        go_wp2
        go_roundw
        case rel => exact ⟨A2, E / 2, X2, rfl, by go_num, rfl, bA2, by omega, bX2, HR, _, rfl⟩
        case measure => simp [RowKit.intOf]; omega
      · rw [if_neg h2] at hp
        rw [show E % 2 = 0 by omega] at eb
        have HP := Lib.hid hp
        clear hp HI h2
        go_wp2_with fail
        refine (mul_c A A m _ hA hA hm2.out).mono ?_; rintro e1 w1 ⟨⟨A2, hA2, rfl⟩, n2, rfl⟩
        have bA2 : (A2 : Int) < (m : Int) := by rw [hA2.out]; have := Nat.mod_lt (A * A) (show 0 < m by omega); omega
        have HR : Hid (X * A2 ^ (E / 2) % m = a ^ e % m) := Lib.hid (by rw [hA2.out]; exact HP.out)
        clear HP hA2
        go_wp2
        go_roundw
        case rel => exact ⟨A2, E / 2, X, rfl, by go_num, rfl, bA2, by omega, hX, HR, _, rfl⟩
        case measure => simp [RowKit.intOf]; omega

set_option maxHeartbeats 400000 in
theorem Pow_err (a e m : Int) (w : World) (hc : (chk a a m != 0) = true) :
    Calls Try.prog 28 #[.int .i64 a, .int .i64 e, .int .i64 m] w fun e' w' => e' = .returned (.tuple #[.int .i64 0, .int .i64 (chk a a m)]) ∧ w = w' := by
  go_enter Try.func28, Try.ntmps28
  go_wp2_with (first | (go_at_call 32; refine (check_c _ _ _ _).mono ?_; rintro e w' ⟨rfl, rfl⟩))
  go_ret2
  exact ⟨rfl, rfl⟩

set_option maxHeartbeats 400000 in
theorem Pow_neg (a e m : Int) (w : World) (hc : chk a a m = 0) (he : e < 0) :
    Calls Try.prog 28 #[.int .i64 a, .int .i64 e, .int .i64 m] w fun e' w' => e' = .returned (.tuple #[.int .i64 0, .int .i64 2]) ∧ w = w' := by
  have hg : decide (e < 0) = true := decide_eq_true he
  go_enter Try.func28, Try.ntmps28
  go_wp2_with (first | (go_at_call 32; refine (check_c _ _ _ _).mono ?_; rintro e w' ⟨rfl, rfl⟩))
  go_ret2
  exact ⟨rfl, rfl⟩

set_option maxHeartbeats 1000000 in
/-- the reference's power, of a number below 2^61 (a residue, or not) -/
theorem refPow_c (a e m : Nat) (w : World) (ha : (a : Int) ≤ 2305843009213693951) (he : (e : Int) ≤ 9223372036854775807) (hm1 : 1 ≤ (m : Int)) (hm : (m : Int) < Top) :
    Calls Try.prog 29 #[.int .i64 a, .int .i64 e, .int .i64 m] w fun e' w' => RetN (fun r => r = a ^ e % m) e' ∧ Qw w w' := by
  have hmz : ((m : Int) == 0) = false := by simp; omega
  have hmz2 : (m == 0) = false := by simp; omega
  have hm' : (m : Int) ≤ 2305843009213693951 := by unfold Top at hm; omega
  obtain ⟨o, ho⟩ : ∃ o : Nat, o = 1 % m := ⟨_, rfl⟩
  have eo : (1 : Int) % (m : Int) = (o : Int) := by rw [ho]; rfl
  have bo : (o : Int) < (m : Int) := by rw [ho]; have := Nat.mod_lt 1 (show 0 < m by omega); omega
  have hst : Hid (o * a ^ e % m = a ^ e % m) := Lib.hid (by rw [ho, Nat.mul_mod, Nat.mod_mod, ← Nat.mul_mod, Nat.one_mul])
  have EO := Lib.hid eo
  clear ho eo
  have hm2 := Lib.hid hm
  clear hm
  go_enter Try.func29, Try.ntmps29
  go_wp2
  go_loopw [0, 1, 7] (fun s0 s1 s9 wr => ∃ A E X : Nat, s0 = .int .i64 A ∧ s1 = .int .i64 E ∧ s9 = .int .i64 X ∧ (A : Int) ≤ 2305843009213693951 ∧ (E : Int) ≤ 9223372036854775807 ∧ (X : Int) < (m : Int) ∧ Hid (X * A ^ E % m = a ^ e % m) ∧ Qw w wr) (fun _ s1 _ _ => (RowKit.intOf s1).toNat)
  case atStart => exact ⟨a, e, o, rfl, rfl, congrArg (Value.int .i64) EO.out, ha, he, bo, hst, Qw.refl _⟩
  case round =>
    obtain ⟨A, E, X, rfl, rfl, rfl, hA, hE, hX, HI, n, rfl⟩ := hrel
    by_cases h0 : E = 0
    · have hdone : Hid (X = a ^ e % m) := Lib.hid (by
        have := HI.out
        rw [h0, Nat.pow_zero, Nat.mul_one, Nat.mod_eq_of_lt (by omega)] at this
        exact this)
      subst h0
      clear HI
      go_wp2
      go_ret
      exact ⟨⟨X, hdone, rfl⟩, _, rfl⟩
    · have hg : decide (0 < E) = true := decide_eq_true (by omega)
      have hp := pow_half X A E m
      rw [HI.out] at hp
      by_cases h2 : E % 2 = 1
      · have ht : ((E : Int) % 2 == 1) = true := by simp; omega
        rw [if_pos h2] at hp
        have HP := Lib.hid hp
        clear hp HI h2
        go_wp2_with fail
        refine (refMul_c X A m _ (by omega) (by omega) hm1 hm2.out).mono ?_; rintro e1 w1 ⟨⟨X2, hX2, rfl⟩, n1, rfl⟩
        have bX2 : (X2 : Int) < (m : Int) := by rw [hX2.out]; have := Nat.mod_lt (X * A) (show 0 < m by omega); omega
        go_wp2_with fail
        refine (refMul_c A A m _ (by omega) (by omega) hm1 hm2.out).mono ?_; rintro e1 w1 ⟨⟨A2, hA2, rfl⟩, n2, rfl⟩
        have bA2 : (A2 : Int) < (m : Int) := by rw [hA2.out]; have := Nat.mod_lt (A * A) (show 0 < m by omega); omega
        have HR : Hid (X2 * A2 ^ (E / 2) % m = a ^ e % m) := Lib.hid (by rw [hX2.out, hA2.out]; exact HP.out)
        clear HP hX2 hA2
        go_wp2
        go_roundw
        case rel => exact ⟨A2, E / 2, X2, rfl, by go_num, rfl, by omega, by omega, bX2, HR, _, rfl⟩
        case measure => simp [RowKit.intOf]; omega
      · have ht : ((E : Int) % 2 == 1) = false := by simp; omega
        rw [if_neg h2] at hp
        have HP := Lib.hid hp
        clear hp HI h2
        go_wp2_with fail
        refine (refMul_c A A m _ (by omega) (by omega) hm1 hm2.out).mono ?_; rintro e1 w1 ⟨⟨A2, hA2, rfl⟩, n2, rfl⟩
        have bA2 : (A2 : Int) < (m : Int) := by rw [hA2.out]; have := Nat.mod_lt (A * A) (show 0 < m by omega); omega
        have HR : Hid (X * A2 ^ (E / 2) % m = a ^ e % m) := Lib.hid (by rw [hA2.out]; exact HP.out)
        clear HP hA2
        go_wp2
        go_roundw
        case rel => exact ⟨A2, E / 2, X, rfl, by go_num, rfl, by omega, by omega, hX, HR, _, rfl⟩
        case measure => simp [RowKit.intOf]; omega

/-! ### inverses -/

set_option maxHeartbeats 400000 in
theorem Inverse_ok (a m : Nat) (w : World) (ha : (a : Int) < (m : Int)) (hm : (m : Int) < Top) (hg : Nat.gcd a m = 1) :
    Calls Try.prog 14 #[.int .i64 a, .int .i64 m] w fun e w' => RetE (fun r => r < m ∧ a * r % m = 1 % m) e ∧ Qw w w' := by
  have hc : chk (a : Int) (a : Int) (m : Int) = 0 := by
    unfold Top at hm; unfold chk Top; rw [if_neg (by omega), if_pos (by omega)]
  have ce := fun w => euclid_c a m w ha hm
  rw [hg] at ce
  clear hg
  go_enter Try.func14, Try.ntmps14
  go_wp2_with fail
  refine (check_c _ _ _ _).mono ?_; rintro e w' ⟨rfl, rfl⟩
  go_wp2_with fail
  refine (ce _).mono ?_; rintro e w' ⟨⟨d, x, hdx, rfl⟩, n, rfl⟩
  obtain ⟨rfl, hx⟩ := hdx.out
  have HX := Lib.hid hx
  clear hx hdx ce
  go_wp2
  go_ret2
  exact ⟨⟨x, HX, rfl⟩, _, rfl⟩

set_option maxHeartbeats 400000 in
theorem Inverse_none (a m : Nat) (w : World) (ha : (a : Int) < (m : Int)) (hm : (m : Int) < Top) (hg : Nat.gcd a m ≠ 1) :
    Calls Try.prog 14 #[.int .i64 a, .int .i64 m] w fun e w' => e = .returned (.tuple #[.int .i64 0, .int .i64 10]) ∧ Qw w w' := by
  have hc : chk (a : Int) (a : Int) (m : Int) = 0 := by
    unfold Top at hm; unfold chk Top; rw [if_neg (by omega), if_pos (by omega)]
  have ce := fun w => euclid_c a m w ha hm
  go_enter Try.func14, Try.ntmps14
  go_wp2_with fail
  refine (check_c _ _ _ _).mono ?_; rintro e w' ⟨rfl, rfl⟩
  go_wp2_with fail
  refine (ce _).mono ?_; rintro e w' ⟨⟨d, x, hdx, rfl⟩, n, rfl⟩
  have hd : ((d : Int) != 1) = true := by rw [hdx.out.1]; simp; omega
  clear hdx ce hg
  go_wp2
  go_ret2
  exact ⟨rfl, _, rfl⟩

set_option maxHeartbeats 400000 in
theorem Inverse_err (a m : Int) (w : World) (hc : (chk a a m != 0) = true) :
    Calls Try.prog 14 #[.int .i64 a, .int .i64 m] w fun e w' => e = .returned (.tuple #[.int .i64 0, .int .i64 (chk a a m)]) ∧ w = w' := by
  go_enter Try.func14, Try.ntmps14
  go_wp2_with (first | (go_at_call 32; refine (check_c _ _ _ _).mono ?_; rintro e w' ⟨rfl, rfl⟩))
  go_ret2
  exact ⟨rfl, rfl⟩

end Go.Proofs.Ytfhcaedkdjckhaa
