/- The contracts of the Jacobi symbol: package word and the reference; and the examples of the chapter. -/
import Derived.Test.YtfhcaedkdjckhaaWordE
namespace Go.Proofs.Ytfhcaedkdjckhaa
open Go.RowKit DivMath WordMath
set_option linter.unusedVariables false

theorem two_yes {n : Nat} (h : n % 8 = 3 ∨ n % 8 = 5) : WordMath.two n = -1 := by unfold WordMath.two; rw [if_pos h]
theorem two_no {n : Nat} (h : ¬ (n % 8 = 3 ∨ n % 8 = 5)) : WordMath.two n = 1 := by unfold WordMath.two; rw [if_neg h]
theorem swap_yes {a n : Nat} (h : a % 4 = 3 ∧ n % 4 = 3) : WordMath.swap a n = -1 := by unfold WordMath.swap; rw [if_pos h]
theorem swap_no {a n : Nat} (h : ¬ (a % 4 = 3 ∧ n % 4 = 3)) : WordMath.swap a n = 1 := by unfold WordMath.swap; rw [if_neg h]

set_option maxHeartbeats 2000000 in
theorem refJacobi_c (a n : Nat) (w : World) (ha : (a : Int) ≤ 2305843009213693951) (hn : (n : Int) ≤ 2305843009213693951) :
    Calls Try.prog 23 #[.int .i64 a, .int .i64 n] w fun e w' => e = .returned (.int .i64 (J a n)) ∧ Qw w w' := by
  obtain ⟨R, hR⟩ : ∃ R, R = J a n := ⟨_, rfl⟩
  rw [← hR]
  have HR := Lib.hid hR
  clear hR
  go_enter Try.func23, Try.ntmps23
  go_wp2
  go_loop [0, 1, 5] (fun s0 s1 s5 => ∃ (A N : Nat) (S : Int), s0 = .int .i64 A ∧ s1 = .int .i64 N ∧ s5 = .int .i64 S ∧ (A : Int) ≤ 2305843009213693951 ∧ (N : Int) ≤ 2305843009213693951 ∧ -1 ≤ S ∧ S ≤ 1 ∧ Hid (S * J A N = R)) (fun s0 _ _ => (RowKit.intOf s0).toNat)
  case atStart => exact ⟨a, n, 1, rfl, rfl, rfl, ha, hn, by omega, by omega, Lib.hid (by rw [Int.one_mul]; exact HR.out.symm)⟩
  case round =>
    clear HR
    obtain ⟨A, N, S, rfl, rfl, rfl, hA, hN, hS1, hS2, HI⟩ := hrel
    by_cases h0 : A = 0
    · subst h0
      by_cases hN1 : N = 1
      · have hd : S = R := by have := HI.out; rw [J_zero, if_pos hN1, Int.mul_one] at this; exact this
        clear HI
        subst hN1 hd
        go_wp2
        go_ret
        exact ⟨rfl, Qw.refl _⟩
      · have hd : R = 0 := by have := HI.out; rw [J_zero, if_neg hN1, Int.mul_zero] at this; exact this.symm
        have ht : ((N : Int) != 1) = true := by simp; omega
        clear HI
        subst hd
        go_wp2
        go_ret
        exact ⟨rfl, Qw.refl _⟩
    · have hz2 : ((A : Int) != 0) = true := by simp; omega
      go_wp2
      go_loop [0, 5] (fun s0 s5 => ∃ (B : Nat) (T : Int), s0 = .int .i64 B ∧ s5 = .int .i64 T ∧ 1 ≤ (B : Int) ∧ (B : Int) ≤ (A : Int) ∧ -1 ≤ T ∧ T ≤ 1 ∧ Hid (T * J B N = R)) (fun s0 _ => (RowKit.intOf s0).toNat)
      case atStart => exact ⟨A, S, rfl, rfl, by omega, by omega, hS1, hS2, HI⟩
      case round =>
        clear HI
        obtain ⟨B, T, rfl, rfl, hB1, hB2, hT1, hT2, HJ⟩ := hrel
        by_cases h2 : B % 2 = 0
        · have e2 : ((B : Int) % 2 == 0) = true := by simp; omega
          have hJ := J_even B N (by omega) h2
          have hB3 : 2 ≤ (B : Int) := by omega
          by_cases h8 : N % 8 = 3 ∨ N % 8 = 5
          · have HK : Hid (-T * J (B / 2) N = R) := Lib.hid (by
              have := HJ.out; rw [hJ, two_yes h8] at this; rw [← this, Int.neg_mul, ← Int.mul_assoc, Int.mul_neg, Int.mul_one, Int.neg_mul])
            clear hJ HJ h2
            rcases h8 with h8 | h8
            · have e8 : ((N : Int) % 8 == 3) = true := by simp; omega
              go_wp2
              go_round
              case rel => exact ⟨B / 2, -T, by go_num, rfl, by omega, by omega, by omega, by omega, HK⟩
              case measure => simp [RowKit.intOf]; omega
            · have e8 : ((N : Int) % 8 == 3) = false := by simp; omega
              have e9 : ((N : Int) % 8 == 5) = true := by simp; omega
              go_wp2
              go_round
              case rel => exact ⟨B / 2, -T, by go_num, rfl, by omega, by omega, by omega, by omega, HK⟩
              case measure => simp [RowKit.intOf]; omega
          · have HK : Hid (T * J (B / 2) N = R) := Lib.hid (by
              have := HJ.out; rw [hJ, two_no h8, Int.one_mul] at this; exact this)
            have e8 : ((N : Int) % 8 == 3) = false := by simp; omega
            have e9 : ((N : Int) % 8 == 5) = false := by simp; omega
            clear hJ HJ h2 h8
            go_wp2
            go_round
            case rel => exact ⟨B / 2, T, by go_num, rfl, by omega, by omega, by omega, by omega, HK⟩
            case measure => simp [RowKit.intOf]; omega
        · have e2 : ((B : Int) % 2 == 0) = false := by simp; omega
          have hJ := J_odd B N (by omega)
          have eM : (N : Int) % (B : Int) = ((N % B : Nat) : Int) := (Int.natCast_emod _ _).symm
          have hlt := Nat.mod_lt N (show 0 < B by omega)
          obtain ⟨M, hM⟩ : ∃ M, M = N % B := ⟨_, rfl⟩
          rw [← hM] at eM hJ hlt
          have EM := Lib.hid eM
          have hMB : (M : Int) < (B : Int) := by omega
          by_cases h4 : B % 4 = 3
          · have e4 : ((B : Int) % 4 == 3) = true := by simp; omega
            by_cases h5 : N % 4 = 3
            · have e5 : ((N : Int) % 4 == 3) = true := by simp; omega
              have HK : Hid (-T * J M B = R) := Lib.hid (by
                have := HJ.out; rw [hJ, swap_yes ⟨h4, h5⟩] at this; rw [← this, Int.neg_mul, ← Int.mul_assoc, Int.mul_neg, Int.mul_one, Int.neg_mul])
              clear hJ HJ h2 eM hM hlt h4 h5
              go_wp2
              go_round
              case rel => exact ⟨M, B, -T, congrArg (Value.int .i64) EM.out, rfl, rfl, by omega, by omega, by omega, by omega, HK⟩
              case measure => simp only [RowKit.intOf, EM.out]; omega
            · have e5 : ((N : Int) % 4 == 3) = false := by simp; omega
              have HK : Hid (T * J M B = R) := Lib.hid (by
                have := HJ.out; rw [hJ, swap_no (fun h => h5 h.2), Int.one_mul] at this; exact this)
              clear hJ HJ h2 eM hM hlt h4 h5
              go_wp2
              go_round
              case rel => exact ⟨M, B, T, congrArg (Value.int .i64) EM.out, rfl, rfl, by omega, by omega, by omega, by omega, HK⟩
              case measure => simp only [RowKit.intOf, EM.out]; omega
          · have e4 : ((B : Int) % 4 == 3) = false := by simp; omega
            have HK : Hid (T * J M B = R) := Lib.hid (by
              have := HJ.out; rw [hJ, swap_no (fun h => h4 h.1), Int.one_mul] at this; exact this)
            clear hJ HJ h2 eM hM hlt h4
            go_wp2
            go_round
            case rel => exact ⟨M, B, T, congrArg (Value.int .i64) EM.out, rfl, rfl, by omega, by omega, by omega, by omega, HK⟩
            case measure => simp only [RowKit.intOf, EM.out]; omega
set_option maxHeartbeats 2000000 in
theorem Jacobi_ok (a n : Nat) (w : World) (han : (a : Int) < (n : Int)) (hnt : (n : Int) < Top) (hodd : n % 2 = 1) :
    Calls Try.prog 21 #[.int .i64 a, .int .i64 n] w fun e w' => e = .returned (.tuple #[.int .i64 (J a n), .int .i64 0]) ∧ Qw w w' := by
  have hn : (n : Int) ≤ 2305843009213693951 := by unfold Top at hnt; omega
  have ha : (a : Int) ≤ 2305843009213693951 := by omega
  have k1 : decide ((n : Int) < 1) = false := decide_eq_false (by omega)
  have k1' : decide (n < 1) = false := decide_eq_false (by omega)
  have k2 : decide (2305843009213693952 ≤ (n : Int)) = false := decide_eq_false (by omega)
  have k3 : ((n : Int) % 2 == 0) = false := by simp; omega
  have k4 : resid (a : Int) (n : Int) = true := decide_eq_true (by omega)
  clear hnt hodd
  obtain ⟨R, hR⟩ : ∃ R, R = J a n := ⟨_, rfl⟩
  rw [← hR]
  have HR := Lib.hid hR
  clear hR
  go_enter Try.func21, Try.ntmps21
  have cr := residue_c (a : Int) (n : Int)
  rw [k4] at cr
  clear k4
  go_wp2_with (first | (go_at_call 37; refine (cr _).mono ?_; rintro e w' ⟨rfl, rfl⟩))
  clear k1 k1' k2 k3 cr
  go_loop [0, 1, 6] (fun s0 s1 s5 => ∃ (A N : Nat) (S : Int), s0 = .int .i64 A ∧ s1 = .int .i64 N ∧ s5 = .int .i64 S ∧ (A : Int) ≤ 2305843009213693951 ∧ (N : Int) ≤ 2305843009213693951 ∧ -1 ≤ S ∧ S ≤ 1 ∧ Hid (S * J A N = R)) (fun s0 _ _ => (RowKit.intOf s0).toNat)
  case atStart => exact ⟨a, n, 1, rfl, rfl, rfl, ha, hn, by omega, by omega, Lib.hid (by rw [Int.one_mul]; exact HR.out.symm)⟩
  case round =>
    clear HR
    obtain ⟨A, N, S, rfl, rfl, rfl, hA, hN, hS1, hS2, HI⟩ := hrel
    by_cases h0 : A = 0
    · subst h0
      by_cases hN1 : N = 1
      · have hd : S = R := by have := HI.out; rw [J_zero, if_pos hN1, Int.mul_one] at this; exact this
        clear HI
        subst hN1 hd
        go_wp2
        go_ret2
        exact ⟨rfl, Qw.refl _⟩
      · have hd : R = 0 := by have := HI.out; rw [J_zero, if_neg hN1, Int.mul_zero] at this; exact this.symm
        have ht : ((N : Int) != 1) = true := by simp; omega
        clear HI
        subst hd
        go_wp2
        go_ret2
        exact ⟨rfl, Qw.refl _⟩
    · have hz2 : ((A : Int) != 0) = true := by simp; omega
      go_wp2
      go_loop [0, 6] (fun s0 s5 => ∃ (B : Nat) (T : Int), s0 = .int .i64 B ∧ s5 = .int .i64 T ∧ 1 ≤ (B : Int) ∧ (B : Int) ≤ (A : Int) ∧ -1 ≤ T ∧ T ≤ 1 ∧ Hid (T * J B N = R)) (fun s0 _ => (RowKit.intOf s0).toNat)
      case atStart => exact ⟨A, S, rfl, rfl, by omega, by omega, hS1, hS2, HI⟩
      case round =>
        clear HI
        obtain ⟨B, T, rfl, rfl, hB1, hB2, hT1, hT2, HJ⟩ := hrel
        by_cases h2 : B % 2 = 0
        · have e2 : ((B : Int) % 2 == 0) = true := by simp; omega
          have hJ := J_even B N (by omega) h2
          have hB3 : 2 ≤ (B : Int) := by omega
          by_cases h8 : N % 8 = 3 ∨ N % 8 = 5
          · have HK : Hid (-T * J (B / 2) N = R) := Lib.hid (by
              have := HJ.out; rw [hJ, two_yes h8] at this; rw [← this, Int.neg_mul, ← Int.mul_assoc, Int.mul_neg, Int.mul_one, Int.neg_mul])
            clear hJ HJ h2
            rcases h8 with h8 | h8
            · have e8 : ((N : Int) % 8 == 3) = true := by simp; omega
              go_wp2
              go_round
              case rel => exact ⟨B / 2, -T, by go_num, rfl, by omega, by omega, by omega, by omega, HK⟩
              case measure => simp [RowKit.intOf]; omega
            · have e8 : ((N : Int) % 8 == 3) = false := by simp; omega
              have e9 : ((N : Int) % 8 == 5) = true := by simp; omega
              go_wp2
              go_round
              case rel => exact ⟨B / 2, -T, by go_num, rfl, by omega, by omega, by omega, by omega, HK⟩
              case measure => simp [RowKit.intOf]; omega
          · have HK : Hid (T * J (B / 2) N = R) := Lib.hid (by
              have := HJ.out; rw [hJ, two_no h8, Int.one_mul] at this; exact this)
            have e8 : ((N : Int) % 8 == 3) = false := by simp; omega
            have e9 : ((N : Int) % 8 == 5) = false := by simp; omega
            clear hJ HJ h2 h8
            go_wp2
            go_round
            case rel => exact ⟨B / 2, T, by go_num, rfl, by omega, by omega, by omega, by omega, HK⟩
            case measure => simp [RowKit.intOf]; omega
        · have e2 : ((B : Int) % 2 == 0) = false := by simp; omega
          have hJ := J_odd B N (by omega)
          have eM : (N : Int) % (B : Int) = ((N % B : Nat) : Int) := (Int.natCast_emod _ _).symm
          have hlt := Nat.mod_lt N (show 0 < B by omega)
          obtain ⟨M, hM⟩ : ∃ M, M = N % B := ⟨_, rfl⟩
          rw [← hM] at eM hJ hlt
          have EM := Lib.hid eM
          have hMB : (M : Int) < (B : Int) := by omega
          by_cases h4 : B % 4 = 3
          · have e4 : ((B : Int) % 4 == 3) = true := by simp; omega
            by_cases h5 : N % 4 = 3
            · have e5 : ((N : Int) % 4 == 3) = true := by simp; omega
              have HK : Hid (-T * J M B = R) := Lib.hid (by
                have := HJ.out; rw [hJ, swap_yes ⟨h4, h5⟩] at this; rw [← this, Int.neg_mul, ← Int.mul_assoc, Int.mul_neg, Int.mul_one, Int.neg_mul])
              clear hJ HJ h2 eM hM hlt h4 h5
              go_wp2
              go_round
              case rel => exact ⟨M, B, -T, congrArg (Value.int .i64) EM.out, rfl, rfl, by omega, by omega, by omega, by omega, HK⟩
              case measure => simp only [RowKit.intOf, EM.out]; omega
            · have e5 : ((N : Int) % 4 == 3) = false := by simp; omega
              have HK : Hid (T * J M B = R) := Lib.hid (by
                have := HJ.out; rw [hJ, swap_no (fun h => h5 h.2), Int.one_mul] at this; exact this)
              clear hJ HJ h2 eM hM hlt h4 h5
              go_wp2
              go_round
              case rel => exact ⟨M, B, T, congrArg (Value.int .i64) EM.out, rfl, rfl, by omega, by omega, by omega, by omega, HK⟩
              case measure => simp only [RowKit.intOf, EM.out]; omega
          · have e4 : ((B : Int) % 4 == 3) = false := by simp; omega
            have HK : Hid (T * J M B = R) := Lib.hid (by
              have := HJ.out; rw [hJ, swap_no (fun h => h4 h.1), Int.one_mul] at this; exact this)
            clear hJ HJ h2 eM hM hlt h4
            go_wp2
            go_round
            case rel => exact ⟨M, B, T, congrArg (Value.int .i64) EM.out, rfl, rfl, by omega, by omega, by omega, by omega, HK⟩
            case measure => simp only [RowKit.intOf, EM.out]; omega

set_option maxHeartbeats 400000 in
theorem Jacobi_arg (a n : Int) (w : World) (h : n < 1 ∨ Top ≤ n ∨ n.tmod 2 = 0) :
    Calls Try.prog 21 #[.int .i64 a, .int .i64 n] w fun e w' => e = .returned (.tuple #[.int .i64 0, .int .i64 1]) ∧ w = w' := by
  by_cases h1 : n < 1
  · have k1 : decide (n < 1) = true := decide_eq_true h1
    go_enter Try.func21, Try.ntmps21
    go_wp2
    go_ret2
    exact ⟨rfl, rfl⟩
  · have k1 : decide (n < 1) = false := decide_eq_false h1
    by_cases h2 : Top ≤ n
    · have k2 : decide (2305843009213693952 ≤ n) = true := decide_eq_true h2
      go_enter Try.func21, Try.ntmps21
      go_wp2
      go_ret2
      exact ⟨rfl, rfl⟩
    · have k2 : decide (2305843009213693952 ≤ n) = false := decide_eq_false h2
      have h3 : n.tmod 2 = 0 := by rcases h with h | h | h; exact absurd h h1; exact absurd h h2; exact h
      rw [Int.tmod_eq_emod_of_nonneg (by omega)] at h3
      have k3 : (n % 2 == 0) = true := by simp; omega
      have hb : 1 ≤ n := by omega
      clear h h1 h2 h3
      go_enter Try.func21, Try.ntmps21
      go_wp2
      go_ret2
      exact ⟨rfl, rfl⟩

set_option maxHeartbeats 400000 in
theorem Jacobi_range (a n : Int) (w : World) (h1 : 1 ≤ n) (h2 : n < Top) (h3 : n % 2 = 1) (h4 : resid a n = false) :
    Calls Try.prog 21 #[.int .i64 a, .int .i64 n] w fun e w' => e = .returned (.tuple #[.int .i64 0, .int .i64 2]) ∧ w = w' := by
  have k1 : decide (n < 1) = false := decide_eq_false (by omega)
  have k2 : decide (2305843009213693952 ≤ n) = false := decide_eq_false (by unfold Top at h2; omega)
  have k3 : (n % 2 == 0) = false := by simp; omega
  clear h2 h3
  go_enter Try.func21, Try.ntmps21
  go_wp2_with (first | (go_at_call 37; refine (residue_c _ _ _).mono ?_; rintro e w' ⟨rfl, rfl⟩))
  go_ret2
  exact ⟨rfl, rfl⟩

end Go.Proofs.Ytfhcaedkdjckhaa
