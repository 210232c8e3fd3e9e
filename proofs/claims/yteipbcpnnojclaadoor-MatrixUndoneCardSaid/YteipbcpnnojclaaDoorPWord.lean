/- Contracts of WordB, WordC, WordD, WordE: those that this program has. -/
import Derived.Test.YteipbcpnnojclaaDoorWordA
import Derived.Test.YteipbcpnnojclaaDoorWordMath
namespace Go.Proofs.YteipbcpnnojclaaDoor
open Go.RowKit DivMath WordMath
set_option linter.unusedVariables false
/-- the world has drawn, no more -/
def Qw (w w' : World) : Prop := ∃ n, w' = w.drewN n
theorem Qw.refl (w : World) : Qw w w := ⟨0, rfl⟩
/-- a number came back, of which P is known -/
def RetN (P : Nat → Prop) (e : Ending) : Prop := ∃ r : Nat, Hid (P r) ∧ e = .returned (.int .i64 (r : Int))
/-- a number and an error number -/
def RetE (P : Nat → Prop) (e : Ending) : Prop := ∃ r : Nat, Hid (P r) ∧ e = .returned (.tuple #[.int .i64 (r : Int), .int .i64 0])

theorem conv_u64 (a : Nat) (h : a < 2305843009213693952) : IntKind.u64.wrap (a : Int) = (a : Int) := wrap_fits a (by omega)

theorem conv_i64 (r : Nat) (h : r < 2305843009213693952) : IntKind.i64.wrap (r : Int) = (r : Int) := by
  rw [IntKind.wrap_i64]; omega

set_option maxHeartbeats 400000 in
theorem mul_core (a b m hi lo d r : Nat) (w : World) (e1 : IntKind.u64.wrap (a : Int) = (a : Int)) (e2 : IntKind.u64.wrap (b : Int) = (b : Int)) (e3 : IntKind.u64.wrap (m : Int) = (m : Int)) (hr : (r : Int) ≤ 2305843009213693952)
    (c1 : ∀ w, Calls Tryd.prog 114 #[.int .u64 a, .int .u64 b] w fun e w' => e = .returned (.tuple #[.int .u64 hi, .int .u64 lo]) ∧ w' = w)
    (c2 : ∀ w, Calls Tryd.prog 115 #[.int .u64 hi, .int .u64 lo, .int .u64 m] w fun e w' => e = .returned (.tuple #[.int .u64 d, .int .u64 r]) ∧ ∃ n, w' = w.drewN n) :
    Calls Tryd.prog 73 #[.int .i64 a, .int .i64 b, .int .i64 m] w fun e w' => e = .returned (.int .i64 (r : Int)) ∧ Qw w w' := by
  go_enter Tryd.func73, Tryd.ntmps73
  go_wp2_with (first | (go_at_call 114; refine (c1 _).mono ?_; rintro e w' ⟨rfl, rfl⟩) | (go_at_call 115; refine (c2 _).mono ?_; rintro e w' ⟨rfl, n, rfl⟩))
  go_ret
  exact ⟨rfl, _, rfl⟩

theorem mul_v (a b m : Nat) (w : World) (ha : a < m) (hb : b < m) (hm : m < 2305843009213693952) :
    Calls Tryd.prog 73 #[.int .i64 a, .int .i64 b, .int .i64 m] w fun e w' => e = .returned (.int .i64 ((a * b % m : Nat) : Int)) ∧ Qw w w' := by
  have hab : a * b < m * m := Nat.mul_lt_mul'' ha hb
  have hmm : m * m ≤ 2305843009213693952 * m := Nat.mul_le_mul_right _ (Nat.le_of_lt hm)
  have hq : a * b / 18446744073709551616 < m := by
    rw [Nat.div_lt_iff_lt_mul (by omega)]; omega
  have hr : a * b % m < m := Nat.mod_lt _ (by omega)
  have hdm : a * b / 18446744073709551616 * 18446744073709551616 + a * b % 18446744073709551616 = a * b := by
    have := Nat.div_add_mod (a * b) 18446744073709551616; omega
  refine mul_core a b m _ _ (a * b / m) _ w (conv_u64 a (by omega)) (conv_u64 b (by omega)) (conv_u64 m hm) (by omega) (fun w => Tryd.bits_Mul64 a b (by omega) (by omega) w) (fun w => ?_)
  have c := div64_c (a * b / 18446744073709551616) (a * b % 18446744073709551616) m w hq (Nat.mod_lt _ (by decide)) (by omega)
  rw [hdm] at c
  exact c

/-- word.mul: the residue of the product -/
theorem mul_c (a b m : Nat) (w : World) (ha : (a : Int) < (m : Int)) (hb : (b : Int) < (m : Int)) (hm : (m : Int) < Top) :
    Calls Tryd.prog 73 #[.int .i64 a, .int .i64 b, .int .i64 m] w fun e w' => RetN (fun r => r = a * b % m) e ∧ Qw w w' :=
  (mul_v a b m w (by omega) (by omega) (by unfold Top at hm; omega)).mono fun e w' ⟨he, hw⟩ => ⟨⟨_, Lib.hid rfl, he⟩, hw⟩

/-! ### the exported functions -/

set_option maxHeartbeats 400000 in
theorem Mul_ok (a b m : Nat) (w : World) (ha : (a : Int) < (m : Int)) (hb : (b : Int) < (m : Int)) (hm : (m : Int) < Top) :
    Calls Tryd.prog 24 #[.int .i64 a, .int .i64 b, .int .i64 m] w fun e w' => RetE (fun r => r = a * b % m) e ∧ Qw w w' := by
  have hc : chk (a : Int) (b : Int) (m : Int) = 0 := by
    unfold Top at hm; unfold chk Top; rw [if_neg (by omega), if_pos (by omega)]
  go_enter Tryd.func24, Tryd.ntmps24
  go_wp2_with (first | (go_at_call 72; refine (check_c _ _ _ _).mono ?_; rintro e w' ⟨rfl, rfl⟩) | (go_at_call 73; refine (mul_c _ _ _ _ ha hb hm).mono ?_; rintro e w' ⟨⟨r, hr, rfl⟩, n, rfl⟩))
  go_ret2
  exact ⟨⟨r, hr, rfl⟩, _, rfl⟩

set_option maxHeartbeats 400000 in
theorem Add_err (a b m : Int) (w : World) (hc : (chk a b m != 0) = true) :
    Calls Tryd.prog 25 #[.int .i64 a, .int .i64 b, .int .i64 m] w fun e w' => e = .returned (.tuple #[.int .i64 0, .int .i64 (chk a b m)]) ∧ w = w' := by
  go_enter Tryd.func25, Tryd.ntmps25
  go_wp2_with (first | (go_at_call 72; refine (check_c _ _ _ _).mono ?_; rintro e w' ⟨rfl, rfl⟩))
  go_ret2
  exact ⟨rfl, rfl⟩

set_option maxHeartbeats 400000 in
theorem Sub_err (a b m : Int) (w : World) (hc : (chk a b m != 0) = true) :
    Calls Tryd.prog 121 #[.int .i64 a, .int .i64 b, .int .i64 m] w fun e w' => e = .returned (.tuple #[.int .i64 0, .int .i64 (chk a b m)]) ∧ w = w' := by
  go_enter Tryd.func121, Tryd.ntmps121
  go_wp2_with (first | (go_at_call 72; refine (check_c _ _ _ _).mono ?_; rintro e w' ⟨rfl, rfl⟩))
  go_ret2
  exact ⟨rfl, rfl⟩

set_option maxHeartbeats 400000 in
theorem Mul_err (a b m : Int) (w : World) (hc : (chk a b m != 0) = true) :
    Calls Tryd.prog 24 #[.int .i64 a, .int .i64 b, .int .i64 m] w fun e w' => e = .returned (.tuple #[.int .i64 0, .int .i64 (chk a b m)]) ∧ w = w' := by
  go_enter Tryd.func24, Tryd.ntmps24
  go_wp2_with (first | (go_at_call 72; refine (check_c _ _ _ _).mono ?_; rintro e w' ⟨rfl, rfl⟩))
  go_ret2
  exact ⟨rfl, rfl⟩

set_option maxHeartbeats 400000 in
theorem Add_ok (a b m : Nat) (w : World) (ha : (a : Int) < (m : Int)) (hb : (b : Int) < (m : Int)) (hm : (m : Int) < Top) :
    Calls Tryd.prog 25 #[.int .i64 a, .int .i64 b, .int .i64 m] w fun e w' => RetE (fun r => r = (a + b) % m) e ∧ Qw w w' := by
  have hc : chk (a : Int) (b : Int) (m : Int) = 0 := by
    unfold Top at hm; unfold chk Top; rw [if_neg (by omega), if_pos (by omega)]
  unfold Top at hm
  have hm0 : 1 ≤ (m : Int) := by omega
  obtain ⟨s, hs⟩ : ∃ s : Nat, s = (a + b) % m := ⟨_, rfl⟩
  have es : ((a : Int) + (b : Int)) % (m : Int) = (s : Int) := by rw [hs]; simp
  have HS := Lib.hid hs
  clear hs
  go_enter Tryd.func25, Tryd.ntmps25
  go_wp2_with (first | (go_at_call 72; refine (check_c _ _ _ _).mono ?_; rintro e w' ⟨rfl, rfl⟩))
  go_ret2
  exact ⟨⟨s, HS, by rw [← es]; rfl⟩, Qw.refl _⟩

set_option maxHeartbeats 400000 in
theorem Sub_ok (a b m : Nat) (w : World) (ha : (a : Int) < (m : Int)) (hb : (b : Int) < (m : Int)) (hm : (m : Int) < Top) :
    Calls Tryd.prog 121 #[.int .i64 a, .int .i64 b, .int .i64 m] w fun e w' => RetE (fun r => r = (a + (m - b)) % m) e ∧ Qw w w' := by
  have hc : chk (a : Int) (b : Int) (m : Int) = 0 := by
    unfold Top at hm; unfold chk Top; rw [if_neg (by omega), if_pos (by omega)]
  unfold Top at hm
  have hm0 : 1 ≤ (m : Int) := by omega
  obtain ⟨s, hs⟩ : ∃ s : Nat, s = (a + (m - b)) % m := ⟨_, rfl⟩
  have es : ((a : Int) - (b : Int) + (m : Int)) % (m : Int) = (s : Int) := by rw [hs, Int.natCast_emod]; congr 1; omega
  have HS := Lib.hid hs
  clear hs
  go_enter Tryd.func121, Tryd.ntmps121
  go_wp2_with (first | (go_at_call 72; refine (check_c _ _ _ _).mono ?_; rintro e w' ⟨rfl, rfl⟩))
  go_ret2
  exact ⟨⟨s, HS, by rw [← es]; rfl⟩, Qw.refl _⟩

/-! ### the reference -/

def modB (m : Int) : Bool := decide (1 ≤ m ∧ m < Top)

/-- Go's remainder, by the sign -/
theorem tmod_facts (a m : Int) (h1 : 1 ≤ m) : (0 ≤ a.tmod m ∧ a.tmod m = a % m ∧ a % m < m) ∨ (a.tmod m < 0 ∧ -m < a.tmod m ∧ a.tmod m + m = a % m ∧ a % m < m) := by
  have hl := Int.emod_lt_of_pos a (show 0 < m by omega)
  have hn := Int.emod_nonneg a (show m ≠ 0 by omega)
  rw [Int.tmod_eq_emod]
  by_cases h : 0 ≤ a ∨ m ∣ a
  · rw [if_pos h]; left; omega
  · rw [if_neg h]
    have : a % m ≠ 0 := fun e => h (Or.inr (Int.dvd_of_emod_eq_zero e))
    right; omega

set_option maxHeartbeats 400000 in
/-- the reference's Reduce: the residue of any number -/
theorem refReduce_c (a m : Int) (w : World) (h1 : 1 ≤ m) (h2 : m < Top) :
    Calls Tryd.prog 108 #[.int .i64 a, .int .i64 m] w fun e w' => e = .returned (.int .i64 (a % m)) ∧ w = w' := by
  unfold Top at h2
  have hm0 : (m == 0) = false := by simp; omega
  rcases tmod_facts a m h1 with ⟨f1, f2, f3⟩ | ⟨f1, f2, f3, f4⟩
  · rw [← f2]
    rw [← f2] at f3
    clear f2
    generalize ht : a.tmod m = t at *
    have h0 : decide (t < 0) = false := decide_eq_false (by omega)
    go_enter Tryd.func108, Tryd.ntmps108
    go_wp2
    go_ret
    exact ⟨rfl, rfl⟩
  · rw [← f3]
    rw [← f3] at f4
    clear f3
    generalize ht : a.tmod m = t at *
    have h0 : decide (t < 0) = true := decide_eq_true (by omega)
    go_enter Tryd.func108, Tryd.ntmps108
    go_wp2
    go_ret
    exact ⟨rfl, rfl⟩

/-- one round of the reference's multiplication -/
theorem mul_round (O A B m : Nat) : (((if B % 2 = 1 then (O + A) % m else O) + (A + A) % m * (B / 2)) % m = (O + A * B) % m) := by
  have hB := Nat.div_add_mod B 2
  have e : A * B = (A + A) * (B / 2) + A * (B % 2) := by
    conv => lhs; rw [← hB]
    rw [Nat.mul_add, ← Nat.mul_assoc, Nat.mul_two]
  rw [e, Nat.add_mod, Nat.mod_mul_mod]
  rcases Nat.mod_two_eq_zero_or_one B with h | h
  · rw [h]; simp [Nat.add_mod_mod]
  · rw [h]; simp
    rw [show O + ((A + A) * (B / 2) + A) = O + A + (A + A) * (B / 2) by omega]

theorem half_lt (b : Nat) (h : 0 < b) : b / 2 < b := by omega

set_option maxHeartbeats 1000000 in
/-- the reference's product, of a number below 2^62 -/
theorem refMul_c (a b m : Nat) (w : World) (ha : (a : Int) ≤ 4611686018427387903) (hb : (b : Int) ≤ 9223372036854775807) (hm1 : 1 ≤ (m : Int)) (hm : (m : Int) < Top) :
    Calls Tryd.prog 66 #[.int .i64 a, .int .i64 b, .int .i64 m] w fun e w' => RetN (fun r => r = a * b % m) e ∧ Qw w w' := by
  unfold Top at hm
  by_cases hs : a < 2147483648 ∧ b < 2147483648
  · have h1 : decide ((a : Int) < 2147483648) = true := decide_eq_true (by omega)
    have h2 : decide ((b : Int) < 2147483648) = true := decide_eq_true (by omega)
    have hp : a * b < 2147483648 * 2147483648 := Nat.mul_lt_mul'' hs.1 hs.2
    have hs' := Lib.hid hs
    clear hs
    obtain ⟨p, hp'⟩ : ∃ p, p = a * b := ⟨_, rfl⟩
    have ep : wrap64 ((a : Int) * (b : Int)) = (p : Int) := by
      rw [hp', ← Int.natCast_mul]; exact IntWalk.wrap64_in _ ⟨by omega, by omega⟩
    have hp0 : (p : Int) ≤ 4611686018427387904 := by rw [hp']; omega
    have HP := Lib.hid hp'
    clear hp' hp
    go_enter Tryd.func66, Tryd.ntmps66
    go_wp2
    go_ret
    exact ⟨⟨p % m, Lib.hid (by rw [HP.out]), by rfl⟩, Qw.refl _⟩
  · have hd : (∃ x : Unit, decide ((a : Int) < 2147483648) = true ∧ decide ((b : Int) < 2147483648) = false) ∨ (∃ x : Unit, decide ((a : Int) < 2147483648) = false) := by
      by_cases h : a < 2147483648
      · exact Or.inl ⟨(), decide_eq_true (by omega), decide_eq_false (by omega)⟩
      · exact Or.inr ⟨(), decide_eq_false (by omega)⟩
    clear hs
    rcases hd with ⟨_, d1, d2⟩ | ⟨_, d1⟩
    all_goals
      go_enter Tryd.func66, Tryd.ntmps66
      go_wp2
      go_loop [0, 1, 7] (fun x y z => ∃ A B O : Nat, x = .int .i64 A ∧ y = .int .i64 B ∧ z = .int .i64 O ∧ (A : Int) ≤ 4611686018427387903 ∧ (B : Int) ≤ 9223372036854775807 ∧ (O : Int) < (m : Int) ∧ Hid ((O + A * B) % m = a * b % m)) (fun _ y _ => (RowKit.intOf y).toNat)
      case atStart => exact ⟨a, b, 0, rfl, rfl, rfl, ha, hb, by omega, Lib.hid (by rw [Nat.zero_add])⟩
      case round =>
        obtain ⟨A, B, O, rfl, rfl, rfl, hA, hB, hO, HI⟩ := hrel
        have hr := mul_round O A B m
        rw [HI.out] at hr
        obtain ⟨O2, hO2⟩ : ∃ O2, O2 = (O + A) % m := ⟨_, rfl⟩
        obtain ⟨A2, hA2⟩ : ∃ A2, A2 = (A + A) % m := ⟨_, rfl⟩
        have bO2 : (O2 : Int) < (m : Int) := by rw [hO2]; have := Nat.mod_lt (O + A) (show 0 < m by omega); omega
        have bA2 : (A2 : Int) < (m : Int) := by rw [hA2]; have := Nat.mod_lt (A + A) (show 0 < m by omega); omega
        have eO2 : ((O : Int) + (A : Int)) % (m : Int) = (O2 : Int) := by rw [hO2]; simp
        have eA2 : ((A : Int) + (A : Int)) % (m : Int) = (A2 : Int) := by rw [hA2]; simp
        rw [← hO2, ← hA2] at hr
        have HR := Lib.hid hr
        clear hr hO2 hA2
        by_cases h0 : B = 0
        · have hdone : Hid (O = a * b % m) := Lib.hid (by
            have := HI.out
            rw [h0, Nat.mul_zero, Nat.add_zero, Nat.mod_eq_of_lt (by omega)] at this
            exact this)
          subst h0
          clear HR HI
          go_wp2
          go_ret
          exact ⟨⟨O, hdone, rfl⟩, Qw.refl _⟩
        · have hB0 : 0 < (B : Int) := by omega
          have hg : decide (0 < B) = true := decide_eq_true (by omega)
          by_cases h2 : B % 2 = 1
          · have ht : ((B : Int) % 2 == 1) = true := by simp; omega
            have HR2 : Hid ((O2 + A2 * (B / 2)) % m = a * b % m) := Lib.hid (by have := HR.out; rw [if_pos h2] at this; exact this)
            clear HR HI h2
            go_wp2
            go_round
            case rel => exact ⟨A2, B / 2, O2, congrArg (Value.int .i64) eA2, by go_num, congrArg (Value.int .i64) eO2, by omega, by omega, by omega, HR2⟩
            case measure => simp [RowKit.intOf]; omega
          · have ht : ((B : Int) % 2 == 1) = false := by simp; omega
            have HR2 : Hid ((O + A2 * (B / 2)) % m = a * b % m) := Lib.hid (by have := HR.out; rw [if_neg h2] at this; exact this)
            clear HR HI h2
            go_wp2
            go_round
            case rel => exact ⟨A2, B / 2, O, congrArg (Value.int .i64) eA2, by go_num, rfl, by omega, by omega, by omega, HR2⟩
            case measure => simp [RowKit.intOf]; omega
def RetP (P : Nat → Nat → Prop) (e : Ending) : Prop := ∃ r s : Nat, Hid (P r s) ∧ e = .returned (.tuple #[.int .i64 (r : Int), .int .i64 (s : Int)])

set_option maxHeartbeats 1000000 in
theorem euclid_c (a m : Nat) (w : World) (ha : (a : Int) < (m : Int)) (hm : (m : Int) < Top) :
    Calls Tryd.prog 146 #[.int .i64 a, .int .i64 m] w fun e w' => RetP (fun d x => d = Nat.gcd a m ∧ x < m ∧ a * x % m = Nat.gcd a m % m) e ∧ Qw w w' := by
  unfold Top at hm
  have hm0 : 1 ≤ (m : Int) := by omega
  have hmz : ((m : Int) == 0) = false := by simp; omega
  go_enter Tryd.func146, Tryd.ntmps146
  go_wp2
  go_loop [0, 4, 5, 6, 7] (fun s0 s4 s5 s6 _ => ∃ (A D : Nat) (x n : Int), s0 = .int .i64 A ∧ s4 = .int .i64 D ∧ s5 = .int .i64 x ∧ s6 = .int .i64 n ∧ (A : Int) ≤ (m : Int) ∧ (D : Int) ≤ (m : Int) ∧ -(m : Int) ≤ x ∧ x ≤ (m : Int) ∧ -(m : Int) ≤ n ∧ n ≤ (m : Int) ∧ Hid (Euc a m D A x n)) (fun s0 _ _ _ _ => (RowKit.intOf s0).toNat)
  case atStart => exact ⟨a, m, 0, 1, rfl, rfl, rfl, rfl, by omega, by omega, by omega, by omega, by omega, by omega, Lib.hid (euc_start (by omega))⟩
  case round =>
    obtain ⟨A, D, x, n, rfl, rfl, rfl, rfl, hA, hD, hx1, hx2, hn1, hn2, HE⟩ := hrel
    by_cases h0 : A = 0
    · subst h0
      have hd := euc_done HE.out (by omega)
      have hfin := fun (X : Int) (hX : (m : Int) ∣ (a : Int) * X - D) (y : Nat) (hy : (y : Int) = X % m) => euc_final (a := a) (m := m) (x := X) (by omega) (by rw [← hd.1]; exact hX) y hy
      have F := Lib.hid hfin
      have D0 := Lib.hid hd
      clear hfin hd HE
      by_cases hneg : x < 0
      · have hg : decide (x < 0) = true := decide_eq_true hneg
        go_wp2
        go_quiet (fail)
        go_wp2
        go_ret2
        obtain ⟨y, hy⟩ : ∃ y : Nat, (y : Int) = (x + m) % (m : Int) := ⟨((x + m) % (m : Int)).toNat, Int.toNat_of_nonneg (Int.emod_nonneg _ (by omega))⟩
        have hx : (m : Int) ∣ (a : Int) * (x + m) - D := by
          have := D0.out.2.2.2
          have e : (a : Int) * (x + m) - D = ((a : Int) * x - D) + (a : Int) * m := by rw [Int.mul_add]; omega
          rw [e]; exact Int.dvd_add this (Int.dvd_mul_left _ _)
        have hf := F.out (x + m) hx y hy
        exact ⟨⟨D, y, Lib.hid ⟨D0.out.1, hf.1, hf.2⟩, by rw [hy]; rfl⟩, _, rfl⟩
      · have hg : decide (x < 0) = false := decide_eq_false hneg
        go_wp2
        go_quiet (fail)
        go_wp2
        go_ret2
        obtain ⟨y, hy⟩ : ∃ y : Nat, (y : Int) = x % (m : Int) := ⟨(x % (m : Int)).toNat, Int.toNat_of_nonneg (Int.emod_nonneg _ (by omega))⟩
        have hf := F.out x D0.out.2.2.2 y hy
        exact ⟨⟨D, y, Lib.hid ⟨D0.out.1, hf.1, hf.2⟩, by rw [hy]; rfl⟩, _, rfl⟩
    · have hA0 : 0 < (A : Int) := by omega
      have hz : ((A : Int) == 0) = false := by simp; omega
      have hz2 : ((A : Int) != 0) = true := by simp; omega
      obtain ⟨Q, hQ⟩ : ∃ Q, Q = D / A := ⟨_, rfl⟩
      have hst := euc_step HE.out h0
      have hsm := euc_small HE.out h0
      have hqa : D / A * A ≤ D := Nat.div_mul_le_self D A
      have hQb : ((D / A : Nat) : Int) ≤ (D : Int) := by have := Nat.div_le_self D A; omega
      rw [← hQ] at hst hsm hqa hQb
      obtain ⟨A2, hA2⟩ : ∃ A2, A2 = D - Q * A := ⟨_, rfl⟩
      rw [← hA2] at hst
      have eQ : (D : Int) / (A : Int) = (Q : Int) := by rw [hQ, Int.natCast_ediv]
      have eQA : wrap64 ((Q : Int) * (A : Int)) = (D : Int) - (A2 : Int) := by
        rw [hA2, ← Int.natCast_mul]; rw [IntWalk.wrap64_in _ ⟨by omega, by omega⟩]; omega
      obtain ⟨p, hp⟩ : ∃ p : Int, p = (Q : Int) * n := ⟨_, rfl⟩
      rw [← hp] at hst hsm
      have eP : wrap64 ((Q : Int) * n) = p := by
        rw [← hp]; exact IntWalk.wrap64_in _ ⟨by omega, by omega⟩
      have hA2b : (A2 : Int) < (A : Int) := by have := hst.2.1; omega
      have HS := Lib.hid hst
      obtain ⟨hp1, hp2, hp3, hp4⟩ := hsm
      clear hst hQ hA2 hqa hp HE
      go_wp2
      go_round
      case rel => exact ⟨A2, A, n, x - p, by go_num, rfl, rfl, rfl, by omega, by omega, by omega, by omega, by omega, by omega, HS⟩
      case measure => simp [RowKit.intOf]; omega

/-! ### the greatest common divisor -/

/-- 2^63, behind a name -/
def Huge : Nat := 9223372036854775808
/-- the greatest common divisor as both texts give it: 0 in the place of 2^63 -/
def gcdI (a b : Int) : Int := if Nat.gcd a.natAbs b.natAbs = Huge then 0 else (Nat.gcd a.natAbs b.natAbs : Nat)

set_option maxHeartbeats 400000 in
theorem size_c (a : Int) (w : World) (h1 : -9223372036854775808 ≤ a) (h2 : a ≤ 9223372036854775807) :
    Calls Tryd.prog 147 #[.int .i64 a] w fun e w' => e = .returned (.int .u64 (a.natAbs : Int)) ∧ w = w' := by
  by_cases h : a < 0
  · have hg : decide (a < 0) = true := decide_eq_true h
    go_enter Tryd.func147, Tryd.ntmps147
    go_wp2
    go_ret
    exact ⟨congrArg (fun x => Ending.returned (.int .u64 x)) (show -(a + 1) + 1 = (a.natAbs : Int) by omega), rfl⟩
  · have hg : decide (a < 0) = false := decide_eq_false h
    have e1 : a = (a.natAbs : Int) := by omega
    generalize a.natAbs = r at *
    subst e1
    go_enter Tryd.func147, Tryd.ntmps147
    go_wp2
    go_ret
    exact ⟨rfl, rfl⟩

set_option maxHeartbeats 1000000 in
theorem refGcd_c (a b : Int) (w : World) (h1 : -9223372036854775808 ≤ a) (h2 : a ≤ 9223372036854775807) (h3 : -9223372036854775808 ≤ b) (h4 : b ≤ 9223372036854775807) :
    Calls Tryd.prog 107 #[.int .i64 a, .int .i64 b] w fun e w' => e = .returned (.int .i64 (gcdI a b)) ∧ Qw w w' := by
  have c1 := fun w => size_c a w h1 h2
  have c2 := fun w => size_c b w h3 h4
  have b1 : ((a.natAbs : Nat) : Int) ≤ 9223372036854775808 := by omega
  have b2 : ((b.natAbs : Nat) : Int) ≤ 9223372036854775808 := by omega
  have hfin : ∀ X : Nat, (X : Int) ≤ 9223372036854775808 → X = Nat.gcd a.natAbs b.natAbs → ((X = 9223372036854775808 ∧ gcdI a b = 0) ∨ ((X : Int) ≤ 9223372036854775807 ∧ gcdI a b = (X : Int))) := by
    intro X hX e
    unfold gcdI Huge
    rw [← e]
    by_cases h : X = 9223372036854775808
    · left; rw [if_pos h]; exact ⟨h, rfl⟩
    · right; rw [if_neg h]; exact ⟨by omega, rfl⟩
  clear h1 h2 h3 h4
  generalize gcdI a b = R at *
  generalize a.natAbs = A at *
  generalize b.natAbs = B at *
  have HF := Lib.hid hfin
  clear hfin
  go_enter Tryd.func107, Tryd.ntmps107
  go_wp2_with fail
  refine (c1 _).mono ?_; rintro e w1 ⟨rfl, rfl⟩
  go_wp2_with fail
  refine (c2 _).mono ?_; rintro e w1 ⟨rfl, rfl⟩
  clear c1 c2
  go_wp2
  go_loopw [5, 6] (fun s5 s6 wr => ∃ X Y : Nat, s5 = .int .u64 X ∧ s6 = .int .u64 Y ∧ (X : Int) ≤ 9223372036854775808 ∧ (Y : Int) ≤ 9223372036854775808 ∧ Hid (Nat.gcd X Y = Nat.gcd A B) ∧ Qw w wr) (fun _ s6 _ => (RowKit.intOf s6).toNat)
  case atStart => exact ⟨A, B, rfl, rfl, b1, b2, Lib.hid rfl, Qw.refl _⟩
  case round =>
    obtain ⟨X, Y, rfl, rfl, hX, hY, HG, n, rfl⟩ := hrel
    by_cases h0 : Y = 0
    · subst h0
      have hf := HF.out X hX (by rw [← HG.out, Nat.gcd_zero_right])
      clear HF HG
      rcases hf with ⟨k1, rfl⟩ | ⟨k1, rfl⟩
      · have ht : ((X : Int) == 9223372036854775808) = true := by rw [k1]; rfl
        clear k1
        go_wp2
        go_ret
        exact ⟨rfl, _, rfl⟩
      · have ht : ((X : Int) == 9223372036854775808) = false := by rw [beq_eq_false_iff_ne]; omega
        go_wp2
        go_ret
        exact ⟨rfl, _, rfl⟩
    · have hz1 : ((Y : Int) == 0) = false := by simp; omega
      have hz2 : ((Y : Int) != 0) = true := by simp; omega
      have hz3 : decide (0 < Y) = true := decide_eq_true (by omega)
      have hz4 : 1 ≤ (Y : Int) := by omega
      obtain ⟨Z, hZ⟩ : ∃ Z, Z = X % Y := ⟨_, rfl⟩
      have eZ : (X : Int) % (Y : Int) = (Z : Int) := by rw [hZ, Int.natCast_emod]
      have bZ : (Z : Int) < (Y : Int) := by rw [hZ]; have := Nat.mod_lt X (show 0 < Y by omega); omega
      have HG2 : Hid (Nat.gcd Y Z = Nat.gcd A B) := Lib.hid (by rw [← HG.out, hZ, Nat.gcd_comm Y, ← Nat.gcd_rec, Nat.gcd_comm])
      clear hZ HG
      go_wp2
      go_quiet (fail)
      go_wp2
      go_roundw
      case rel => exact ⟨Y, Z, rfl, congrArg (Value.int .u64) eZ, by omega, by omega, HG2, n + nq, World.drewN_drewN ..⟩
      case measure => simp only [RowKit.intOf, eZ]; omega

theorem and_one_i64 (E : Nat) (h : E < 9223372036854775808) : bits .and .i64 (E : Int) 1 = ((E % 2 : Nat) : Int) := by
  have h1 : (BitVec.ofInt 64 (E : Int)).toNat = E := by
    rw [BitVec.ofInt_natCast, BitVec.toNat_ofNat]; exact Nat.mod_eq_of_lt (by omega)
  show IntKind.i64.wrap ((BitVec.ofInt 64 (E : Int) &&& BitVec.ofInt 64 (1 : Int)).toNat : Int) = _
  have h2 : (BitVec.ofInt 64 (1 : Int)).toNat = 1 := by decide
  rw [BitVec.toNat_and, h1, h2, Nat.and_one_is_mod, IntKind.wrap_i64]
  omega

set_option maxHeartbeats 1000000 in
theorem Pow_ok (a e m : Nat) (w : World) (ha : (a : Int) < (m : Int)) (he : (e : Int) ≤ 9223372036854775807) (hm : (m : Int) < Top) :
    Calls Tryd.prog 128 #[.int .i64 a, .int .i64 e, .int .i64 m] w fun e' w' => RetE (fun r => r = a ^ e % m) e' ∧ Qw w w' := by
  have hc : chk (a : Int) (a : Int) (m : Int) = 0 := by
    unfold Top at hm; unfold chk Top; rw [if_neg (by omega), if_pos (by omega)]
  have hm0 : 1 ≤ (m : Int) := by omega
  have hmz : ((m : Int) == 0) = false := by simp; omega
  have hmz2 : (m == 0) = false := by simp; omega
  have hm' : (m : Int) ≤ 2305843009213693951 := by unfold Top at hm; omega
  obtain ⟨o, ho⟩ : ∃ o : Nat, o = 1 % m := ⟨_, rfl⟩
  have eo : (1 : Int) % (m : Int) = (o : Int) := by rw [ho]; rfl
  have bo : (o : Int) < (m : Int) := by rw [ho]; have := Nat.mod_lt 1 (show 0 < m by omega); omega
  have hst : Hid (o * a ^ e % m = a ^ e % m) := Lib.hid (by rw [ho, Nat.mul_mod, Nat.mod_mod, ← Nat.mul_mod, Nat.one_mul])
  have hen : decide ((e : Int) < 0) = false := decide_eq_false (by omega)
  have EO := Lib.hid eo
  clear ho eo
  have hm2 := Lib.hid hm
  clear hm
  have cc := fun w => check_c (a : Int) (a : Int) (m : Int) w
  rw [hc] at cc
  clear hc
  go_enter Tryd.func128, Tryd.ntmps128
  go_wp2_with (first | (go_at_call 72; refine (cc _).mono ?_; rintro e w' ⟨rfl, rfl⟩))
  clear cc
  go_loopw [0, 1, 9] (fun s0 s1 s9 wr => ∃ A E X : Nat, s0 = .int .i64 A ∧ s1 = .int .i64 E ∧ s9 = .int .i64 X ∧ (A : Int) < (m : Int) ∧ (E : Int) ≤ 9223372036854775807 ∧ (X : Int) < (m : Int) ∧ Hid (X * A ^ E % m = a ^ e % m) ∧ Qw w wr) (fun _ s1 _ _ => (RowKit.intOf s1).toNat)
  case atStart => exact ⟨a, e, o, rfl, rfl, congrArg (Value.int .i64) EO.out, ha, he, bo, hst, Qw.refl _⟩
  case round =>
    obtain ⟨A, E, X, rfl, rfl, rfl, hA, hE, hX, HI, n, rfl⟩ := hrel
    by_cases h0 : E = 0
    · have hdone : Hid (X = a ^ e % m) := Lib.hid (by
        have := HI.out
        rw [h0, Nat.pow_zero, Nat.mul_one, Nat.mod_eq_of_lt (by omega)] at this
        exact this)
      subst h0
      clear HI
      go_wp2
      go_ret2
      exact ⟨⟨X, hdone, rfl⟩, _, rfl⟩
    · have hg : decide (0 < E) = true := decide_eq_true (by omega)
      have hp := pow_half X A E m
      rw [HI.out] at hp
      have eb := and_one_i64 E (by omega)
      by_cases h2 : E % 2 = 1
      · rw [if_pos h2] at hp
        rw [h2] at eb
        have HP := Lib.hid hp
        clear hp HI h2
        go_wp2_with fail
        refine (mul_c X A m _ hX hA hm2.out).mono ?_; rintro e1 w1 ⟨⟨X2, hX2, rfl⟩, n1, rfl⟩
        have bX2 : (X2 : Int) < (m : Int) := by rw [hX2.out]; have := Nat.mod_lt (X * A) (show 0 < m by omega); omega
        go_wp2_with fail
        refine (mul_c A A m _ hA hA hm2.out).mono ?_; rintro e1 w1 ⟨⟨A2, hA2, rfl⟩, n2, rfl⟩
        have bA2 : (A2 : Int) < (m : Int) := by rw [hA2.out]; have := Nat.mod_lt (A * A) (show 0 < m by omega); omega
        have HR : Hid (X2 * A2 ^ (E / 2) % m = a ^ e % m) := Lib.hid (by rw [hX2.out, hA2.out]; exact HP.out)
        clear HP hX2 hA2
        go_wp2
        go_roundw
        case rel => exact ⟨A2, E / 2, X2, rfl, by go_num, rfl, bA2, by omega, bX2, HR, _, rfl⟩
        case measure => simp [RowKit.intOf]; omega
      · rw [if_neg h2] at hp
        rw [show E % 2 = 0 by omega] at eb
        have HP := Lib.hid hp
        clear hp HI h2
        go_wp2_with fail
        refine (mul_c A A m _ hA hA hm2.out).mono ?_; rintro e1 w1 ⟨⟨A2, hA2, rfl⟩, n2, rfl⟩
        have bA2 : (A2 : Int) < (m : Int) := by rw [hA2.out]; have := Nat.mod_lt (A * A) (show 0 < m by omega); omega
        have HR : Hid (X * A2 ^ (E / 2) % m = a ^ e % m) := Lib.hid (by rw [hA2.out]; exact HP.out)
        clear HP hA2
        go_wp2
        go_roundw
        case rel => exact ⟨A2, E / 2, X, rfl, by go_num, rfl, bA2, by omega, hX, HR, _, rfl⟩
        case measure => simp [RowKit.intOf]; omega

set_option maxHeartbeats 400000 in
theorem Pow_err (a e m : Int) (w : World) (hc : (chk a a m != 0) = true) :
    Calls Tryd.prog 128 #[.int .i64 a, .int .i64 e, .int .i64 m] w fun e' w' => e' = .returned (.tuple #[.int .i64 0, .int .i64 (chk a a m)]) ∧ w = w' := by
  go_enter Tryd.func128, Tryd.ntmps128
  go_wp2_with (first | (go_at_call 72; refine (check_c _ _ _ _).mono ?_; rintro e w' ⟨rfl, rfl⟩))
  go_ret2
  exact ⟨rfl, rfl⟩

set_option maxHeartbeats 400000 in
theorem Pow_neg (a e m : Int) (w : World) (hc : chk a a m = 0) (he : e < 0) :
    Calls Tryd.prog 128 #[.int .i64 a, .int .i64 e, .int .i64 m] w fun e' w' => e' = .returned (.tuple #[.int .i64 0, .int .i64 2]) ∧ w = w' := by
  have hg : decide (e < 0) = true := decide_eq_true he
  go_enter Tryd.func128, Tryd.ntmps128
  go_wp2_with (first | (go_at_call 72; refine (check_c _ _ _ _).mono ?_; rintro e w' ⟨rfl, rfl⟩))
  go_ret2
  exact ⟨rfl, rfl⟩

set_option maxHeartbeats 1000000 in
/-- the reference's power, of a number below 2^61 (a residue, or not) -/
theorem refPow_c (a e m : Nat) (w : World) (ha : (a : Int) ≤ 2305843009213693951) (he : (e : Int) ≤ 9223372036854775807) (hm1 : 1 ≤ (m : Int)) (hm : (m : Int) < Top) :
    Calls Tryd.prog 131 #[.int .i64 a, .int .i64 e, .int .i64 m] w fun e' w' => RetN (fun r => r = a ^ e % m) e' ∧ Qw w w' := by
  have hmz : ((m : Int) == 0) = false := by simp; omega
  have hmz2 : (m == 0) = false := by simp; omega
  have hm' : (m : Int) ≤ 2305843009213693951 := by unfold Top at hm; omega
  obtain ⟨o, ho⟩ : ∃ o : Nat, o = 1 % m := ⟨_, rfl⟩
  have eo : (1 : Int) % (m : Int) = (o : Int) := by rw [ho]; rfl
  have bo : (o : Int) < (m : Int) := by rw [ho]; have := Nat.mod_lt 1 (show 0 < m by omega); omega
  have hst : Hid (o * a ^ e % m = a ^ e % m) := Lib.hid (by rw [ho, Nat.mul_mod, Nat.mod_mod, ← Nat.mul_mod, Nat.one_mul])
  have EO := Lib.hid eo
  clear ho eo
  have hm2 := Lib.hid hm
  clear hm
  go_enter Tryd.func131, Tryd.ntmps131
  go_wp2
  go_loopw [0, 1, 7] (fun s0 s1 s9 wr => ∃ A E X : Nat, s0 = .int .i64 A ∧ s1 = .int .i64 E ∧ s9 = .int .i64 X ∧ (A : Int) ≤ 2305843009213693951 ∧ (E : Int) ≤ 9223372036854775807 ∧ (X : Int) < (m : Int) ∧ Hid (X * A ^ E % m = a ^ e % m) ∧ Qw w wr) (fun _ s1 _ _ => (RowKit.intOf s1).toNat)
  case atStart => exact ⟨a, e, o, rfl, rfl, congrArg (Value.int .i64) EO.out, ha, he, bo, hst, Qw.refl _⟩
  case round =>
    obtain ⟨A, E, X, rfl, rfl, rfl, hA, hE, hX, HI, n, rfl⟩ := hrel
    by_cases h0 : E = 0
    · have hdone : Hid (X = a ^ e % m) := Lib.hid (by
        have := HI.out
        rw [h0, Nat.pow_zero, Nat.mul_one, Nat.mod_eq_of_lt (by omega)] at this
        exact this)
      subst h0
      clear HI
      go_wp2
      go_ret
      exact ⟨⟨X, hdone, rfl⟩, _, rfl⟩
    · have hg : decide (0 < E) = true := decide_eq_true (by omega)
      have hp := pow_half X A E m
      rw [HI.out] at hp
      by_cases h2 : E % 2 = 1
      · have ht : ((E : Int) % 2 == 1) = true := by simp; omega
        rw [if_pos h2] at hp
        have HP := Lib.hid hp
        clear hp HI h2
        go_wp2_with fail
        refine (refMul_c X A m _ (by omega) (by omega) hm1 hm2.out).mono ?_; rintro e1 w1 ⟨⟨X2, hX2, rfl⟩, n1, rfl⟩
        have bX2 : (X2 : Int) < (m : Int) := by rw [hX2.out]; have := Nat.mod_lt (X * A) (show 0 < m by omega); omega
        go_wp2_with fail
        refine (refMul_c A A m _ (by omega) (by omega) hm1 hm2.out).mono ?_; rintro e1 w1 ⟨⟨A2, hA2, rfl⟩, n2, rfl⟩
        have bA2 : (A2 : Int) < (m : Int) := by rw [hA2.out]; have := Nat.mod_lt (A * A) (show 0 < m by omega); omega
        have HR : Hid (X2 * A2 ^ (E / 2) % m = a ^ e % m) := Lib.hid (by rw [hX2.out, hA2.out]; exact HP.out)
        clear HP hX2 hA2
        go_wp2
        go_roundw
        case rel => exact ⟨A2, E / 2, X2, rfl, by go_num, rfl, by omega, by omega, bX2, HR, _, rfl⟩
        case measure => simp [RowKit.intOf]; omega
      · have ht : ((E : Int) % 2 == 1) = false := by simp; omega
        rw [if_neg h2] at hp
        have HP := Lib.hid hp
        clear hp HI h2
        go_wp2_with fail
        refine (refMul_c A A m _ (by omega) (by omega) hm1 hm2.out).mono ?_; rintro e1 w1 ⟨⟨A2, hA2, rfl⟩, n2, rfl⟩
        have bA2 : (A2 : Int) < (m : Int) := by rw [hA2.out]; have := Nat.mod_lt (A * A) (show 0 < m by omega); omega
        have HR : Hid (X * A2 ^ (E / 2) % m = a ^ e % m) := Lib.hid (by rw [hA2.out]; exact HP.out)
        clear HP hA2
        go_wp2
        go_roundw
        case rel => exact ⟨A2, E / 2, X, rfl, by go_num, rfl, by omega, by omega, hX, HR, _, rfl⟩
        case measure => simp [RowKit.intOf]; omega

/-! ### inverses -/

set_option maxHeartbeats 400000 in
theorem Inverse_ok (a m : Nat) (w : World) (ha : (a : Int) < (m : Int)) (hm : (m : Int) < Top) (hg : Nat.gcd a m = 1) :
    Calls Tryd.prog 106 #[.int .i64 a, .int .i64 m] w fun e w' => RetE (fun r => r < m ∧ a * r % m = 1 % m) e ∧ Qw w w' := by
  have hc : chk (a : Int) (a : Int) (m : Int) = 0 := by
    unfold Top at hm; unfold chk Top; rw [if_neg (by omega), if_pos (by omega)]
  have ce := fun w => euclid_c a m w ha hm
  rw [hg] at ce
  clear hg
  go_enter Tryd.func106, Tryd.ntmps106
  go_wp2_with fail
  refine (check_c _ _ _ _).mono ?_; rintro e w' ⟨rfl, rfl⟩
  go_wp2_with fail
  refine (ce _).mono ?_; rintro e w' ⟨⟨d, x, hdx, rfl⟩, n, rfl⟩
  obtain ⟨rfl, hx⟩ := hdx.out
  have HX := Lib.hid hx
  clear hx hdx ce
  go_wp2
  go_ret2
  exact ⟨⟨x, HX, rfl⟩, _, rfl⟩

set_option maxHeartbeats 400000 in
theorem Inverse_none (a m : Nat) (w : World) (ha : (a : Int) < (m : Int)) (hm : (m : Int) < Top) (hg : Nat.gcd a m ≠ 1) :
    Calls Tryd.prog 106 #[.int .i64 a, .int .i64 m] w fun e w' => e = .returned (.tuple #[.int .i64 0, .int .i64 10]) ∧ Qw w w' := by
  have hc : chk (a : Int) (a : Int) (m : Int) = 0 := by
    unfold Top at hm; unfold chk Top; rw [if_neg (by omega), if_pos (by omega)]
  have ce := fun w => euclid_c a m w ha hm
  go_enter Tryd.func106, Tryd.ntmps106
  go_wp2_with fail
  refine (check_c _ _ _ _).mono ?_; rintro e w' ⟨rfl, rfl⟩
  go_wp2_with fail
  refine (ce _).mono ?_; rintro e w' ⟨⟨d, x, hdx, rfl⟩, n, rfl⟩
  have hd : ((d : Int) != 1) = true := by rw [hdx.out.1]; simp; omega
  clear hdx ce hg
  go_wp2
  go_ret2
  exact ⟨rfl, _, rfl⟩

set_option maxHeartbeats 400000 in
theorem Inverse_err (a m : Int) (w : World) (hc : (chk a a m != 0) = true) :
    Calls Tryd.prog 106 #[.int .i64 a, .int .i64 m] w fun e w' => e = .returned (.tuple #[.int .i64 0, .int .i64 (chk a a m)]) ∧ w = w' := by
  go_enter Tryd.func106, Tryd.ntmps106
  go_wp2_with (first | (go_at_call 72; refine (check_c _ _ _ _).mono ?_; rintro e w' ⟨rfl, rfl⟩))
  go_ret2
  exact ⟨rfl, rfl⟩

theorem gcdI_nat (a m : Nat) (h0 : 0 < m) (h : m < 9223372036854775808) : gcdI (a : Int) (m : Int) = (Nat.gcd a m : Nat) := by
  unfold gcdI Huge
  have : Nat.gcd a m ≤ m := Nat.gcd_le_right _ h0
  rw [Int.natAbs_natCast, Int.natAbs_natCast, if_neg (by omega)]

theorem Qw.trans {a b c : World} (h : Qw a b) (k : Qw b c) : Qw a c := by
  obtain ⟨n, rfl⟩ := h; obtain ⟨m, rfl⟩ := k; exact ⟨_, World.drewN_drewN ..⟩
theorem Qw.drewN {a b : World} (h : Qw a b) (n : Nat) : Qw a (b.drewN n) := h.trans ⟨n, rfl⟩

/-- a number and a bool -/
def RetB (P : Nat → Prop) (b : Bool) (e : Ending) : Prop := ∃ r : Nat, Hid (P r) ∧ e = .returned (.tuple #[.int .i64 (r : Int), .bool b])

set_option maxHeartbeats 1000000 in
theorem refInverse_ok (a m : Nat) (w : World) (ha : (a : Int) < (m : Int)) (hm : (m : Int) < Top) (hg : Nat.gcd a m = 1) :
    Calls Tryd.prog 67 #[.int .i64 a, .int .i64 m] w fun e w' => RetB (fun r => r < m ∧ a * r % m = 1 % m) true e ∧ Qw w w' := by
  have hm1 : 1 ≤ (m : Int) := by omega
  have hmz : ((m : Int) == 0) = false := by simp; omega
  have hmz2 : (m == 0) = false := by simp; omega
  have hm' : (m : Int) ≤ 2305843009213693951 := by unfold Top at hm; omega
  have cg := fun w => refGcd_c (a : Int) (m : Int) w (by omega) (by omega) (by omega) (by omega)
  rw [gcdI_nat a m (by omega) (by omega), hg] at cg
  obtain ⟨o, ho⟩ : ∃ o : Nat, o = 1 % m := ⟨_, rfl⟩
  have eo : (1 : Int) % (m : Int) = (o : Int) := by rw [ho]; rfl
  have EO := Lib.hid eo
  have hst : Inv1 a m a m o 0 := by rw [ho]; exact inv1_start (by omega)
  have HST := Lib.hid hst
  have HG := Lib.hid hg
  clear ho eo hst hg
  have hm2 := Lib.hid hm
  clear hm
  go_enter Tryd.func67, Tryd.ntmps67
  go_wp2_with fail
  refine (cg _).mono ?_; rintro e w' ⟨rfl, n0, rfl⟩
  clear cg
  go_wp2_with fail
  go_loopw [6, 7, 8, 9, 10] (fun s6 s7 s8 s9 _ wr => ∃ U V X Y : Nat, s6 = .int .i64 U ∧ s7 = .int .i64 V ∧ s8 = .int .i64 X ∧ s9 = .int .i64 Y ∧ (U : Int) ≤ (m : Int) ∧ (V : Int) ≤ (m : Int) ∧ (X : Int) < (m : Int) ∧ (Y : Int) < (m : Int) ∧ Hid (Inv1 a m U V X Y) ∧ Qw w wr) (fun _ s7 _ _ _ _ => (RowKit.intOf s7).toNat)
  case atStart =>
    have := HST.out
    exact ⟨a, m, o, 0, rfl, rfl, congrArg (Value.int .i64) EO.out, rfl, by omega, by omega, by have := this.2.1; omega, by omega, HST, _, rfl⟩
  case round =>
    obtain ⟨U, V, X, Y, rfl, rfl, rfl, rfl, hU, hV, hX, hY, HI, n, rfl⟩ := hrel
    by_cases h0 : V = 0
    · subst h0
      have hd := inv1_done HI.out
      have HD : Hid (X < m ∧ a * X % m = 1 % m) := Lib.hid ⟨hd.2.1, by rw [hd.2.2, hd.1, HG.out]⟩
      clear hd HI
      go_wp2
      go_ret2
      exact ⟨⟨X, HD, rfl⟩, _, rfl⟩
    · have hz1 : ((V : Int) == 0) = false := by simp; omega
      have hz2 : ((V : Int) != 0) = true := by simp; omega
      have hz3 : 1 ≤ (V : Int) := by omega
      have hz4 : (V == 0) = false := by simp; omega
      have hst := inv1_step HI.out h0
      have hqa : U / V * V ≤ U := Nat.div_mul_le_self U V
      have hqb : ((U / V : Nat) : Int) ≤ (U : Int) := by have := Nat.div_le_self U V; omega
      have hmd : U - U / V * V = U % V := by have := Nat.div_add_mod' U V; omega
      have hlt := Nat.mod_lt U (show 0 < V by omega)
      have hf := fun y => inv1_factor (x := X) (y := y) (q := U / V) (m := m)
      obtain ⟨Q, hQ⟩ : ∃ Q, Q = U / V := ⟨_, rfl⟩
      obtain ⟨R, hR⟩ : ∃ R, R = U % V := ⟨_, rfl⟩
      rw [← hQ] at hst hqa hqb hmd hf
      rw [← hR] at hst hmd hlt
      have eQ : (U : Int) / (V : Int) = (Q : Int) := by rw [hQ, Int.natCast_ediv]
      have eQV : wrap64 ((Q : Int) * (V : Int)) = (U : Int) - (R : Int) := by
        rw [← Int.natCast_mul]; rw [IntWalk.wrap64_in _ ⟨by omega, by omega⟩]; omega
      have eR : (U : Int) - ((U : Int) - (R : Int)) = (R : Int) := by omega
      obtain ⟨Z, hZ⟩ : ∃ Z : Nat, (Z : Int) = ((X : Int) - ((Q % m * Y % m : Nat) : Int)) % (m : Int) := ⟨_, Int.toNat_of_nonneg (Int.emod_nonneg _ (by omega))⟩
      have hZm : (Z : Int) < (m : Int) := by rw [hZ]; exact Int.emod_lt_of_pos _ (by omega)
      have hns := hst Z (by omega) (by rw [hZ]; exact hf Y)
      have HNS := Lib.hid hns
      have HZ := Lib.hid hZ
      have hRb : (R : Int) < (V : Int) := by omega
      clear hst hf hQ hR hmd hqa hns hZ HI
      have cr := fun w => refReduce_c (Q : Int) (m : Int) w hm1 hm2.out
      have cr2 := fun p w => refReduce_c ((X : Int) - (p : Int)) (m : Int) w hm1 hm2.out
      obtain ⟨Q2, hQ2⟩ : ∃ Q2 : Nat, Q2 = Q % m := ⟨_, rfl⟩
      rw [← Int.natCast_emod, ← hQ2] at cr
      have bQ2 : (Q2 : Int) ≤ (m : Int) := by rw [hQ2]; have := Nat.mod_lt Q (show 0 < m by omega); omega
      have CR := Lib.hid cr
      have CR2 := Lib.hid cr2
      have HQ2 := Lib.hid hQ2
      clear cr cr2 hQ2
      go_wp2_with fail
      refine (CR.out _).mono ?_; rintro e w1 ⟨rfl, rfl⟩
      go_wp2_with fail
      refine (refMul_c Q2 Y m _ (by omega) (by omega) hm1 hm2.out).mono ?_; rintro e1 w1 ⟨⟨P, hP, rfl⟩, n2, rfl⟩
      have bP : (P : Int) < (m : Int) := by rw [hP.out]; have := Nat.mod_lt (Q2 * Y) (show 0 < m by omega); omega
      go_wp2_with fail
      refine (CR2.out (P : Int) _).mono ?_; rintro e w1 ⟨rfl, rfl⟩
      have HZ2 : Hid (((X : Int) - (P : Int)) % (m : Int) = (Z : Int)) := Lib.hid (by rw [HZ.out, hP.out, HQ2.out])
      clear CR CR2 HZ HQ2 hP
      go_wp2
      go_roundw
      case rel => exact ⟨V, R, Y, Z, rfl, by go_num, rfl, congrArg (Value.int .i64) HZ2.out, by omega, by omega, hY, hZm, HNS, _, rfl⟩
      case measure => simp [RowKit.intOf]; omega

set_option maxHeartbeats 400000 in
theorem refInverse_none (a m : Nat) (w : World) (ha : (a : Int) < (m : Int)) (hm : (m : Int) < Top) (hg : Nat.gcd a m ≠ 1) :
    Calls Tryd.prog 67 #[.int .i64 a, .int .i64 m] w fun e w' => e = .returned (.tuple #[.int .i64 0, .bool false]) ∧ Qw w w' := by
  have hm' : (m : Int) ≤ 2305843009213693951 := by unfold Top at hm; omega
  have cg := fun w => refGcd_c (a : Int) (m : Int) w (by omega) (by omega) (by omega) (by omega)
  rw [gcdI_nat a m (by omega) (by omega)] at cg
  have hd : (((Nat.gcd a m : Nat) : Int) != 1) = true := by simp; omega
  generalize Nat.gcd a m = d at *
  clear hg ha hm hm'
  go_enter Tryd.func67, Tryd.ntmps67
  go_wp2_with fail
  refine (cg _).mono ?_; rintro e w' ⟨rfl, n0, rfl⟩
  go_wp2
  go_ret2
  exact ⟨rfl, _, rfl⟩

/-! ### linear congruences -/

theorem dvd_bool {b d : Nat} (h : b % d = 0) : ((b : Int) % (d : Int) != 0) = false := by
  have e : (b : Int) % (d : Int) = ((b % d : Nat) : Int) := (Int.natCast_emod b d).symm
  rw [e, h]; rfl
theorem ndvd_bool {b d : Nat} (h : b % d ≠ 0) : ((b : Int) % (d : Int) != 0) = true := by
  have e : (b : Int) % (d : Int) = ((b % d : Nat) : Int) := (Int.natCast_emod b d).symm
  rw [e]; simp only [bne_iff_ne, ne_eq]; omega

end Go.Proofs.YteipbcpnnojclaaDoor
