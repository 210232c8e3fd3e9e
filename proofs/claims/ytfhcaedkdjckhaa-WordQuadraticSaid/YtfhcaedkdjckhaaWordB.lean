/- The contracts of sums and products of package word, and of the reference's. -/
import Derived.Test.YtfhcaedkdjckhaaWordA
namespace Go.Proofs.Ytfhcaedkdjckhaa
open Go.RowKit DivMath
set_option linter.unusedVariables false

/-- the world has drawn, no more -/
def Qw (w w' : World) : Prop := ∃ n, w' = w.drewN n
theorem Qw.refl (w : World) : Qw w w := ⟨0, rfl⟩
/-- a number came back, of which P is known -/
def RetN (P : Nat → Prop) (e : Ending) : Prop := ∃ r : Nat, Hid (P r) ∧ e = .returned (.int .i64 (r : Int))
/-- a number and an error number -/
def RetE (P : Nat → Prop) (e : Ending) : Prop := ∃ r : Nat, Hid (P r) ∧ e = .returned (.tuple #[.int .i64 (r : Int), .int .i64 0])

theorem conv_u64 (a : Nat) (h : a < 2305843009213693952) : IntKind.u64.wrap (a : Int) = (a : Int) := wrap_fits a (by omega)

theorem conv_i64 (r : Nat) (h : r < 2305843009213693952) : IntKind.i64.wrap (r : Int) = (r : Int) := by
  rw [IntKind.wrap_i64]; omega

set_option maxHeartbeats 400000 in
theorem mul_core (a b m hi lo d r : Nat) (w : World) (e1 : IntKind.u64.wrap (a : Int) = (a : Int)) (e2 : IntKind.u64.wrap (b : Int) = (b : Int)) (e3 : IntKind.u64.wrap (m : Int) = (m : Int)) (hr : (r : Int) ≤ 2305843009213693952)
    (c1 : ∀ w, Calls Try.prog 39 #[.int .u64 a, .int .u64 b] w fun e w' => e = .returned (.tuple #[.int .u64 hi, .int .u64 lo]) ∧ w' = w)
    (c2 : ∀ w, Calls Try.prog 40 #[.int .u64 hi, .int .u64 lo, .int .u64 m] w fun e w' => e = .returned (.tuple #[.int .u64 d, .int .u64 r]) ∧ ∃ n, w' = w.drewN n) :
    Calls Try.prog 35 #[.int .i64 a, .int .i64 b, .int .i64 m] w fun e w' => e = .returned (.int .i64 (r : Int)) ∧ Qw w w' := by
  go_enter Try.func35, Try.ntmps35
  go_wp2_with (first | (go_at_call 39; refine (c1 _).mono ?_; rintro e w' ⟨rfl, rfl⟩) | (go_at_call 40; refine (c2 _).mono ?_; rintro e w' ⟨rfl, n, rfl⟩))
  go_ret
  exact ⟨rfl, _, rfl⟩

theorem mul_v (a b m : Nat) (w : World) (ha : a < m) (hb : b < m) (hm : m < 2305843009213693952) :
    Calls Try.prog 35 #[.int .i64 a, .int .i64 b, .int .i64 m] w fun e w' => e = .returned (.int .i64 ((a * b % m : Nat) : Int)) ∧ Qw w w' := by
  have hab : a * b < m * m := Nat.mul_lt_mul'' ha hb
  have hmm : m * m ≤ 2305843009213693952 * m := Nat.mul_le_mul_right _ (Nat.le_of_lt hm)
  have hq : a * b / 18446744073709551616 < m := by
    rw [Nat.div_lt_iff_lt_mul (by omega)]; omega
  have hr : a * b % m < m := Nat.mod_lt _ (by omega)
  have hdm : a * b / 18446744073709551616 * 18446744073709551616 + a * b % 18446744073709551616 = a * b := by
    have := Nat.div_add_mod (a * b) 18446744073709551616; omega
  refine mul_core a b m _ _ (a * b / m) _ w (conv_u64 a (by omega)) (conv_u64 b (by omega)) (conv_u64 m hm) (by omega) (fun w => Try.bits_Mul64 a b (by omega) (by omega) w) (fun w => ?_)
  have c := div64_c (a * b / 18446744073709551616) (a * b % 18446744073709551616) m w hq (Nat.mod_lt _ (by decide)) (by omega)
  rw [hdm] at c
  exact c

/-- word.mul: the residue of the product -/
theorem mul_c (a b m : Nat) (w : World) (ha : (a : Int) < (m : Int)) (hb : (b : Int) < (m : Int)) (hm : (m : Int) < Top) :
    Calls Try.prog 35 #[.int .i64 a, .int .i64 b, .int .i64 m] w fun e w' => RetN (fun r => r = a * b % m) e ∧ Qw w w' :=
  (mul_v a b m w (by omega) (by omega) (by unfold Top at hm; omega)).mono fun e w' ⟨he, hw⟩ => ⟨⟨_, Lib.hid rfl, he⟩, hw⟩

/-! ### the exported functions -/

set_option maxHeartbeats 400000 in
theorem Mul_ok (a b m : Nat) (w : World) (ha : (a : Int) < (m : Int)) (hb : (b : Int) < (m : Int)) (hm : (m : Int) < Top) :
    Calls Try.prog 24 #[.int .i64 a, .int .i64 b, .int .i64 m] w fun e w' => RetE (fun r => r = a * b % m) e ∧ Qw w w' := by
  have hc : chk (a : Int) (b : Int) (m : Int) = 0 := by
    unfold Top at hm; unfold chk Top; rw [if_neg (by omega), if_pos (by omega)]
  go_enter Try.func24, Try.ntmps24
  go_wp2_with (first | (go_at_call 32; refine (check_c _ _ _ _).mono ?_; rintro e w' ⟨rfl, rfl⟩) | (go_at_call 35; refine (mul_c _ _ _ _ ha hb hm).mono ?_; rintro e w' ⟨⟨r, hr, rfl⟩, n, rfl⟩))
  go_ret2
  exact ⟨⟨r, hr, rfl⟩, _, rfl⟩

set_option maxHeartbeats 400000 in
theorem Add_err (a b m : Int) (w : World) (hc : (chk a b m != 0) = true) :
    Calls Try.prog 25 #[.int .i64 a, .int .i64 b, .int .i64 m] w fun e w' => e = .returned (.tuple #[.int .i64 0, .int .i64 (chk a b m)]) ∧ w = w' := by
  go_enter Try.func25, Try.ntmps25
  go_wp2_with (first | (go_at_call 32; refine (check_c _ _ _ _).mono ?_; rintro e w' ⟨rfl, rfl⟩))
  go_ret2
  exact ⟨rfl, rfl⟩

set_option maxHeartbeats 400000 in
theorem Sub_err (a b m : Int) (w : World) (hc : (chk a b m != 0) = true) :
    Calls Try.prog 26 #[.int .i64 a, .int .i64 b, .int .i64 m] w fun e w' => e = .returned (.tuple #[.int .i64 0, .int .i64 (chk a b m)]) ∧ w = w' := by
  go_enter Try.func26, Try.ntmps26
  go_wp2_with (first | (go_at_call 32; refine (check_c _ _ _ _).mono ?_; rintro e w' ⟨rfl, rfl⟩))
  go_ret2
  exact ⟨rfl, rfl⟩

set_option maxHeartbeats 400000 in
theorem Mul_err (a b m : Int) (w : World) (hc : (chk a b m != 0) = true) :
    Calls Try.prog 24 #[.int .i64 a, .int .i64 b, .int .i64 m] w fun e w' => e = .returned (.tuple #[.int .i64 0, .int .i64 (chk a b m)]) ∧ w = w' := by
  go_enter Try.func24, Try.ntmps24
  go_wp2_with (first | (go_at_call 32; refine (check_c _ _ _ _).mono ?_; rintro e w' ⟨rfl, rfl⟩))
  go_ret2
  exact ⟨rfl, rfl⟩

set_option maxHeartbeats 400000 in
theorem Add_ok (a b m : Nat) (w : World) (ha : (a : Int) < (m : Int)) (hb : (b : Int) < (m : Int)) (hm : (m : Int) < Top) :
    Calls Try.prog 25 #[.int .i64 a, .int .i64 b, .int .i64 m] w fun e w' => RetE (fun r => r = (a + b) % m) e ∧ Qw w w' := by
  have hc : chk (a : Int) (b : Int) (m : Int) = 0 := by
    unfold Top at hm; unfold chk Top; rw [if_neg (by omega), if_pos (by omega)]
  unfold Top at hm
  have hm0 : 1 ≤ (m : Int) := by omega
  obtain ⟨s, hs⟩ : ∃ s : Nat, s = (a + b) % m := ⟨_, rfl⟩
  have es : ((a : Int) + (b : Int)) % (m : Int) = (s : Int) := by rw [hs]; simp
  have HS := Lib.hid hs
  clear hs
  go_enter Try.func25, Try.ntmps25
  go_wp2_with (first | (go_at_call 32; refine (check_c _ _ _ _).mono ?_; rintro e w' ⟨rfl, rfl⟩))
  go_ret2
  exact ⟨⟨s, HS, by rw [← es]; rfl⟩, Qw.refl _⟩

set_option maxHeartbeats 400000 in
theorem Sub_ok (a b m : Nat) (w : World) (ha : (a : Int) < (m : Int)) (hb : (b : Int) < (m : Int)) (hm : (m : Int) < Top) :
    Calls Try.prog 26 #[.int .i64 a, .int .i64 b, .int .i64 m] w fun e w' => RetE (fun r => r = (a + (m - b)) % m) e ∧ Qw w w' := by
  have hc : chk (a : Int) (b : Int) (m : Int) = 0 := by
    unfold Top at hm; unfold chk Top; rw [if_neg (by omega), if_pos (by omega)]
  unfold Top at hm
  have hm0 : 1 ≤ (m : Int) := by omega
  obtain ⟨s, hs⟩ : ∃ s : Nat, s = (a + (m - b)) % m := ⟨_, rfl⟩
  have es : ((a : Int) - (b : Int) + (m : Int)) % (m : Int) = (s : Int) := by rw [hs, Int.natCast_emod]; congr 1; omega
  have HS := Lib.hid hs
  clear hs
  go_enter Try.func26, Try.ntmps26
  go_wp2_with (first | (go_at_call 32; refine (check_c _ _ _ _).mono ?_; rintro e w' ⟨rfl, rfl⟩))
  go_ret2
  exact ⟨⟨s, HS, by rw [← es]; rfl⟩, Qw.refl _⟩

/-! ### the reference -/

def modB (m : Int) : Bool := decide (1 ≤ m ∧ m < Top)

set_option maxHeartbeats 400000 in
theorem refModulus_c (m : Int) (w : World) :
    Calls Try.prog 22 #[.int .i64 m] w fun e w' => e = .returned (.bool (modB m)) ∧ w = w' := by
  by_cases h1 : 1 ≤ m
  · have e : modB m = decide (m < 2305843009213693952) := by simp [modB, h1, Top]
    rw [e]
    go_enter Try.func22, Try.ntmps22
    go_wp2
    go_ret
    exact ⟨rfl, rfl⟩
  · have e : modB m = false := by simp [modB]; omega
    rw [e]
    go_enter Try.func22, Try.ntmps22
    go_wp2
    go_ret
    exact ⟨rfl, rfl⟩

set_option maxHeartbeats 400000 in
theorem refResidue_c (a m : Int) (w : World) :
    Calls Try.prog 17 #[.int .i64 a, .int .i64 m] w fun e w' => e = .returned (.bool (resid a m)) ∧ w = w' := by
  by_cases h1 : 0 ≤ a
  · have e : resid a m = decide (a < m) := by simp [resid, h1]
    rw [e]
    go_enter Try.func17, Try.ntmps17
    go_wp2
    go_ret
    exact ⟨rfl, rfl⟩
  · have e : resid a m = false := by simp [resid]; omega
    rw [e]
    go_enter Try.func17, Try.ntmps17
    go_wp2
    go_ret
    exact ⟨rfl, rfl⟩

set_option maxHeartbeats 400000 in
theorem refFault_c (a b m : Int) (w : World) :
    Calls Try.prog 15 #[.int .i64 a, .int .i64 b, .int .i64 m] w fun e w' => e = .returned (.int .i64 (chk a b m)) ∧ w = w' := by
  rcases chk_cases a b m with ⟨h, hc⟩ | ⟨h1, h3, hc⟩ | ⟨h1, h3, h4, hc⟩
  · rw [hc]; clear hc
    have h0 : modB m = false := decide_eq_false (by omega)
    clear h
    go_enter Try.func15, Try.ntmps15
    go_wp2_with (go_at_call 22; refine (refModulus_c _ _).mono ?_; rintro e w' ⟨rfl, rfl⟩)
    go_ret
    exact ⟨rfl, rfl⟩
  · rw [hc]; clear hc
    have h0 : modB m = true := decide_eq_true h1
    by_cases ha : 0 ≤ a ∧ a < m
    · have r1 : resid a m = true := decide_eq_true ha
      have r2 : resid b m = false := decide_eq_false (fun h => h3 ⟨ha, h⟩)
      clear h1 h3 ha
      go_enter Try.func15, Try.ntmps15
      go_wp2_with (first | (go_at_call 22; refine (refModulus_c _ _).mono ?_; rintro e w' ⟨rfl, rfl⟩) | (go_at_call 17; refine (refResidue_c _ _ _).mono ?_; rintro e w' ⟨rfl, rfl⟩))
      go_ret
      exact ⟨rfl, rfl⟩
    · have r1 : resid a m = false := decide_eq_false ha
      clear h1 h3 ha
      go_enter Try.func15, Try.ntmps15
      go_wp2_with (first | (go_at_call 22; refine (refModulus_c _ _).mono ?_; rintro e w' ⟨rfl, rfl⟩) | (go_at_call 17; refine (refResidue_c _ _ _).mono ?_; rintro e w' ⟨rfl, rfl⟩))
      go_ret
      exact ⟨rfl, rfl⟩
  · rw [hc]; clear hc
    have h0 : modB m = true := decide_eq_true h1
    have r1 : resid a m = true := decide_eq_true h3
    have r2 : resid b m = true := decide_eq_true h4
    clear h1 h3 h4
    go_enter Try.func15, Try.ntmps15
    go_wp2_with (first | (go_at_call 22; refine (refModulus_c _ _).mono ?_; rintro e w' ⟨rfl, rfl⟩) | (go_at_call 17; refine (refResidue_c _ _ _).mono ?_; rintro e w' ⟨rfl, rfl⟩))
    go_ret
    exact ⟨rfl, rfl⟩

/-- Go's remainder, by the sign -/
theorem tmod_facts (a m : Int) (h1 : 1 ≤ m) : (0 ≤ a.tmod m ∧ a.tmod m = a % m ∧ a % m < m) ∨ (a.tmod m < 0 ∧ -m < a.tmod m ∧ a.tmod m + m = a % m ∧ a % m < m) := by
  have hl := Int.emod_lt_of_pos a (show 0 < m by omega)
  have hn := Int.emod_nonneg a (show m ≠ 0 by omega)
  rw [Int.tmod_eq_emod]
  by_cases h : 0 ≤ a ∨ m ∣ a
  · rw [if_pos h]; left; omega
  · rw [if_neg h]
    have : a % m ≠ 0 := fun e => h (Or.inr (Int.dvd_of_emod_eq_zero e))
    right; omega

set_option maxHeartbeats 400000 in
/-- the reference's Reduce: the residue of any number -/
theorem refReduce_c (a m : Int) (w : World) (h1 : 1 ≤ m) (h2 : m < Top) :
    Calls Try.prog 27 #[.int .i64 a, .int .i64 m] w fun e w' => e = .returned (.int .i64 (a % m)) ∧ w = w' := by
  unfold Top at h2
  have hm0 : (m == 0) = false := by simp; omega
  rcases tmod_facts a m h1 with ⟨f1, f2, f3⟩ | ⟨f1, f2, f3, f4⟩
  · rw [← f2]
    rw [← f2] at f3
    clear f2
    generalize ht : a.tmod m = t at *
    have h0 : decide (t < 0) = false := decide_eq_false (by omega)
    go_enter Try.func27, Try.ntmps27
    go_wp2
    go_ret
    exact ⟨rfl, rfl⟩
  · rw [← f3]
    rw [← f3] at f4
    clear f3
    generalize ht : a.tmod m = t at *
    have h0 : decide (t < 0) = true := decide_eq_true (by omega)
    go_enter Try.func27, Try.ntmps27
    go_wp2
    go_ret
    exact ⟨rfl, rfl⟩

set_option maxHeartbeats 400000 in
/-- word.Reduce -/
theorem Reduce_ok (a m : Int) (w : World) (h1 : 1 ≤ m) (h2 : m < Top) :
    Calls Try.prog 30 #[.int .i64 a, .int .i64 m] w fun e w' => e = .returned (.tuple #[.int .i64 (a % m), .int .i64 0]) ∧ Qw w w' := by
  have hc : chk 0 0 m = 0 := by unfold Top at h2; unfold chk Top; rw [if_neg (by omega), if_pos (by omega)]
  unfold Top at h2
  have hm0 : (m == 0) = false := by simp; omega
  rcases tmod_facts a m h1 with ⟨f1, f2, f3⟩ | ⟨f1, f2, f3, f4⟩
  · rw [← f2]
    rw [← f2] at f3
    clear f2
    generalize ht : a.tmod m = t at *
    have h0 : decide (t < 0) = false := decide_eq_false (by omega)
    go_enter Try.func30, Try.ntmps30
    go_wp2_with (first | (go_at_call 32; refine (check_c _ _ _ _).mono ?_; rintro e w' ⟨rfl, rfl⟩))
    go_ret2
    exact ⟨rfl, Qw.refl _⟩
  · rw [← f3]
    rw [← f3] at f4
    clear f3
    generalize ht : a.tmod m = t at *
    have h0 : decide (t < 0) = true := decide_eq_true (by omega)
    go_enter Try.func30, Try.ntmps30
    go_wp2_with (first | (go_at_call 32; refine (check_c _ _ _ _).mono ?_; rintro e w' ⟨rfl, rfl⟩))
    go_ret2
    exact ⟨rfl, Qw.refl _⟩

set_option maxHeartbeats 400000 in
theorem Reduce_err (a m : Int) (w : World) (h : m < 1 ∨ Top ≤ m) :
    Calls Try.prog 30 #[.int .i64 a, .int .i64 m] w fun e w' => e = .returned (.tuple #[.int .i64 0, .int .i64 1]) ∧ w = w' := by
  have hc : chk 0 0 m = 1 := by unfold chk; rw [if_pos h]
  go_enter Try.func30, Try.ntmps30
  go_wp2_with (first | (go_at_call 32; refine (check_c _ _ _ _).mono ?_; rintro e w' ⟨rfl, rfl⟩))
  go_ret2
  exact ⟨rfl, rfl⟩

/-- one round of the reference's multiplication -/
theorem mul_round (O A B m : Nat) : (((if B % 2 = 1 then (O + A) % m else O) + (A + A) % m * (B / 2)) % m = (O + A * B) % m) := by
  have hB := Nat.div_add_mod B 2
  have e : A * B = (A + A) * (B / 2) + A * (B % 2) := by
    conv => lhs; rw [← hB]
    rw [Nat.mul_add, ← Nat.mul_assoc, Nat.mul_two]
  rw [e, Nat.add_mod, Nat.mod_mul_mod]
  rcases Nat.mod_two_eq_zero_or_one B with h | h
  · rw [h]; simp [Nat.add_mod_mod]
  · rw [h]; simp
    rw [show O + ((A + A) * (B / 2) + A) = O + A + (A + A) * (B / 2) by omega]

theorem half_lt (b : Nat) (h : 0 < b) : b / 2 < b := by omega

set_option maxHeartbeats 1000000 in
/-- the reference's product, of a number below 2^62 -/
theorem refMul_c (a b m : Nat) (w : World) (ha : (a : Int) ≤ 4611686018427387903) (hb : (b : Int) ≤ 9223372036854775807) (hm1 : 1 ≤ (m : Int)) (hm : (m : Int) < Top) :
    Calls Try.prog 18 #[.int .i64 a, .int .i64 b, .int .i64 m] w fun e w' => RetN (fun r => r = a * b % m) e ∧ Qw w w' := by
  unfold Top at hm
  by_cases hs : a < 2147483648 ∧ b < 2147483648
  · have h1 : decide ((a : Int) < 2147483648) = true := decide_eq_true (by omega)
    have h2 : decide ((b : Int) < 2147483648) = true := decide_eq_true (by omega)
    have hp : a * b < 2147483648 * 2147483648 := Nat.mul_lt_mul'' hs.1 hs.2
    have hs' := Lib.hid hs
    clear hs
    obtain ⟨p, hp'⟩ : ∃ p, p = a * b := ⟨_, rfl⟩
    have ep : wrap64 ((a : Int) * (b : Int)) = (p : Int) := by
      rw [hp', ← Int.natCast_mul]; exact IntWalk.wrap64_in _ ⟨by omega, by omega⟩
    have hp0 : (p : Int) ≤ 4611686018427387904 := by rw [hp']; omega
    have HP := Lib.hid hp'
    clear hp' hp
    go_enter Try.func18, Try.ntmps18
    go_wp2
    go_ret
    exact ⟨⟨p % m, Lib.hid (by rw [HP.out]), by rfl⟩, Qw.refl _⟩
  · have hd : (∃ x : Unit, decide ((a : Int) < 2147483648) = true ∧ decide ((b : Int) < 2147483648) = false) ∨ (∃ x : Unit, decide ((a : Int) < 2147483648) = false) := by
      by_cases h : a < 2147483648
      · exact Or.inl ⟨(), decide_eq_true (by omega), decide_eq_false (by omega)⟩
      · exact Or.inr ⟨(), decide_eq_false (by omega)⟩
    clear hs
    rcases hd with ⟨_, d1, d2⟩ | ⟨_, d1⟩
    all_goals
      go_enter Try.func18, Try.ntmps18
      go_wp2
      go_loop [0, 1, 7] (fun x y z => ∃ A B O : Nat, x = .int .i64 A ∧ y = .int .i64 B ∧ z = .int .i64 O ∧ (A : Int) ≤ 4611686018427387903 ∧ (B : Int) ≤ 9223372036854775807 ∧ (O : Int) < (m : Int) ∧ Hid ((O + A * B) % m = a * b % m)) (fun _ y _ => (RowKit.intOf y).toNat)
      case atStart => exact ⟨a, b, 0, rfl, rfl, rfl, ha, hb, by omega, Lib.hid (by rw [Nat.zero_add])⟩
      case round =>
        obtain ⟨A, B, O, rfl, rfl, rfl, hA, hB, hO, HI⟩ := hrel
        have hr := mul_round O A B m
        rw [HI.out] at hr
        obtain ⟨O2, hO2⟩ : ∃ O2, O2 = (O + A) % m := ⟨_, rfl⟩
        obtain ⟨A2, hA2⟩ : ∃ A2, A2 = (A + A) % m := ⟨_, rfl⟩
        have bO2 : (O2 : Int) < (m : Int) := by rw [hO2]; have := Nat.mod_lt (O + A) (show 0 < m by omega); omega
        have bA2 : (A2 : Int) < (m : Int) := by rw [hA2]; have := Nat.mod_lt (A + A) (show 0 < m by omega); omega
        have eO2 : ((O : Int) + (A : Int)) % (m : Int) = (O2 : Int) := by rw [hO2]; simp
        have eA2 : ((A : Int) + (A : Int)) % (m : Int) = (A2 : Int) := by rw [hA2]; simp
        rw [← hO2, ← hA2] at hr
        have HR := Lib.hid hr
        clear hr hO2 hA2
        by_cases h0 : B = 0
        · have hdone : Hid (O = a * b % m) := Lib.hid (by
            have := HI.out
            rw [h0, Nat.mul_zero, Nat.add_zero, Nat.mod_eq_of_lt (by omega)] at this
            exact this)
          subst h0
          clear HR HI
          go_wp2
          go_ret
          exact ⟨⟨O, hdone, rfl⟩, Qw.refl _⟩
        · have hB0 : 0 < (B : Int) := by omega
          have hg : decide (0 < B) = true := decide_eq_true (by omega)
          by_cases h2 : B % 2 = 1
          · have ht : ((B : Int) % 2 == 1) = true := by simp; omega
            have HR2 : Hid ((O2 + A2 * (B / 2)) % m = a * b % m) := Lib.hid (by have := HR.out; rw [if_pos h2] at this; exact this)
            clear HR HI h2
            go_wp2
            go_round
            case rel => exact ⟨A2, B / 2, O2, congrArg (Value.int .i64) eA2, by go_num, congrArg (Value.int .i64) eO2, by omega, by omega, by omega, HR2⟩
            case measure => simp [RowKit.intOf]; omega
          · have ht : ((B : Int) % 2 == 1) = false := by simp; omega
            have HR2 : Hid ((O + A2 * (B / 2)) % m = a * b % m) := Lib.hid (by have := HR.out; rw [if_neg h2] at this; exact this)
            clear HR HI h2
            go_wp2
            go_round
            case rel => exact ⟨A2, B / 2, O, congrArg (Value.int .i64) eA2, by go_num, rfl, by omega, by omega, by omega, HR2⟩
            case measure => simp [RowKit.intOf]; omega
end Go.Proofs.Ytfhcaedkdjckhaa
