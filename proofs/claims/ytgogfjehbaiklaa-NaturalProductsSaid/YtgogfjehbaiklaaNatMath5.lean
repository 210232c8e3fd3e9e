/- Plain arithmetic: division bit by bit; setting a bit. -/
import Derived.Test.YtgogfjehbaiklaaNatMath4
namespace Go.Proofs.Ytgogfjehbaiklaa
namespace NatMath

/-- a list of words whose number is a multiple of 2^(j+1): bit j is set by an addition at its word -/
theorem set_bit {l : List Nat} {j : Nat} (hw : words l) (hj : j < 32 * l.length) (hz : val l % 2 ^ (j + 1) = 0) :
    l.getD (j / 32) 0 + 2 ^ (j % 32) < 4294967296 ∧ words (l.set (j / 32) (l.getD (j / 32) 0 + 2 ^ (j % 32))) ∧ val (l.set (j / 32) (l.getD (j / 32) 0 + 2 ^ (j % 32))) = val l + 2 ^ j := by
  have hs : j % 32 < 32 := Nat.mod_lt _ (by omega)
  have hi : j / 32 < l.length := by omega
  have hp : 2 ^ j = 2 ^ (j % 32) * Bp (j / 32) := by rw [Bp_two, ← Nat.pow_add, Nat.mod_add_div]
  have hlt : l.getD (j / 32) 0 + 2 ^ (j % 32) < 4294967296 := by
    rw [dig_val hw]
    unfold dig
    -- the word is a multiple of 2^(s+1)
    have h1 : val l / Bp (j / 32) % 2 ^ (j % 32 + 1) = 0 := by
      have h2 : val l = val l / 2 ^ (j + 1) * 2 ^ (j + 1) := by
        have := Nat.div_add_mod (val l) (2 ^ (j + 1)); rw [hz, Nat.add_zero, Nat.mul_comm] at this; exact this.symm
      have h3 : 2 ^ (j + 1) = Bp (j / 32) * 2 ^ (j % 32 + 1) := by rw [Bp_two, ← Nat.pow_add]; congr 1; omega
      rw [h2, h3, Nat.mul_left_comm, Nat.mul_div_cancel_left _ (Bp_pos _), Nat.mul_mod_left]
    have h4 : (4294967296 : Nat) = 2 ^ (j % 32 + 1) * 2 ^ (31 - j % 32) := by rw [← Nat.pow_add, show j % 32 + 1 + (31 - j % 32) = 32 from by omega]
    generalize val l / Bp (j / 32) = x at *
    have h5 : x % 4294967296 % 2 ^ (j % 32 + 1) = 0 := by rw [h4, Nat.mod_mul_right_mod]; exact h1
    have h6 := Nat.mod_lt x (show 0 < 4294967296 by omega)
    generalize x % 4294967296 = y at *
    have h7 := Nat.div_add_mod y (2 ^ (j % 32 + 1))
    rw [h5, Nat.add_zero] at h7
    have h8 : y / 2 ^ (j % 32 + 1) < 2 ^ (31 - j % 32) := by
      rw [Nat.div_lt_iff_lt_mul (Nat.two_pow_pos _), Nat.mul_comm, ← h4]; exact h6
    have h9 := Nat.mul_le_mul_left (2 ^ (j % 32 + 1)) h8
    rw [← h4, Nat.mul_succ, h7] at h9
    have h10 : 2 ^ (j % 32 + 1) = 2 * 2 ^ (j % 32) := Nat.pow_succ'
    have h11 := Nat.two_pow_pos (j % 32)
    omega
  refine ⟨hlt, words_set hw hlt, ?_⟩
  have := val_set l (j / 32) (l.getD (j / 32) 0 + 2 ^ (j % 32)) hi
  rw [Nat.add_mul, ← hp] at this
  omega

/-- one step of the division bit by bit -/
theorem div_bit (N M j b r : Nat) (hM : 0 < M) (hbb : b = if bt N j then 1 else 0) (hrr : r = 2 * (N / 2 ^ (j + 1) % M) + b) :
    (M ≤ r → N / 2 ^ j % M = r - M ∧ N / M / 2 ^ j = 2 * (N / M / 2 ^ (j + 1)) + 1) ∧ (¬ M ≤ r → N / 2 ^ j % M = r ∧ N / M / 2 ^ j = 2 * (N / M / 2 ^ (j + 1))) ∧ r < 2 * M := by
  have hx : N / 2 ^ j = 2 * (N / 2 ^ (j + 1)) + b := by
    have h1 : N / 2 ^ (j + 1) = N / 2 ^ j / 2 := by rw [Nat.pow_succ, Nat.div_div_eq_div_mul]
    rw [h1]
    have h2 : b = N / 2 ^ j % 2 := by
      rw [hbb]
      unfold bt
      by_cases h : N / 2 ^ j % 2 = 1
      · simp [h]
      · have := Nat.mod_two_eq_zero_or_one (N / 2 ^ j); simp [h]; omega
    rw [h2]; omega
  have hb : b ≤ 1 := by rw [hbb]; split <;> omega
  have hq : ∀ k, N / M / 2 ^ k = N / 2 ^ k / M := fun k => by rw [Nat.div_div_eq_div_mul, Nat.div_div_eq_div_mul, Nat.mul_comm]
  rw [hq, hq, hx]
  clear hbb hx hq
  generalize N / 2 ^ (j + 1) = y at *
  have hy := Nat.div_add_mod y M
  have hm := Nat.mod_lt y hM
  have e : 2 * y + b = M * (2 * (y / M)) + r := by
    rw [Nat.mul_left_comm M 2]; omega
  have hr : r < 2 * M := by omega
  generalize y / M = q at *
  refine ⟨fun h => ?_, fun h => ?_, hr⟩
  · have e2 : 2 * y + b = M * (2 * q + 1) + (r - M) := by rw [Nat.mul_add, Nat.mul_one, e]; omega
    rw [e2, Nat.mul_add_mod, Nat.mod_eq_of_lt (by omega), Nat.mul_add_div hM, Nat.div_eq_of_lt (by omega)]
    exact ⟨rfl, rfl⟩
  · rw [e, Nat.mul_add_mod, Nat.mod_eq_of_lt (by omega), Nat.mul_add_div hM, Nat.div_eq_of_lt (by omega)]
    exact ⟨rfl, rfl⟩
end NatMath
end Go.Proofs.Ytgogfjehbaiklaa
