/- Plain numbers for package natmod: sizes, and Euclid's algorithm with an inverse. No program in sight. -/
import Derived.Test.YthphmgdmhlimjaaNatMath4
namespace Go.Proofs.Ythphmgdmhlimjaa.NatMath
set_option linter.unusedVariables false

theorem len_le_of_le {a b : Nat} (h : a ≤ b) : len a ≤ len b := len_le_iff.2 (Nat.lt_of_le_of_lt h (lt_Bp_len b))
theorem len_le_of_lt {a b k : Nat} (h : a < b) (hb : len b ≤ k) : len a ≤ k := Nat.le_trans (len_le_of_le (Nat.le_of_lt h)) hb
theorem len_add_le {a b j k : Nat} (ha : len a ≤ j) (hb : len b ≤ j) (hk : j < k) : len (a + b) ≤ k := by
  have h1 := len_le_iff.1 ha
  have h2 := len_le_iff.1 hb
  have h3 : Bp (j + 1) ≤ Bp k := Bp_le hk
  rw [Bp_succ] at h3
  exact len_le_iff.2 (by omega)
theorem len_mul_le {a b i j k : Nat} (ha : len a ≤ i) (hb : len b ≤ j) (hk : i + j ≤ k) : len (a * b) ≤ k := by
  have h1 := len_le_iff.1 ha
  have h2 := len_le_iff.1 hb
  have h3 : Bp (i + j) ≤ Bp k := Bp_le hk
  rw [Bp_add] at h3
  exact len_le_iff.2 (Nat.lt_of_lt_of_le (Nat.mul_lt_mul'' h1 h2) h3)
theorem len_one : len 1 = 1 := by rw [len_pos (by decide)]; rw [show 1 / 4294967296 = 0 from rfl, len_zero]
theorem len_le_bits {n k : Nat} : bl n ≤ 32 * k ↔ len n ≤ k := len_bl.symm
theorem cmp_lt_iff (a b : Nat) : decide (cmp a b < 0) = decide (a < b) := by
  unfold cmp; split
  · rename_i h; rw [decide_eq_true h]; rfl
  · rename_i h; rw [decide_eq_false h]; split <;> rfl
theorem cmp_zero_iff (a b : Nat) : (cmp a b == 0) = decide (a = b) := by
  unfold cmp; split
  · rename_i h; rw [decide_eq_false (by omega)]; rfl
  · split
    · rename_i h; rw [decide_eq_false (by omega)]; rfl
    · rename_i h1 h2; rw [decide_eq_true (by omega)]; rfl

/-- the difference of residues modulo m -/
def subm (a b m : Nat) : Nat := if a < b then a + m - b else a - b
theorem subm_lt {a b m : Nat} (ha : a < m) (hb : b < m) : subm a b m < m := by unfold subm; split <;> omega
theorem subm_cong {a b m : Nat} (hb : b < m) : (m : Int) ∣ (subm a b m : Int) - (a - b) := by
  unfold subm; split
  · exact ⟨1, by omega⟩
  · exact ⟨0, by omega⟩
theorem subm_mod {a b m : Nat} (ha : a < m) (hb : b < m) : (subm a b m + b) % m = a := by
  unfold subm; split
  · rw [show a + m - b + b = a + m from by omega, Nat.add_mod_right, Nat.mod_eq_of_lt ha]
  · rw [show a - b + b = a from by omega, Nat.mod_eq_of_lt ha]

/-- Euclid's algorithm as both texts run it: the last remainder, and its factor -/
def inv (m : Nat) (r s x y : Nat) : Nat × Nat := if h : s = 0 then (x, r) else inv m s (r % s) y (subm x (r / s % m * y % m) m)
termination_by s
decreasing_by exact Nat.mod_lt _ (Nat.pos_of_ne_zero h)
theorem inv_zero (m r x y : Nat) : inv m r 0 x y = (x, r) := by rw [inv]; simp
theorem inv_pos (m r x y : Nat) {s : Nat} (h : s ≠ 0) : inv m r s x y = inv m s (r % s) y (subm x (r / s % m * y % m) m) := by
  conv => lhs; rw [inv]
  simp [h]
/-- each remainder is congruent to its factor times a -/
def InvI (a m r s x y : Nat) : Prop := x < m ∧ y < m ∧ (m : Int) ∣ (a : Int) * x - r ∧ (m : Int) ∣ (a : Int) * y - s ∧ Nat.gcd r s = Nat.gcd a m
theorem InvI.start {a m : Nat} (hm : m ≠ 0) : InvI a m m a 0 (1 % m) := by
  refine ⟨by omega, Nat.mod_lt _ (by omega), ⟨-1, by simp⟩, ?_, Nat.gcd_comm _ _⟩
  have h := Int.emod_add_mul_ediv 1 (m : Int)
  refine ⟨-(a : Int) * (1 / (m : Int)), ?_⟩
  have h2 : ((1 % m : Nat) : Int) = 1 % (m : Int) := Int.natCast_emod 1 m
  rw [h2]
  have h3 : (1 : Int) % m = 1 - m * (1 / m) := by omega
  rw [h3]; grind
theorem InvI.step {a m r s x y : Nat} (h : InvI a m r s x y) (hs : s ≠ 0) : InvI a m s (r % s) y (subm x (r / s % m * y % m) m) := by
  obtain ⟨h1, h2, h3, h4, h5⟩ := h
  have hm : 0 < m := by omega
  have hz : r / s % m * y % m < m := Nat.mod_lt _ hm
  refine ⟨h2, subm_lt h1 hz, h4, ?_, ?_⟩
  · obtain ⟨c, hc⟩ := @subm_cong x (r / s % m * y % m) m hz
    obtain ⟨d, hd⟩ := h3
    obtain ⟨e, he⟩ := h4
    have e1 : ((r % s : Nat) : Int) = (r : Int) - s * ((r / s : Nat) : Int) := by
      have := Nat.div_add_mod r s
      have h2 : ((s * (r / s) + r % s : Nat) : Int) = (r : Int) := by rw [this]
      simp only [Int.natCast_add, Int.natCast_mul] at h2; omega
    have e2 : ((r / s % m * y % m : Nat) : Int) = ((r / s % m * y : Nat) : Int) - m * ((r / s % m * y / m : Nat) : Int) := by
      have := Nat.div_add_mod (r / s % m * y) m
      have h2 : ((m * (r / s % m * y / m) + r / s % m * y % m : Nat) : Int) = ((r / s % m * y : Nat) : Int) := by rw [this]
      simp only [Int.natCast_add, Int.natCast_mul] at h2 ⊢; omega
    have e3 : ((r / s % m : Nat) : Int) = ((r / s : Nat) : Int) - m * ((r / s / m : Nat) : Int) := by
      have := Nat.div_add_mod (r / s) m
      have h2 : ((m * (r / s / m) + r / s % m : Nat) : Int) = ((r / s : Nat) : Int) := by rw [this]
      simp only [Int.natCast_add, Int.natCast_mul] at h2 ⊢; omega
    rw [e1]
    rw [Int.natCast_mul] at e2
    generalize ((r / s % m * y / m : Nat) : Int) = u at *
    generalize ((r / s / m : Nat) : Int) = v at *
    generalize ((r / s : Nat) : Int) = q at *
    generalize ((r / s % m : Nat) : Int) = t at *
    generalize ((r / s % m * y % m : Nat) : Int) = z at *
    generalize ((subm x (r / s % m * y % m) m : Nat) : Int) = k at *
    subst e3
    subst e2
    refine ⟨a * c + d - e * q + a * u + a * v * y, ?_⟩
    grind
  · rw [← h5, Nat.gcd_comm s (r % s), ← Nat.gcd_rec, Nat.gcd_comm]
theorem inv_spec {a m : Nat} (s : Nat) : ∀ (r x y : Nat), InvI a m r s x y → (inv m r s x y).1 < m ∧ (inv m r s x y).2 = Nat.gcd a m ∧ (m : Int) ∣ (a : Int) * (inv m r s x y).1 - (inv m r s x y).2 := by
  induction s using Nat.strongRecOn with
  | _ s ih =>
    intro r x y h
    by_cases hs : s = 0
    · subst hs
      rw [inv_zero]
      refine ⟨h.1, ?_, h.2.2.1⟩
      have := h.2.2.2.2
      rw [Nat.gcd_zero_right] at this
      exact this
    · rw [inv_pos _ _ _ _ hs]
      exact ih _ (Nat.mod_lt _ (by omega)) _ _ _ (h.step hs)
/-- the inverse as it is computed, and whether there is one -/
def invV (a m : Nat) : Nat := (inv m m a 0 (1 % m)).1
def invG (a m : Nat) : Nat := (inv m m a 0 (1 % m)).2
theorem invG_eq {a m : Nat} (hm : m ≠ 0) : invG a m = Nat.gcd a m := (inv_spec a m 0 (1 % m) (InvI.start hm)).2.1
theorem invV_lt {a m : Nat} (hm : m ≠ 0) : invV a m < m := (inv_spec a m 0 (1 % m) (InvI.start hm)).1
theorem invV_mul {a m : Nat} (hm : m ≠ 0) (hg : Nat.gcd a m = 1) : a * invV a m % m = 1 % m := by
  have h := (inv_spec a m 0 (1 % m) (InvI.start hm)).2.2
  rw [(inv_spec a m 0 (1 % m) (InvI.start hm)).2.1, hg] at h
  have h2 := Int.emod_eq_emod_iff_emod_sub_eq_zero.2 (Int.emod_eq_zero_of_dvd h)
  have h3 : ((a * invV a m : Nat) : Int) % (m : Int) = ((1 : Nat) : Int) % (m : Int) := by
    rw [Int.natCast_mul]; exact h2
  rw [← Int.natCast_emod, ← Int.natCast_emod] at h3
  exact Int.ofNat.inj h3
/-- powers, bit by bit from the highest one -/
theorem powm_step (N E K j : Nat) : ((if bt E j = true then N ^ (E / 2 ^ (j + 1)) % K * (N ^ (E / 2 ^ (j + 1)) % K) % K * N % K else N ^ (E / 2 ^ (j + 1)) % K * (N ^ (E / 2 ^ (j + 1)) % K) % K)) = N ^ (E / 2 ^ j) % K := by
  have e1 : E / 2 ^ (j + 1) = E / 2 ^ j / 2 := by rw [Nat.pow_succ, Nat.div_div_eq_div_mul]
  unfold bt
  rw [e1]
  generalize E / 2 ^ j = h
  have e2 : N ^ (h / 2) % K * (N ^ (h / 2) % K) % K = N ^ (h / 2 + h / 2) % K := by rw [← Nat.mul_mod, ← Nat.pow_add]
  rw [e2]
  by_cases hh : h % 2 = 1
  · rw [if_pos (by simpa using hh), Nat.mul_mod, Nat.mod_mod, ← Nat.mul_mod, ← Nat.pow_succ, show (h / 2 + h / 2).succ = h from by omega]
  · rw [if_neg (by simpa using hh), show h / 2 + h / 2 = h from by omega]
theorem powm_start (N E K : Nat) : N ^ (E / 2 ^ bl E) % K = 1 % K := by rw [Nat.div_eq_of_lt (lt_two_bl E), Nat.pow_zero]
/-- the greatest common divisor as it is computed -/
theorem gcd_step {a b : Nat} : Nat.gcd a b = Nat.gcd b (a % b) := by rw [Nat.gcd_comm b, ← Nat.gcd_rec, Nat.gcd_comm]
end Go.Proofs.Ythphmgdmhlimjaa.NatMath
