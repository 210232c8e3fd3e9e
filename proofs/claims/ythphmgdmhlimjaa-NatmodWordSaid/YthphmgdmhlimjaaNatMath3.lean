/- Plain arithmetic: the bits of numbers and their count. -/
import Derived.Test.YthphmgdmhlimjaaNatMath2
import Derived.Lib.BitFns
namespace Go.Proofs.Ythphmgdmhlimjaa
namespace NatMath

/-- bit i of n -/
def bt (n i : Nat) : Bool := decide (n / 2 ^ i % 2 = 1)
/-- the number of bits of n -/
def bl (n : Nat) : Nat := if n = 0 then 0 else n.log2 + 1
theorem bl_zero : bl 0 = 0 := rfl
theorem bl_le_iff {n k : Nat} : bl n ≤ k ↔ n < 2 ^ k := by
  unfold bl
  by_cases h : n = 0
  · subst h; simp [Nat.pow_pos]
  · rw [if_neg h, ← Nat.log2_lt h]; omega
theorem lt_two_bl (n : Nat) : n < 2 ^ bl n := bl_le_iff.1 (Nat.le_refl _)
theorem bl_eq {n k : Nat} (h1 : n < 2 ^ k) (h2 : k = 0 ∨ 2 ^ (k - 1) ≤ n) : bl n = k := by
  have a := bl_le_iff.2 h1
  rcases h2 with h2 | h2
  · omega
  · have : ¬ bl n ≤ k - 1 := fun h => by have := bl_le_iff.1 h; omega
    omega
theorem bl_pos {n : Nat} (h : n ≠ 0) : 0 < bl n := by unfold bl; rw [if_neg h]; omega
theorem two_bl_le {n : Nat} (h : n ≠ 0) : 2 ^ (bl n - 1) ≤ n := by
  have := bl_pos h
  apply Nat.le_of_not_lt; intro hh
  have := bl_le_iff.2 hh; omega
theorem pow_split (a b : Nat) : 2 ^ (a + b) = 2 ^ a * 2 ^ b := Nat.pow_add ..
theorem bl_shift {n k : Nat} (h : n ≠ 0) : bl (n * 2 ^ k) = bl n + k := by
  have h1 := lt_two_bl n
  have h2 := two_bl_le h
  have h3 := bl_pos h
  apply bl_eq
  · rw [pow_split]; exact (Nat.mul_lt_mul_right (Nat.two_pow_pos k)).2 h1
  · right
    have e : bl n + k - 1 = (bl n - 1) + k := by omega
    rw [e, pow_split]; exact Nat.mul_le_mul_right _ h2
theorem bl_div {n k : Nat} : bl (n / 2 ^ k) = bl n - k := by
  by_cases h : bl n ≤ k
  · rw [Nat.div_eq_of_lt (bl_le_iff.1 h), bl_zero]; omega
  · have h0 : n ≠ 0 := by rintro rfl; simp [bl_zero] at h
    have h1 := lt_two_bl n
    have h2 := two_bl_le h0
    apply bl_eq
    · rw [Nat.div_lt_iff_lt_mul (Nat.two_pow_pos k), ← pow_split, show bl n - k + k = bl n from by omega]; exact h1
    · right
      rw [Nat.le_div_iff_mul_le (Nat.two_pow_pos k), ← pow_split, show bl n - k - 1 + k = bl n - 1 from by omega]; exact h2
theorem bl_mono {a b : Nat} (h : a ≤ b) : bl a ≤ bl b := bl_le_iff.2 (Nat.lt_of_le_of_lt h (lt_two_bl b))
theorem bl_half {n : Nat} (h : n ≠ 0) : bl n = 1 + bl (n / 2) := by
  have := bl_div (n := n) (k := 1)
  have := bl_pos h
  rw [Nat.pow_one] at *; omega
theorem bitLen_bl : ∀ (k n : Nat), n < 2 ^ k → k ≤ 64 → Lib.bitLen n = bl n
  | k, 0, _, _ => by rfl
  | 0, n + 1, h, _ => by simp at h
  | k + 1, n + 1, h, hk => by
    have h2 : n + 1 < 2 ^ 64 := Nat.lt_of_lt_of_le h (Nat.pow_le_pow_right (by omega) hk)
    rw [Lib.bitLen_half (n + 1) (by omega) h2, bl_half (by omega), bitLen_bl k ((n + 1) / 2) (by rw [Nat.pow_succ] at h; omega) (by omega)]

theorem Bp_two (k : Nat) : Bp k = 2 ^ (32 * k) := by
  unfold Bp; rw [Nat.pow_mul]
theorem len_bl {n k : Nat} : len n ≤ k ↔ bl n ≤ 32 * k := by rw [len_le_iff, bl_le_iff, Bp_two]
theorem bl_top {n : Nat} (h : n ≠ 0) : bl n = 32 * (len n - 1) + bl (dig n (len n - 1)) := by
  have hl : 0 < len n := by
    apply Nat.pos_of_ne_zero; intro e; exact h (len_eq_zero.1 e)
  have h1 : n / Bp (len n - 1) < 4294967296 := by
    rw [Nat.div_lt_iff_lt_mul (Bp_pos _), Nat.mul_comm, ← Bp_succ, show len n - 1 + 1 = len n from by omega]
    exact lt_Bp_len n
  have h2 : dig n (len n - 1) = n / Bp (len n - 1) := by unfold dig; exact Nat.mod_eq_of_lt h1
  rw [h2, Bp_two, bl_div]
  have h3 := Bp_len_le h
  rw [Bp_two] at h3
  have : ¬ bl n ≤ 32 * (len n - 1) := fun hh => by have := bl_le_iff.1 hh; omega
  omega
theorem bt_dig (n i : Nat) : bt n i = decide (dig n (i / 32) / 2 ^ (i % 32) % 2 = 1) := by
  unfold bt dig
  have e : i = 32 * (i / 32) + i % 32 := (Nat.div_add_mod i 32).symm
  have h : n / Bp (i / 32) % 4294967296 / 2 ^ (i % 32) % 2 = n / 2 ^ i % 2 := by
    conv => rhs; rw [e]
    rw [Bp_two, pow_split, ← Nat.div_div_eq_div_mul]
    generalize n / 2 ^ (32 * (i / 32)) = m
    have hr : i % 32 < 32 := Nat.mod_lt _ (by omega)
    generalize i % 32 = r at hr
    have h4 : (4294967296 : Nat) = 2 ^ r * (2 * 2 ^ (31 - r)) := by
      rw [← Nat.pow_succ', ← Nat.pow_add, show r + (31 - r + 1) = 32 from by omega]
    rw [h4, Nat.mod_mul_right_div_self, Nat.mod_mul_right_mod]
  rw [h]
theorem bt_above {n i : Nat} (h : 32 * len n ≤ i) : bt n i = false := by
  unfold bt
  have : n < 2 ^ i := bl_le_iff.1 (Nat.le_trans (len_bl.1 (Nat.le_refl _)) h)
  rw [Nat.div_eq_of_lt this]; rfl
/-- one step down of the search for the highest bit -/
theorem bl_found {n i : Nat} (h : n < 2 ^ (i + 1)) (hb : bt n i = true) : bl n = i + 1 := by
  have h1 : n / 2 ^ i % 2 = 1 := of_decide_eq_true hb
  refine bl_eq h (Or.inr ?_)
  rw [Nat.add_sub_cancel]
  apply Nat.le_of_not_lt; intro hh
  rw [Nat.div_eq_of_lt hh] at h1; omega
theorem bl_down {n i : Nat} (h : n < 2 ^ (i + 1)) (hb : bt n i = false) : n < 2 ^ i := by
  have h1 : ¬ n / 2 ^ i % 2 = 1 := of_decide_eq_false hb
  have h2 : n / 2 ^ i < 2 := by rw [Nat.div_lt_iff_lt_mul (Nat.two_pow_pos i), Nat.mul_comm]; rw [Nat.pow_succ] at h; exact h
  have h3 : n / 2 ^ i = 0 := by clear h; generalize n / 2 ^ i = q at h1 h2; omega
  exact (Nat.div_eq_zero_iff_lt (Nat.two_pow_pos i)).1 h3
/-- words laid beside each other -/
theorem or_shift {a b k : Nat} (h : a < 2 ^ k) : a ||| (b * 2 ^ k) = a + b * 2 ^ k := by
  rw [Nat.or_comm, Nat.mul_comm b, ← Nat.two_pow_add_eq_or_of_lt h, Nat.add_comm]
end NatMath
end Go.Proofs.Ythphmgdmhlimjaa
