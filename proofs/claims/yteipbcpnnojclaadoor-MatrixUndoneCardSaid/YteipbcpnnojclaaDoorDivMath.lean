/- Plain numbers: one step of the division of two digits by the upper digit of the divisor, as math/bits.Div64 does it; no program in sight. -/
namespace Go.Proofs.YteipbcpnnojclaaDoor.DivMath
set_option linter.unusedVariables false

/-- what is known of a guess q with its rest r, for the number u and the next digit d, by the divisor v1 * 2^32 + v0 -/
def Inv (v1 v0 u d q r : Nat) : Prop := (u * 4294967296 + d) / (v1 * 4294967296 + v0) ≤ q ∧ q ≤ 4294967297 ∧ q * v1 + r = u ∧ r < 4294967296

section
variable {v1 v0 u d q r : Nat}

theorem lt_base (hd : d < 4294967296) (hu : u < v1 * 4294967296 + v0) : (u * 4294967296 + d) / (v1 * 4294967296 + v0) < 4294967296 := by
  rw [Nat.div_lt_iff_lt_mul (by omega)]; omega

theorem inv_start (h1 : 2147483648 ≤ v1) (h1' : v1 < 4294967296) (h0 : v0 < 4294967296) (hd : d < 4294967296) (hu : u < v1 * 4294967296 + v0) :
    Inv v1 v0 u d (u / v1) (u % v1) := by
  have hm := Nat.div_add_mod u v1
  have hr := Nat.mod_lt u (show 0 < v1 by omega)
  refine ⟨?_, ?_, ?_, by omega⟩
  · rw [Nat.le_div_iff_mul_le (by omega)]
    have h := Nat.div_mul_le_self (u * 4294967296 + d) (v1 * 4294967296 + v0)
    generalize (u * 4294967296 + d) / (v1 * 4294967296 + v0) = k at *
    rw [Nat.mul_add, ← Nat.mul_assoc] at h
    omega
  · have : u / v1 < 4294967298 := by rw [Nat.div_lt_iff_lt_mul (by omega)]; omega
    omega
  · rw [Nat.mul_comm]; exact hm

theorem inv_done (hd : d < 4294967296) (h1 : 2147483648 ≤ v1) (h : Inv v1 v0 u d q r) (ht : q * v0 ≤ 4294967296 * r + d) : q = (u * 4294967296 + d) / (v1 * 4294967296 + v0) := by
  obtain ⟨a, b, c, e⟩ := h
  refine Nat.le_antisymm ?_ a
  rw [Nat.le_div_iff_mul_le (by omega), Nat.mul_add, ← Nat.mul_assoc]
  clear a
  omega

theorem inv_more (hd : d < 4294967296) (h1 : 2147483648 ≤ v1) (hu : u < v1 * 4294967296 + v0) (h : Inv v1 v0 u d q r) (ht : 4294967296 ≤ q ∨ 4294967296 * r + d < q * v0) : (u * 4294967296 + d) / (v1 * 4294967296 + v0) + 1 ≤ q := by
  obtain ⟨a, b, c, e⟩ := h
  rcases ht with ht | ht
  · have := lt_base hd hu; omega
  · have hq : (u * 4294967296 + d) / (v1 * 4294967296 + v0) < q := by
      rw [Nat.div_lt_iff_lt_mul (by omega), Nat.mul_add, ← Nat.mul_assoc]
      clear a
      omega
    exact hq

theorem inv_step (hd : d < 4294967296) (h1 : 2147483648 ≤ v1) (hu : u < v1 * 4294967296 + v0) (h : Inv v1 v0 u d q r) (ht : 4294967296 ≤ q ∨ 4294967296 * r + d < q * v0) (hr : r + v1 < 4294967296) :
    Inv v1 v0 u d (q - 1) (r + v1) := by
  have hm := inv_more hd h1 hu h ht
  obtain ⟨a, b, c, e⟩ := h
  refine ⟨Nat.le_sub_one_of_lt hm, Nat.le_trans (Nat.sub_le _ _) b, ?_, hr⟩
  clear a
  have hq1 : 1 ≤ q := Nat.le_trans (Nat.le_add_left 1 _) hm
  obtain ⟨k, rfl⟩ : ∃ k, q = k + 1 := ⟨q - 1, (Nat.sub_add_cancel hq1).symm⟩
  rw [Nat.add_mul] at c
  simp only [Nat.add_sub_cancel]
  omega

theorem inv_last (hd : d < 4294967296) (h1 : 2147483648 ≤ v1) (h0 : v0 < 4294967296) (hu : u < v1 * 4294967296 + v0) (h : Inv v1 v0 u d q r) (ht : 4294967296 ≤ q ∨ 4294967296 * r + d < q * v0) (hr : 4294967296 ≤ r + v1) :
    q - 1 = (u * 4294967296 + d) / (v1 * 4294967296 + v0) := by
  have hm := inv_more hd h1 hu h ht
  obtain ⟨a, b, c, e⟩ := h
  refine Nat.le_antisymm ?_ (Nat.le_sub_one_of_lt hm)
  have hq1 : 1 ≤ q := Nat.le_trans (Nat.le_add_left 1 _) hm
  obtain ⟨k, rfl⟩ : ∃ k, q = k + 1 := ⟨q - 1, (Nat.sub_add_cancel hq1).symm⟩
  rw [Nat.le_div_iff_mul_le (by omega), Nat.mul_add, ← Nat.mul_assoc]
  rw [Nat.add_mul] at c
  simp only [Nat.add_sub_cancel]
  have hk : k * v0 ≤ 4294967296 * v0 := Nat.mul_le_mul_right _ (by omega)
  clear a hm
  omega
end

/-- the two digits together -/
theorem two_digits (v u d1 d0 : Nat) (hv : 0 < v) (hd0 : d0 < 4294967296) :
    (u * 4294967296 + d1) / v * 4294967296 + ((u * 4294967296 + d1) % v * 4294967296 + d0) / v = ((u * 4294967296 + d1) * 4294967296 + d0) / v
    ∧ ((u * 4294967296 + d1) % v * 4294967296 + d0) % v = ((u * 4294967296 + d1) * 4294967296 + d0) % v := by
  have e : (u * 4294967296 + d1) * 4294967296 + d0 = (u * 4294967296 + d1) % v * 4294967296 + d0 + v * ((u * 4294967296 + d1) / v * 4294967296) := by
    have h := Nat.div_add_mod (u * 4294967296 + d1) v
    generalize (u * 4294967296 + d1) / v = a at *
    generalize (u * 4294967296 + d1) % v = b at *
    rw [← h, ← Nat.mul_assoc]; omega
  constructor
  · rw [e, Nat.add_mul_div_left _ _ hv, Nat.add_comm]
  · rw [e, Nat.add_mul_mod_self_left]

/-- shifted dividend and divisor -/
theorem shifted (hi lo y s : Nat) (hs : s < 64) (hlo : lo < 18446744073709551616) :
    (hi * 2 ^ s + lo / 2 ^ (64 - s)) * 18446744073709551616 + lo * 2 ^ s % 18446744073709551616 = (hi * 18446744073709551616 + lo) * 2 ^ s := by
  have h2 : (18446744073709551616 : Nat) = 2 ^ (64 - s) * 2 ^ s := by
    rw [← Nat.pow_add, Nat.sub_add_cancel (Nat.le_of_lt hs)]
  have h3 : lo * 2 ^ s / 18446744073709551616 = lo / 2 ^ (64 - s) := by
    rw [h2]; exact Nat.mul_div_mul_right _ _ (Nat.two_pow_pos s)
  have h4 := Nat.div_add_mod (lo * 2 ^ s) 18446744073709551616
  rw [h3] at h4
  rw [Nat.add_mul, Nat.add_mul, Nat.mul_right_comm hi]
  omega

theorem unshift (n y s : Nat) : n * 2 ^ s / (y * 2 ^ s) = n / y ∧ n * 2 ^ s % (y * 2 ^ s) / 2 ^ s = n % y := by
  constructor
  · exact Nat.mul_div_mul_right _ _ (Nat.two_pow_pos s)
  · rw [Nat.mul_mod_mul_right]; exact Nat.mul_div_cancel _ (Nat.two_pow_pos s)

end Go.Proofs.YteipbcpnnojclaaDoor.DivMath
