/- Plain numbers for the reference of natmod: sums, products, quotients, bit by bit. No program in sight. -/
import Derived.Test.YthphmgdmhlimjaaModMath
namespace Go.Proofs.Ythphmgdmhlimjaa.NatMath
set_option linter.unusedVariables false

def b1 (t : Bool) : Nat := if t then 1 else 0
theorem half_bit (M j : Nat) : M / 2 ^ j = 2 * (M / 2 ^ (j + 1)) + b1 (bt M j) := by
  have e1 : M / 2 ^ (j + 1) = M / 2 ^ j / 2 := by rw [Nat.pow_succ, Nat.div_div_eq_div_mul]
  unfold bt b1
  rw [e1]
  generalize M / 2 ^ j = h
  by_cases hh : h % 2 = 1
  · rw [if_pos (by simpa using hh)]; omega
  · rw [if_neg (by simpa using hh)]; omega
/-- the value behind the bits from k on -/
def BitI (V : Nat → Nat) (n k P g : Nat) : Prop := g = k ∧ k ≤ n ∧ P = V k
theorem BitI.start {V : Nat → Nat} {n P : Nat} (h : V n = P) : BitI V n n P n := ⟨rfl, Nat.le_refl _, h.symm⟩
theorem top_zero (M : Nat) : M / 2 ^ bl M = 0 := Nat.div_eq_of_lt (lt_two_bl M)
theorem mulV_step (N M K j : Nat) (t : Bool) (ht : bt M j = t) : N * (M / 2 ^ j) % K = (if t then ((N * (M / 2 ^ (j + 1)) % K + N * (M / 2 ^ (j + 1)) % K) % K + N) % K else (N * (M / 2 ^ (j + 1)) % K + N * (M / 2 ^ (j + 1)) % K) % K) := by
  rw [half_bit M j, ht]
  generalize M / 2 ^ (j + 1) = h
  cases t
  · simp only [b1, Bool.false_eq_true, if_false, Nat.add_zero]
    rw [← Nat.add_mod]; congr 1; grind
  · simp only [b1, if_true]
    rw [← Nat.add_mod, Nat.mod_add_mod]; congr 1; grind
theorem modV_step (N K j : Nat) (t : Bool) (ht : bt N j = t) : N / 2 ^ j % K = (if t then ((N / 2 ^ (j + 1) % K + N / 2 ^ (j + 1) % K) % K + 1) % K else (N / 2 ^ (j + 1) % K + N / 2 ^ (j + 1) % K) % K) := by
  have := mulV_step 1 N K j t ht
  rw [Nat.one_mul, Nat.one_mul] at this
  exact this
theorem timesV_step (N M j : Nat) (t : Bool) (ht : bt M j = t) : N * (M / 2 ^ j) = (if t then N * (M / 2 ^ (j + 1)) + N * (M / 2 ^ (j + 1)) + N else N * (M / 2 ^ (j + 1)) + N * (M / 2 ^ (j + 1))) := by
  rw [half_bit M j, ht]
  generalize M / 2 ^ (j + 1) = h
  cases t
  · simp only [b1, Bool.false_eq_true, if_false, Nat.add_zero]; grind
  · simp only [b1, if_true]; grind
/-- quotient and remainder of the bits from k on -/
def OvI (N M n k Q R g : Nat) : Prop := g = k ∧ k ≤ n ∧ Q = N / 2 ^ k / M ∧ R = N / 2 ^ k % M
theorem OvI.start (N M : Nat) : OvI N M (bl N) (bl N) 0 0 (bl N) := ⟨rfl, Nat.le_refl _, by rw [top_zero, Nat.zero_div], by rw [top_zero, Nat.zero_mod]⟩
theorem over_step {N M n j Q R g : Nat} (h : OvI N M n (j + 1) Q R g) (hM : M ≠ 0) (t : Bool) (ht : bt N j = t) :
    (M ≤ R + R + b1 t → OvI N M n j (Q + Q + 1) (R + R + b1 t - M) j) ∧ (¬ M ≤ R + R + b1 t → OvI N M n j (Q + Q) (R + R + b1 t) j) := by
  obtain ⟨_, h2, h3, h4⟩ := h
  have e := half_bit N j
  rw [ht] at e
  have hd := Nat.div_add_mod (N / 2 ^ (j + 1)) M
  have hr := Nat.mod_lt (N / 2 ^ (j + 1)) (Nat.pos_of_ne_zero hM)
  rw [← h3, ← h4] at hd
  rw [← h4] at hr
  have hb : b1 t ≤ 1 := by cases t <;> simp [b1]
  generalize N / 2 ^ (j + 1) = X at *
  have hX : N / 2 ^ j = M * (Q + Q) + (R + R + b1 t) := by rw [e, ← hd]; grind
  have hX2 : N / 2 ^ j = (R + R + b1 t) + M * (Q + Q) := by rw [hX]; exact Nat.add_comm _ _
  refine ⟨fun hle => ⟨rfl, by omega, ?_, ?_⟩, fun hle => ⟨rfl, by omega, ?_, ?_⟩⟩
  · rw [hX, show M * (Q + Q) + (R + R + b1 t) = (R + R + b1 t - M) + M * (Q + Q + 1) from by rw [Nat.mul_succ]; omega, Nat.add_mul_div_left _ _ (Nat.pos_of_ne_zero hM), Nat.div_eq_of_lt (by omega)]; omega
  · rw [hX, show M * (Q + Q) + (R + R + b1 t) = (R + R + b1 t - M) + M * (Q + Q + 1) from by rw [Nat.mul_succ]; omega, Nat.add_mul_mod_self_left, Nat.mod_eq_of_lt (by omega)]
  · rw [hX2, Nat.add_mul_div_left _ _ (Nat.pos_of_ne_zero hM), Nat.div_eq_of_lt (by omega)]; omega
  · rw [hX2, Nat.add_mul_mod_self_left, Nat.mod_eq_of_lt (by omega)]
theorem add_mod_lt {a b m : Nat} (ha : a < m) (hb : b < m) : (a + b) % m = if a + b < m then a + b else a + b - m := by
  split
  · exact Nat.mod_eq_of_lt (by assumption)
  · rw [Nat.mod_eq_sub_mod (by omega), Nat.mod_eq_of_lt (by omega)]
end Go.Proofs.Ythphmgdmhlimjaa.NatMath
