/- Plain numbers: products by columns. No program in sight. -/
import Derived.Test.YthphmgdmhlimjaaNatMath
namespace Go.Proofs.Ythphmgdmhlimjaa.NatMath
set_option linter.unusedVariables false

theorem val_set : ∀ (l : List Nat) (j u : Nat), j < l.length → val (l.set j u) + l.getD j 0 * Bp j = val l + u * Bp j
  | [], _, _, h => by simp at h
  | x :: l, 0, u, _ => by simp only [List.set_cons_zero, val, List.getD_cons_zero, Bp_zero]; omega
  | x :: l, j + 1, u, h => by
    have ih := val_set l j u (by simpa using h)
    simp only [List.set_cons_succ, val, List.getD_cons_succ, Bp_succ]
    have e1 : l.getD j 0 * (Bp j * 4294967296) = 4294967296 * (l.getD j 0 * Bp j) := by rw [← Nat.mul_assoc, Nat.mul_comm]
    have e2 : u * (Bp j * 4294967296) = 4294967296 * (u * Bp j) := by rw [← Nat.mul_assoc, Nat.mul_comm]
    rw [e1, e2]; omega
theorem words_set {l : List Nat} {j u : Nat} (h : words l) (hu : u < 4294967296) : words (l.set j u) := by
  intro x hx
  rcases List.mem_or_eq_of_mem_set hx with h1 | h1
  · exact h x h1
  · rw [h1]; exact hu
theorem getD_set_ne {l : List Nat} {i j u : Nat} (h : i ≠ j) : (l.set i u).getD j 0 = l.getD j 0 := by
  simp [List.getD_eq_getElem?_getD, h]
theorem getD_set_eq {l : List Nat} {i u : Nat} (h : i < l.length) : (l.set i u).getD i 0 = u := by
  simp [List.getD_eq_getElem?_getD, h]
theorem words_zeros (n : Nat) : words (List.replicate n 0) := by
  intro u hu; rw [List.eq_of_mem_replicate hu]; omega
theorem val_zeros : ∀ n : Nat, val (List.replicate n 0) = 0
  | 0 => rfl
  | n + 1 => by simp [List.replicate_succ, val, val_zeros n]
theorem getD_lt {l : List Nat} (h : words l) (i : Nat) : l.getD i 0 < 4294967296 := by rw [dig_val h]; exact dig_lt _ _

/-- i rows of the product of N and M are done -/
def MulO (N M i : Nat) (l : List Nat) : Prop := l.length = len N + len M ∧ words l ∧ (∀ j, i + len M ≤ j → l.getD j 0 = 0) ∧ val l = N % Bp i * M
/-- and of one row k columns, c being the carry -/
def MulI (N M i k c : Nat) (l : List Nat) : Prop := l.length = len N + len M ∧ words l ∧ c < 4294967296 ∧ (∀ j, i + len M ≤ j → l.getD j 0 = 0) ∧ val l + c * Bp (i + k) = N % Bp i * M + dig N i * (M % Bp k) * Bp i

theorem MulO.zero (N M : Nat) : MulO N M 0 (List.replicate (len N + len M) 0) := by
  refine ⟨by simp, words_zeros _, fun j _ => by simp [List.getD_eq_getElem?_getD, List.getElem?_replicate]; split <;> rfl, ?_⟩
  rw [val_zeros, Bp_zero, Nat.mod_one, Nat.zero_mul]
theorem MulO.row {N M i : Nat} {l : List Nat} (h : MulO N M i l) : MulI N M i 0 0 l := by
  obtain ⟨h1, h2, h3, h4⟩ := h
  refine ⟨h1, h2, by omega, h3, ?_⟩
  rw [h4, Bp_zero, Nat.mod_one]; omega
theorem MulI.step {N M i k c : Nat} {l : List Nat} (h : MulI N M i k c l) (hk : k < len M) (hi : i < len N) {t : Nat} (ht : t = dig N i * dig M k + l.getD (i + k) 0 + c) :
    t < 18446744073709551616 ∧ MulI N M i (k + 1) (t / 4294967296) (l.set (i + k) (t % 4294967296)) := by
  obtain ⟨h1, h2, h3, h4, h5⟩ := h
  have hx := dig_lt N i
  have hy := dig_lt M k
  have ho := getD_lt h2 (i + k)
  have hxy := Nat.mul_le_mul (show dig N i ≤ 4294967295 by omega) (show dig M k ≤ 4294967295 by omega)
  have hs := val_set l (i + k) (t % 4294967296) (by omega)
  have e0 := Nat.div_add_mod t 4294967296
  refine ⟨by omega, by simpa using h1, words_set h2 (by omega), by omega, fun j hj => ?_, ?_⟩
  · rw [getD_set_ne (by omega)]; exact h4 j hj
  · rw [mod_step, ← Nat.add_assoc, Bp_succ]
    rw [Bp_add] at *
    generalize val (l.set (i + k) (t % 4294967296)) = V' at *
    generalize val l = V at *
    generalize l.getD (i + k) 0 = o at *
    generalize t / 4294967296 = q at *
    generalize t % 4294967296 = r at *
    generalize dig N i = x at *
    generalize dig M k = y at *
    generalize M % Bp k = z at *
    generalize N % Bp i * M = A at *
    generalize Bp i = Q at *
    generalize Bp k = R at *
    clear hx hy ho hxy h1 h2 h3 h4
    have e1 : (4294967296 * q + r) * (Q * R) = (x * y + o + c) * (Q * R) := by rw [e0, ht]
    grind
theorem MulI.done {N M i c : Nat} {l : List Nat} (h : MulI N M i (len M) c l) (hi : i < len N) : MulO N M (i + 1) (l.set (i + len M) c) := by
  obtain ⟨h1, h2, h3, h4, h5⟩ := h
  have hs := val_set l (i + len M) c (by omega)
  rw [h4 _ (Nat.le_refl _), Nat.zero_mul, Nat.add_zero, h5, Nat.mod_eq_of_lt (lt_Bp_len M)] at hs
  refine ⟨by simpa using h1, words_set h2 h3, fun j hj => ?_, ?_⟩
  · rw [getD_set_ne (by omega)]; exact h4 j (by omega)
  · rw [hs, mod_step]
    generalize N % Bp i = a
    generalize Bp i = P
    generalize dig N i = x
    grind
theorem MulO.done {N M : Nat} {l : List Nat} (h : MulO N M (len N) l) : l.length = len N + len M ∧ words l ∧ val l = N * M := by
  obtain ⟨h1, h2, h3, h4⟩ := h
  exact ⟨h1, h2, by rw [h4, Nat.mod_eq_of_lt (lt_Bp_len N)]⟩

/-! ### a list that is filled from the highest word down; division by one word -/

def fillD (f : Nat → Nat) (k n : Nat) : List Nat := (List.range n).map fun i => if k ≤ i then f i else 0
theorem fillD_length (f : Nat → Nat) (k n : Nat) : (fillD f k n).length = n := by simp [fillD]
theorem fillD_none (f : Nat → Nat) (n : Nat) : fillD f n n = List.replicate n 0 := by
  apply List.ext_getElem
  · simp [fillD]
  · intro i h1 h2
    have : ¬ n ≤ i := by simp at h2; omega
    simp [fillD, this]
theorem fillD_all (f : Nat → Nat) (n : Nat) : fillD f 0 n = fill f n n := by
  apply List.ext_getElem
  · simp [fillD, fill]
  · intro i h1 h2
    simp only [fillD, List.length_map, List.length_range] at h1
    simp [fillD, fill, h1]
theorem fillD_set (f : Nat → Nat) {k n : Nat} (h : k < n) : (fillD f (k + 1) n).set k (f k) = fillD f k n := by
  apply List.ext_getElem
  · simp [fillD]
  · intro i h1 h2
    simp only [fillD, List.getElem_set, List.getElem_map, List.getElem_range]
    by_cases e : k = i
    · subst e; simp
    · rw [if_neg e]
      by_cases h3 : k ≤ i
      · rw [if_pos (by omega), if_pos h3]
      · rw [if_neg (by omega), if_neg h3]

/-- the remainder of the upper words -/
def drem (N d k : Nat) : Nat := N / Bp k % d
theorem drem_zero (N d : Nat) : drem N d 0 = N % d := by unfold drem; rw [Bp_zero, Nat.div_one]
theorem drem_top (N d : Nat) : drem N d (len N) = 0 := by unfold drem; rw [Nat.div_eq_of_lt (lt_Bp_len N), Nat.zero_mod]
theorem drem_lt (N : Nat) {d : Nat} (h : 0 < d) (k : Nat) : drem N d k < d := Nat.mod_lt _ h
theorem drem_step (N : Nat) {d : Nat} (h : 0 < d) (k : Nat) : (drem N d (k + 1) * 4294967296 + dig N k) % d = drem N d k ∧ (drem N d (k + 1) * 4294967296 + dig N k) / d = dig (N / d) k := by
  unfold drem
  have hr := Nat.mod_lt (N / Bp (k + 1)) h
  have e : N / Bp k = d * (N / Bp (k + 1) / d * 4294967296) + (N / Bp (k + 1) % d * 4294967296 + dig N k) := by
    have e1 := div_step N k
    have e2 := Nat.div_add_mod (N / Bp (k + 1)) d
    conv at e1 => rhs; rw [← e2]
    rw [e1, Nat.add_mul, Nat.mul_assoc]; omega
  have hlt : (N / Bp (k + 1) % d * 4294967296 + dig N k) / d < 4294967296 := by
    rw [Nat.div_lt_iff_lt_mul h]
    have h1 := dig_lt N k
    have h2 := Nat.mul_le_mul_right 4294967296 (show N / Bp (k + 1) % d + 1 ≤ d from hr)
    rw [Nat.mul_comm 4294967296 d]
    omega
  refine ⟨?_, ?_⟩
  · rw [e, Nat.mul_add_mod]
  · have e3 : dig (N / d) k = N / Bp k / d % 4294967296 := by
      unfold dig
      rw [Nat.div_div_eq_div_mul, Nat.div_div_eq_div_mul, Nat.mul_comm]
    rw [e3, e, Nat.mul_add_div h]
    generalize (N / Bp (k + 1) % d * 4294967296 + dig N k) / d = y at *
    generalize N / Bp (k + 1) / d = z
    clear e hr e3
    omega
end Go.Proofs.Ythphmgdmhlimjaa.NatMath
