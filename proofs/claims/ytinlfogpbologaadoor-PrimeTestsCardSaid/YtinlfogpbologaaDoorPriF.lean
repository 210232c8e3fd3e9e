/- Factors by division, and the last one: plain. -/
import Derived.Test.YtinlfogpbologaaDoorPriM
namespace Go.Proofs.YtinlfogpbologaaDoor
namespace Pri
/-- p divided out of n: as often as it is listed; and what is left -/
def pull (p n : Nat) : List Nat × Nat := if h : 2 ≤ p ∧ 0 < n ∧ n % p = 0 then
    have _hd : n / p < n := Nat.div_lt_self h.2.1 h.1
    (p :: (pull p (n / p)).1, (pull p (n / p)).2) else ([], n)
termination_by n
/-- all numbers from p on divided out of n, as long as their square is not greater -/
def facs (p n : Nat) : List Nat × Nat := if p ≤ 1048576 ∧ p * p ≤ n then ((pull p n).1 ++ (facs (p + 1) (pull p n).2).1, (facs (p + 1) (pull p n).2).2) else ([], n)
termination_by 1048577 - p
decreasing_by all_goals omega
/-- the factors of a number, if what is left is 1 or passes the test -/
def facN (n : Nat) : Option (List Nat) := if (facs 2 n).2 = 1 then some (facs 2 n).1 else if isP (facs 2 n).2 = true then some ((facs 2 n).1 ++ [(facs 2 n).2]) else none
theorem pull_yes {p n : Nat} (h2 : 2 ≤ p) (h0 : 0 < n) (h : n % p = 0) : pull p n = (p :: (pull p (n / p)).1, (pull p (n / p)).2) := by
  conv => lhs; rw [pull]
  rw [dif_pos ⟨h2, h0, h⟩]
theorem pull_no {p n : Nat} (h : n % p ≠ 0) : pull p n = ([], n) := by
  rw [pull, dif_neg (fun c => h c.2.2)]
theorem facs_in {p n : Nat} (h1 : p ≤ 1048576) (h2 : p * p ≤ n) : facs p n = ((pull p n).1 ++ (facs (p + 1) (pull p n).2).1, (facs (p + 1) (pull p n).2).2) := by
  conv => lhs; rw [facs]
  rw [if_pos ⟨h1, h2⟩]
theorem facs_out {p n : Nat} (h : ¬ (p ≤ 1048576 ∧ p * p ≤ n)) : facs p n = ([], n) := by
  rw [facs, if_neg h]
theorem pull_all (p n : Nat) (hn : 0 < n) : 0 < (pull p n).2 ∧ (pull p n).2 ∣ n ∧ (∀ f ∈ (pull p n).1, 2 ≤ f ∧ f ∣ n) ∧ 2 ^ (pull p n).1.length * (pull p n).2 ≤ n := by
  induction n using Nat.strongRecOn with
  | ind n ih =>
    by_cases h : 2 ≤ p ∧ 0 < n ∧ n % p = 0
    · have hd : p ∣ n := Nat.dvd_of_mod_eq_zero h.2.2
      have hlt := Nat.div_lt_self h.2.1 h.1
      have hpos : 0 < n / p := Nat.div_pos (Nat.le_of_dvd h.2.1 hd) (by omega)
      obtain ⟨a, b, c, d⟩ := ih _ hlt hpos
      have hq : n / p ∣ n := Nat.div_dvd_of_dvd hd
      rw [pull_yes h.1 h.2.1 h.2.2]
      refine ⟨a, Nat.dvd_trans b hq, ?_, ?_⟩
      · intro f hf
        rcases List.mem_cons.1 hf with rfl | hf
        · exact ⟨h.1, hd⟩
        · exact ⟨(c f hf).1, Nat.dvd_trans (c f hf).2 hq⟩
      · simp only [List.length_cons, Nat.pow_succ]
        have e : n = n / p * p := (Nat.div_mul_cancel hd).symm
        have h3 : n / p * 2 ≤ n / p * p := Nat.mul_le_mul_left _ h.1
        generalize 2 ^ (pull p (n / p)).1.length = t at *
        generalize (pull p (n / p)).2 = u at *
        rw [show t * 2 * u = t * u * 2 by rw [Nat.mul_assoc, Nat.mul_assoc, Nat.mul_comm 2 u]]
        omega
    · have e : pull p n = ([], n) := by rw [pull, dif_neg h]
      rw [e]
      exact ⟨hn, Nat.dvd_refl _, by simp, by simp⟩
theorem pull_odd {p n : Nat} (hn : 0 < n) (ho : n % 2 = 1) : (pull p n).2 % 2 = 1 := by
  obtain ⟨k, hk⟩ := (pull_all p n hn).2.1
  rcases Nat.mod_two_eq_zero_or_one (pull p n).2 with h | h
  · exfalso
    rw [hk, Nat.mul_mod, h] at ho
    simp at ho
  · exact h
theorem facs_skip {p n : Nat} (ho : n % 2 = 1) (hp : p % 2 = 1) : facs (p + 1) n = facs (p + 2) n := by
  by_cases h : p + 1 ≤ 1048576 ∧ (p + 1) * (p + 1) ≤ n
  · have hno : n % (p + 1) ≠ 0 := by
      intro hc
      obtain ⟨k, hk⟩ := Nat.dvd_of_mod_eq_zero hc
      have : (p + 1) % 2 = 0 := by omega
      rw [hk, Nat.mul_mod, this] at ho
      simp at ho
    rw [facs_in h.1 h.2, pull_no hno]
    rfl
  · rw [facs_out h, facs_out]
    intro hc
    apply h
    have h4 : (p + 1) * (p + 1) ≤ (p + 2) * (p + 2) := Nat.mul_le_mul (by omega) (by omega)
    exact ⟨by omega, Nat.le_trans h4 hc.2⟩
theorem facs_all (k : Nat) : ∀ p n : Nat, 1048577 - p = k → 0 < n → 0 < (facs p n).2 ∧ (facs p n).2 ∣ n ∧ (∀ f ∈ (facs p n).1, 2 ≤ f ∧ f ∣ n) ∧ 2 ^ (facs p n).1.length * (facs p n).2 ≤ n := by
  induction k with
  | zero =>
    intro p n hk hn
    rw [facs_out (by omega)]
    exact ⟨hn, Nat.dvd_refl _, by simp, by simp⟩
  | succ k ih =>
    intro p n hk hn
    by_cases h : p ≤ 1048576 ∧ p * p ≤ n
    · obtain ⟨a, b, c, d⟩ := pull_all p n hn
      obtain ⟨a', b', c', d'⟩ := ih (p + 1) _ (by omega) a
      rw [facs_in h.1 h.2]
      refine ⟨a', Nat.dvd_trans b' b, ?_, ?_⟩
      · intro f hf
        rcases List.mem_append.1 hf with hf | hf
        · exact c f hf
        · exact ⟨(c' f hf).1, Nat.dvd_trans (c' f hf).2 b⟩
      · simp only [List.length_append, Nat.pow_add]
        generalize (pull p n).2 = m at *
        generalize 2 ^ (pull p n).1.length = t at *
        rw [Nat.mul_assoc]
        exact Nat.le_trans (Nat.mul_le_mul_left t d') d
    · rw [facs_out h]
      exact ⟨hn, Nat.dvd_refl _, by simp, by simp⟩
theorem facs_len {n : Nat} (hn : 0 < n) (h : n < 2305843009213693952) : (facs 2 n).1.length ≤ 60 := by
  obtain ⟨a, _, _, d⟩ := facs_all _ 2 n rfl hn
  apply Classical.byContradiction
  intro hc
  have h1 : 2 ^ 61 ≤ 2 ^ (facs 2 n).1.length := Nat.pow_le_pow_right (by decide) (by omega)
  have h2 : 2 ^ (facs 2 n).1.length * 1 ≤ 2 ^ (facs 2 n).1.length * (facs 2 n).2 := Nat.mul_le_mul_left _ a
  omega
theorem facN_all {n : Nat} {l : List Nat} (hn : 0 < n) (h : n < 2305843009213693952) (hf : facN n = some l) : l.length ≤ 61 ∧ ∀ f ∈ l, 2 ≤ f ∧ f ∣ n ∧ f ≤ n := by
  obtain ⟨a, b, c, d⟩ := facs_all _ 2 n rfl hn
  have hl := facs_len hn h
  unfold facN at hf
  by_cases h1 : (facs 2 n).2 = 1
  · rw [if_pos h1] at hf
    cases hf
    exact ⟨by omega, fun f hf => ⟨(c f hf).1, (c f hf).2, Nat.le_of_dvd hn (c f hf).2⟩⟩
  · rw [if_neg h1] at hf
    by_cases h2 : isP (facs 2 n).2 = true
    · rw [if_pos h2] at hf
      cases hf
      refine ⟨by simp; omega, fun f hf => ?_⟩
      rcases List.mem_append.1 hf with hf | hf
      · exact ⟨(c f hf).1, (c f hf).2, Nat.le_of_dvd hn (c f hf).2⟩
      · rw [List.mem_singleton.1 hf]
        exact ⟨by omega, b, Nat.le_of_dvd hn b⟩
    · rw [if_neg h2] at hf
      cases hf
theorem facN_one {n : Nat} (h : (facs 2 n).2 = 1) : facN n = some (facs 2 n).1 := by unfold facN; rw [if_pos h]
theorem facN_more {n : Nat} (h : ¬ (facs 2 n).2 = 1) (hp : isP (facs 2 n).2 = true) : facN n = some ((facs 2 n).1 ++ [(facs 2 n).2]) := by unfold facN; rw [if_neg h, if_pos hp]
theorem facN_none {n : Nat} (h : ¬ (facs 2 n).2 = 1) (hp : isP (facs 2 n).2 = false) : facN n = none := by unfold facN; rw [if_neg h, hp]; rfl
/-- a loop's state: o is found, m is left, p is next -/
def Fac (N p m : Nat) (o : List Nat) : Prop := o ++ (facs p m).1 = (facs 2 N).1 ∧ (facs p m).2 = (facs 2 N).2 ∧ 0 < m ∧ m ≤ N
/-- .. p is being divided out -/
def Pul (N p m : Nat) (o : List Nat) : Prop := o ++ ((pull p m).1 ++ (facs (p + 1) (pull p m).2).1) = (facs 2 N).1 ∧ (facs (p + 1) (pull p m).2).2 = (facs 2 N).2 ∧ 0 < m ∧ m ≤ N
theorem Fac.start {N : Nat} (h : 0 < N) : Fac N 2 N [] := ⟨rfl, rfl, h, Nat.le_refl _⟩
theorem Fac.go {N p m : Nat} {o : List Nat} (h : Fac N p m o) (h1 : p ≤ 1048576) (h2 : p * p ≤ m) : Pul N p m o := by
  obtain ⟨a, b, c, d⟩ := h
  rw [facs_in h1 h2] at a b
  exact ⟨a, b, c, d⟩
theorem Pul.step {N p m : Nat} {o : List Nat} (h : Pul N p m o) (h2 : 2 ≤ p) (hm : m % p = 0) : Pul N p (m / p) (o ++ [p]) := by
  obtain ⟨a, b, c, d⟩ := h
  rw [pull_yes h2 c hm] at a b
  refine ⟨by rw [← a]; simp, b, Nat.div_pos (Nat.le_of_dvd c (Nat.dvd_of_mod_eq_zero hm)) (by omega), Nat.le_trans (Nat.div_le_self _ _) d⟩
theorem Pul.stop {N p m : Nat} {o : List Nat} (h : Pul N p m o) (hm : ¬ m % p = 0) : Fac N (p + 1) m o := by
  obtain ⟨a, b, c, d⟩ := h
  rw [pull_no hm] at a b
  exact ⟨a, b, c, d⟩
theorem Fac.skip {N p m : Nat} {o : List Nat} (h : Fac N (p + 1) m o) (ho : m % 2 = 1) (hp : p % 2 = 1) : Fac N (p + 2) m o := by
  obtain ⟨a, b, c, d⟩ := h
  rw [facs_skip ho hp] at a b
  exact ⟨a, b, c, d⟩
theorem Fac.done {N p m : Nat} {o : List Nat} (h : Fac N p m o) (hc : ¬ (p ≤ 1048576 ∧ p * p ≤ m)) : o = (facs 2 N).1 ∧ m = (facs 2 N).2 := by
  obtain ⟨a, b, _, _⟩ := h
  rw [facs_out hc] at a b
  exact ⟨by simpa using a, b⟩
theorem Fac.len {N p m : Nat} {o : List Nat} (h : Fac N p m o) (h0 : 0 < N) (hN : N < 2305843009213693952) : o.length ≤ 60 := by
  have := facs_len h0 hN
  rw [← h.1] at this
  simp at this; omega
theorem Pul.len {N p m : Nat} {o : List Nat} (h : Pul N p m o) (h0 : 0 < N) (hN : N < 2305843009213693952) : o.length ≤ 60 := by
  have := facs_len h0 hN
  rw [← h.1] at this
  simp at this; omega
theorem div_odd {m p : Nat} (h : m % p = 0) (ho : m % 2 = 1) : m / p % 2 = 1 := by
  obtain ⟨k, hk⟩ := Nat.dvd_of_mod_eq_zero h
  rcases Nat.mod_two_eq_zero_or_one (m / p) with h2 | h2
  · exfalso
    have e : m / p * p = m := Nat.div_mul_cancel ⟨k, hk⟩
    rw [← e, Nat.mul_mod, h2] at ho
    simp at ho
  · exact h2
end Pri
end Go.Proofs.YtinlfogpbologaaDoor
