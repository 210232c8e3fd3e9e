/- Polynomials modulo a prime: a quotient times the divisor, and the rest, are the dividend; the rest is shorter. Plain. -/
import Derived.Test.YteipbcpnnojclaaDoorPolDe
namespace Go.Proofs.YteipbcpnnojclaaDoor
open Go.RowKit DivMath WordMath
open QuadMath (Prime)
set_option linter.unusedVariables false
/-- the coefficient t of a product, over the first n coefficients of b -/
def cv (b x : List Nat) (t : Nat) : Nat → Nat
  | 0 => 0
  | n + 1 => cv b x t n + (if n ≤ t then b.getD n 0 * x.getD (t - n) 0 else 0)
theorem cv_congr {b x x' : List Nat} (h : ∀ t, x.getD t 0 = x'.getD t 0) (t : Nat) : ∀ n, cv b x t n = cv b x' t n
  | 0 => rfl
  | n + 1 => by rw [cv, cv, cv_congr h t n, h]
theorem cv_zero {b x : List Nat} (h : ∀ t, x.getD t 0 = 0) (t : Nat) : ∀ n, cv b x t n = 0
  | 0 => rfl
  | n + 1 => by rw [cv, cv_zero h t n, h, Nat.mul_zero]; split <;> rfl
theorem cv_set {b o : List Nat} {m c : Nat} (hm : m < o.length) (h0 : o.getD m 0 = 0) (t : Nat) : ∀ n, cv b (o.set m c) t n = cv b o t n + (if m ≤ t ∧ t - m < n then b.getD (t - m) 0 * c else 0)
  | 0 => by rw [if_neg (by omega)]; rfl
  | n + 1 => by
    rw [cv, cv, cv_set hm h0 t n]
    by_cases h1 : n ≤ t
    · rw [if_pos h1, if_pos h1]
      by_cases h2 : t - n = m
      · rw [h2, getD_set_eq hm, h0, Nat.mul_zero, if_neg (by omega), if_pos (by omega), show t - m = n by omega]
      · rw [getD_set_ne (fun e => h2 e.symm)]
        by_cases h3 : m ≤ t ∧ t - m < n
        · rw [if_pos h3, if_pos (by omega)]; omega
        · rw [if_neg h3, if_neg (by omega)]; omega
    · rw [if_neg h1, if_neg h1]
      by_cases h3 : m ≤ t ∧ t - m < n
      · rw [if_pos h3, if_pos (by omega)]; omega
      · rw [if_neg h3, if_neg (by omega)]
theorem mulRow_getD {q : Nat} {a b : List Nat} {i : Nat} {o : List Nat} (t : Nat) : ∀ k, i + k ≤ o.length → (mulRow q a b i k o).getD t 0 % q = (o.getD t 0 + (if i ≤ t ∧ t < i + k then a.getD i 0 * b.getD (t - i) 0 else 0)) % q
  | 0, _ => by rw [if_neg (by omega)]; rfl
  | k + 1, h => by
    have ih := mulRow_getD t k (show i + k ≤ o.length by omega) (q := q) (a := a) (b := b)
    unfold mulRow
    by_cases e : t = i + k
    · rw [e, getD_set_eq (by rw [mulRow_len]; omega), if_pos (by omega), show i + k - i = k by omega]
      rw [e, if_neg (by omega), Nat.add_zero] at ih
      rw [Nat.mod_mod, Nat.add_mod, ih, Nat.mod_mod, ← Nat.add_mod]
    · rw [getD_set_ne (fun e2 => e e2.symm), ih]
      by_cases h3 : i ≤ t ∧ t < i + k
      · rw [if_pos h3, if_pos (by omega)]
      · rw [if_neg h3, if_neg (by omega)]
theorem mulTo_getD {q : Nat} {a b : List Nat} (hb : 0 < b.length) (t : Nat) : ∀ i, i ≤ a.length → (mulTo q a b i).getD t 0 % q = cv a b t i % q
  | 0, _ => by
    have : (mulTo q a b 0).getD t 0 = 0 := by
      unfold mulTo
      rw [List.getD_eq_getElem?_getD, List.getElem?_replicate]; split <;> rfl
    rw [this]; rfl
  | i + 1, h => by
    unfold mulTo
    rw [mulRow_getD t b.length (by rw [mulTo_len]; omega), Nat.add_mod, mulTo_getD hb t i (by omega), ← Nat.add_mod, cv]
    congr 2
    by_cases h1 : i ≤ t
    · rw [if_pos h1]
      by_cases h2 : t < i + b.length
      · rw [if_pos ⟨h1, h2⟩]
      · rw [if_neg (by omega), getD_out (show b.length ≤ t - i by omega), Nat.mul_zero]
    · rw [if_neg h1, if_neg (by omega)]
theorem mulL_getD {q : Nat} {a b : List Nat} (t : Nat) : (mulL q a b).getD t 0 % q = cv a b t a.length % q := by
  unfold mulL
  split
  · rename_i h
    rcases h with h | h
    · rw [h]; rfl
    · rw [cv_zero (fun t => by rw [List.length_eq_zero_iff.1 h]; rfl)]; rfl
  · exact mulTo_getD (by omega) t a.length (Nat.le_refl _)
theorem subL_getD {q : Nat} (hq : 0 < q) {b : List Nat} {c i : Nat} {r : List Nat} (t : Nat) : ∀ k, i + k ≤ r.length → ((subL q b c i k r).getD t 0 + (if i ≤ t ∧ t < i + k then b.getD (t - i) 0 * c else 0)) % q = r.getD t 0 % q
  | 0, _ => by rw [if_neg (by omega)]; rfl
  | k + 1, h => by
    have ih := subL_getD hq t k (show i + k ≤ r.length by omega) (b := b) (c := c)
    unfold subL
    by_cases e : t = i + k
    · rw [e, getD_set_eq (by rw [subL_len]; omega), if_pos (by omega), show i + k - i = k by omega]
      rw [e, if_neg (by omega), Nat.add_zero] at ih
      have h2 := Nat.mod_lt (c * b.getD k 0) hq
      have h3 := Nat.mod_add_div (c * b.getD k 0) q
      rw [Nat.mod_add_mod, Nat.mul_comm (b.getD k 0) c]
      rw [show (subL q b c i k r).getD (i + k) 0 + (q - c * b.getD k 0 % q) + c * b.getD k 0 = (subL q b c i k r).getD (i + k) 0 + q * (1 + c * b.getD k 0 / q) by rw [Nat.mul_add]; omega, Nat.add_mul_mod_self_left, ih]
    · rw [getD_set_ne (fun e2 => e e2.symm), ← ih]
      by_cases h3 : i ≤ t ∧ t < i + k
      · rw [if_pos h3, if_pos (by omega)]
      · rw [if_neg h3, if_neg (by omega)]
theorem divL_inv {q : Nat} (hq : 0 < q) {b : List Nat} (lead t : Nat) : ∀ m r o, (∀ s, s < m → o.getD s 0 = 0) → m ≤ o.length → m + b.length ≤ r.length + 1 → (cv b (divL q b lead m r o).2 t b.length + (divL q b lead m r o).1.getD t 0) % q = (cv b o t b.length + r.getD t 0) % q
  | 0, _, _, _, _, _ => rfl
  | m + 1, r, o, h0, h1, h2 => by
    rw [divL]
    rw [divL_inv hq lead t m _ _ (fun s hs => by rw [getD_set_ne (by omega)]; exact h0 s (by omega)) (by simp; omega) (by rw [subL_len]; omega)]
    rw [cv_set (by omega) (h0 m (by omega))]
    generalize r.getD (m + b.length - 1) 0 * lead % q = c
    have hs := subL_getD hq t b.length (show m + b.length ≤ r.length by omega) (b := b) (c := c)
    have e : (if m ≤ t ∧ t - m < b.length then b.getD (t - m) 0 * c else 0) = (if m ≤ t ∧ t < m + b.length then b.getD (t - m) 0 * c else 0) := by
      by_cases h : m ≤ t ∧ t - m < b.length
      · rw [if_pos h, if_pos (by omega)]
      · rw [if_neg h, if_neg (by omega)]
    rw [e, Nat.add_assoc, Nat.add_comm (if m ≤ t ∧ t < m + b.length then b.getD (t - m) 0 * c else 0), Nat.add_mod, hs, ← Nat.add_mod]
theorem divL_high {q : Nat} (hq : 1 < q) {b : List Nat} (hb : 0 < b.length) {lead : Nat} (hl : b.getD (b.length - 1) 0 * lead % q = 1 % q) : ∀ m r o, (∀ x ∈ r, x < q) → m + b.length ≤ r.length + 1 → (∀ t, m + b.length - 1 ≤ t → r.getD t 0 = 0) → ∀ t, b.length - 1 ≤ t → (divL q b lead m r o).1.getD t 0 = 0
  | 0, r, _, _, _, h, t, ht => h t (by omega)
  | m + 1, r, o, hr, h1, h, t, ht => by
    rw [divL]
    refine divL_high hq hb hl m _ _ (subL_lt (by omega) b _ m _ r hr) (by rw [subL_len]; omega) (fun s hs => ?_) t ht
    by_cases e : s = m + b.length - 1
    · rw [e]; exact subL_top hq hb hr (by omega) hl
    · rw [subL_high _ _ _ _ _ _ _ (by omega)]; exact h s (by omega)
theorem trimN_getD (l : List Nat) (t : Nat) : (trimN l).getD t 0 = l.getD t 0 := by
  conv => rhs; rw [trimN_pad l]
  rw [getD_pad]
theorem trimN_le {l : List Nat} {s : Nat} (h : ∀ t, s ≤ t → l.getD t 0 = 0) : (trimN l).length ≤ s := by
  apply Classical.byContradiction
  intro h2
  have h3 := trim_last (l := l) (by omega)
  apply h3
  have := trimN_getD l ((trimN l).length - 1)
  rw [getD_elem (by omega)] at this
  rw [this]; exact h _ (by omega)
theorem addL_getD {q : Nat} (a b : List Nat) (t : Nat) : (addL q a b).getD t 0 = (a.getD t 0 + b.getD t 0) % q := by
  rcases Nat.lt_or_ge t (max a.length b.length) with h | h
  · rw [getD_elem (by rw [addL_len]; exact h)]
    simp only [addL, List.getElem_map, List.getElem_range]
  · rw [getD_out (by rw [addL_len]; exact h), getD_out (by omega), getD_out (by omega), Nat.zero_add, Nat.zero_mod]
/-- the dividend comes back -/
theorem div_back {q : Nat} (hq : 1 < q) {a b x y : List Nat} (ha : ∀ c ∈ a, c < q) (hal : ∀ h : 0 < a.length, a[a.length - 1] ≠ 0) (hz : 0 < b.length) {lead : Nat} (hl : b.getD (b.length - 1) 0 * lead % q = 1 % q)
    (hX : trimN (divL q b lead (a.length + 1 - b.length) a (List.replicate (a.length + 1 - b.length) 0)).2 = x) (hY : trimN (divL q b lead (a.length + 1 - b.length) a (List.replicate (a.length + 1 - b.length) 0)).1 = y) :
    trimN (addL q (trimN (mulL q b x)) y) = a ∧ y.length < b.length := by
  have q0 : 0 < q := by omega
  constructor
  · refine list_uniq trim_last hal (fun t => ?_)
    rw [trimN_getD, addL_getD, trimN_getD, Nat.add_mod, mulL_getD, ← Nat.add_mod, ← hY, trimN_getD, ← hX, cv_congr (fun t => trimN_getD _ t)]
    rcases Nat.lt_or_ge a.length b.length with h | h
    · rw [show a.length + 1 - b.length = 0 by omega]
      show (cv b [] t b.length + a.getD t 0) % q = a.getD t 0
      rw [cv_zero (fun t => rfl), Nat.zero_add, Nat.mod_eq_of_lt (getD_lt q0 ha t)]
    · rw [divL_inv q0 lead t _ _ _ (fun s hs => by rw [getD_elem (by simpa using hs)]; simp) (by simp) (by omega)]
      rw [cv_zero (fun t => by rw [List.getD_eq_getElem?_getD, List.getElem?_replicate]; split <;> rfl), Nat.zero_add, Nat.mod_eq_of_lt (getD_lt q0 ha t)]
  · have : y.length ≤ b.length - 1 := by
      rw [← hY]
      refine trimN_le (fun t ht => ?_)
      rcases Nat.lt_or_ge a.length b.length with h | h
      · rw [show a.length + 1 - b.length = 0 by omega]
        show a.getD t 0 = 0
        exact getD_out (by omega)
      · exact divL_high hq hz hl _ _ _ ha (by omega) (fun s hs => getD_out (by omega)) t ht
    omega
end Go.Proofs.YteipbcpnnojclaaDoor
