/- Polynomials modulo a prime: division step by step, as the program does it and as the reference does it. Plain. -/
import Derived.Test.YteipbcpnnojclaaDoorPolQ
namespace Go.Proofs.YteipbcpnnojclaaDoor
open Go.RowKit DivMath WordMath
set_option linter.unusedVariables false
/-- c times b taken off at place i, behind k rounds -/
def subL (q : Nat) (b : List Nat) (c i : Nat) : Nat → List Nat → List Nat
  | 0, r => r
  | k + 1, r => (subL q b c i k r).set (i + k) (((subL q b c i k r).getD (i + k) 0 + (q - c * b.getD k 0 % q)) % q)
/-- the division's rounds, with m places left -/
def divL (q : Nat) (b : List Nat) (lead : Nat) : Nat → List Nat → List Nat → List Nat × List Nat
  | 0, r, o => (r, o)
  | m + 1, r, o => divL q b lead m (subL q b (r.getD (m + b.length - 1) 0 * lead % q) m b.length r) (o.set m (r.getD (m + b.length - 1) 0 * lead % q))
theorem subL_len (q : Nat) (b : List Nat) (c i : Nat) : ∀ k r, (subL q b c i k r).length = r.length
  | 0, _ => rfl
  | k + 1, r => by simp [subL, subL_len q b c i k r]
theorem subL_lt {q : Nat} (hq : 0 < q) (b : List Nat) (c i : Nat) : ∀ k r, (∀ x ∈ r, x < q) → ∀ x ∈ subL q b c i k r, x < q
  | 0, _, h => h
  | k + 1, r, h => by unfold subL; exact set_lt (subL_lt hq b c i k r h) (Nat.mod_lt _ hq)
theorem subL_step {q : Nat} {b r : List Nat} {c i k : Nat} (hk : k < b.length) (ho : i + k < (subL q b c i k r).length) {m s : Nat} (hm : m = c * b[k] % q) (hs : s = ((subL q b c i k r)[i + k] + (q - m)) % q) :
    (subL q b c i k r).set (i + k) s = subL q b c i (k + 1) r := by
  show _ = (subL q b c i k r).set (i + k) _
  rw [hs, hm, getD_elem ho, getD_elem hk]
theorem set_getD (l : List Nat) (i v : Nat) (h : i < l.length) (hv : v = l.getD i 0) : l.set i v = l := by
  rw [hv, getD_elem h]; simp
theorem subL_zero {q : Nat} (hq : 0 < q) (b : List Nat) (i : Nat) {r : List Nat} (hr : ∀ x ∈ r, x < q) : ∀ k, i + k ≤ r.length → subL q b 0 i k r = r
  | 0, _ => rfl
  | k + 1, h => by
    unfold subL
    rw [subL_zero hq b i hr k (by omega), Nat.zero_mul, Nat.zero_mod, Nat.sub_zero, Nat.add_mod_right]
    exact set_getD r _ _ (by omega) (Nat.mod_eq_of_lt (getD_lt hq hr _))
theorem getD_set_ne {l : List Nat} {i j v : Nat} (h : i ≠ j) : (l.set i v).getD j 0 = l.getD j 0 := by
  rw [List.getD_eq_getElem?_getD, List.getD_eq_getElem?_getD, List.getElem?_set_ne h]
theorem getD_set_eq {l : List Nat} {i v : Nat} (h : i < l.length) : (l.set i v).getD i 0 = v := by
  rw [List.getD_eq_getElem?_getD, List.getElem?_set_self h]; rfl
theorem subL_high (q : Nat) (b : List Nat) (c i : Nat) : ∀ k r t, i + k ≤ t → (subL q b c i k r).getD t 0 = r.getD t 0
  | 0, _, _, _ => rfl
  | k + 1, r, t, h => by
    unfold subL
    rw [getD_set_ne (by omega)]
    exact subL_high q b c i k r t (by omega)
theorem subL_app (q : Nat) (b : List Nat) (c i : Nat) (z : List Nat) : ∀ k r, i + k ≤ r.length → subL q b c i k (r ++ z) = subL q b c i k r ++ z
  | 0, _, _ => rfl
  | k + 1, r, h => by
    unfold subL
    rw [subL_app q b c i z k r (by omega)]
    have hl := subL_len q b c i k r
    rw [List.set_append_left _ _ (by omega)]
    have e : (subL q b c i k r ++ z).getD (i + k) 0 = (subL q b c i k r).getD (i + k) 0 := by
      rw [List.getD_eq_getElem?_getD, List.getD_eq_getElem?_getD, List.getElem?_append_left (by omega)]
    rw [e]
theorem subL_top {q : Nat} (hq : 1 < q) {b r : List Nat} {i lead : Nat} (hb : 0 < b.length) (hr : ∀ x ∈ r, x < q) (hi : i + b.length ≤ r.length) (hl : b.getD (b.length - 1) 0 * lead % q = 1 % q) :
    (subL q b (r.getD (i + b.length - 1) 0 * lead % q) i b.length r).getD (i + b.length - 1) 0 = 0 := by
  obtain ⟨n, hn⟩ : ∃ n, b.length = n + 1 := ⟨b.length - 1, by omega⟩
  rw [hn] at hl ⊢
  simp only [Nat.add_sub_cancel] at hl
  show ((subL q b _ i n r).set (i + n) _).getD (i + n) 0 = 0
  rw [getD_set_eq (by rw [subL_len]; omega), subL_high _ _ _ _ _ _ _ (Nat.le_refl _)]
  have e : i + (n + 1) - 1 = i + n := by omega
  rw [e]
  have hx := getD_lt (show 0 < q by omega) hr (i + n)
  generalize r.getD (i + n) 0 = x at *
  have : x * lead % q * b.getD n 0 % q = x := by
    rw [Nat.mod_mul_mod, Nat.mul_assoc, Nat.mul_comm lead, Nat.mul_mod, hl, Nat.mod_eq_of_lt hq, Nat.mul_one, Nat.mod_mod, Nat.mod_eq_of_lt hx]
  rw [this, show x + (q - x) = q by omega, Nat.mod_self]
theorem divL_skip {q : Nat} (hq : 0 < q) {b : List Nat} (hb : 0 < b.length) (lead : Nat) {r o : List Nat} (hr : ∀ x ∈ r, x < q) (k : Nat) (hz : ∀ t, k + b.length - 1 ≤ t → r.getD t 0 = 0) :
    ∀ m, k ≤ m → m + b.length ≤ r.length + 1 → m ≤ o.length → (∀ t, t < m → o.getD t 0 = 0) → divL q b lead m r o = divL q b lead k r o
  | 0, h, _, _, _ => by obtain rfl : k = 0 := by omega
                        rfl
  | m + 1, h, h2, h3, ho => by
    by_cases e : k = m + 1
    · rw [e]
    · rw [divL, hz _ (by omega), Nat.zero_mul, Nat.zero_mod, subL_zero hq b m hr _ (by omega), set_getD o m 0 (by omega) (ho m (by omega)).symm]
      exact divL_skip hq hb lead hr k hz m (by omega) (by omega) (by omega) (fun t ht => ho t (by omega))
theorem divL_len (q : Nat) (b : List Nat) (lead : Nat) : ∀ m r o, (divL q b lead m r o).1.length = r.length ∧ (divL q b lead m r o).2.length = o.length
  | 0, _, _ => ⟨rfl, rfl⟩
  | m + 1, r, o => by
    obtain ⟨h1, h2⟩ := divL_len q b lead m (subL q b (r.getD (m + b.length - 1) 0 * lead % q) m b.length r) (o.set m (r.getD (m + b.length - 1) 0 * lead % q))
    rw [divL, h1, h2, subL_len]; simp
theorem divL_lt {q : Nat} (hq : 0 < q) (b : List Nat) (lead : Nat) : ∀ m r o, (∀ x ∈ r, x < q) → (∀ x ∈ o, x < q) → (∀ x ∈ (divL q b lead m r o).1, x < q) ∧ ∀ x ∈ (divL q b lead m r o).2, x < q
  | 0, _, _, h1, h2 => ⟨h1, h2⟩
  | m + 1, r, o, h1, h2 => by
    rw [divL]
    exact divL_lt hq b lead m _ _ (subL_lt hq b _ _ _ _ h1) (set_lt h2 (Nat.mod_lt _ hq))
/-! ### trimmed lists -/
theorem trimN_pad : ∀ l : List Nat, l = trimN l ++ List.replicate (l.length - (trimN l).length) 0 := by
  suffices H : ∀ n, ∀ l : List Nat, l.length = n → l = trimN l ++ List.replicate (l.length - (trimN l).length) 0 from fun l => H _ l rfl
  intro n
  induction n with
  | zero => intro l hl; obtain rfl := List.length_eq_zero_iff.1 hl; rfl
  | succ n ih =>
    intro l hl
    have e : l = l.take n ++ [l[n]'(by omega)] := by
      have := (List.take_append_getElem (l := l) (i := n) (by omega)).symm
      rw [List.take_of_length_le (by omega)] at this
      simpa using this
    generalize l[n]'(by omega) = x at e
    generalize hp : l.take n = p at e
    have hpl : p.length = n := by rw [← hp]; simp; omega
    subst e
    have ihp := ih p hpl
    rw [trimN_snoc]
    by_cases h : x = 0
    · rw [if_pos h]
      subst h
      have hle := trimN_len p
      have e2 : (p ++ [0]).length - (trimN p).length = (p.length - (trimN p).length) + 1 := by simp; omega
      rw [e2, List.replicate_succ', ← List.append_assoc, ← ihp]
    · rw [if_neg h]; simp
theorem trimN_app_zero (l : List Nat) : ∀ n, trimN (l ++ List.replicate n 0) = trimN l
  | 0 => by simp
  | n + 1 => by rw [List.replicate_succ', ← List.append_assoc, trimN_snoc, if_pos rfl, trimN_app_zero l n]
theorem trimN_idem {l : List Nat} (h : ∀ h : 0 < l.length, l[l.length - 1] ≠ 0) : trimN l = l := by
  by_cases h0 : l.length = 0
  · rw [List.length_eq_zero_iff.1 h0]; rfl
  · have := trimN_some (l := l) (n := l.length) (by omega) (Nat.le_refl _) (h (by omega))
    rwa [List.take_length] at this
theorem trimN_short {l : List Nat} {s : Nat} (hl : l.length = s + 1) (h : l.getD s 0 = 0) : (trimN l).length ≤ s := by
  have h2 := trimN_zero (l := l) (n := s + 1) (by omega) (by omega) (by rw [getD_elem (by omega)] at h; exact h)
  rw [List.take_of_length_le (by omega)] at h2
  rw [h2]
  refine Nat.le_trans (trimN_len _) ?_
  rw [List.length_take]; omega
theorem getD_pad (l : List Nat) (n t : Nat) : (l ++ List.replicate n 0).getD t 0 = l.getD t 0 := by
  rw [List.getD_eq_getElem?_getD, List.getD_eq_getElem?_getD]
  rcases Nat.lt_or_ge t l.length with h | h
  · rw [List.getElem?_append_left h]
  · rw [List.getElem?_append_right h, List.getElem?_eq_none h, List.getElem?_replicate]
    split <;> rfl
theorem pad_lt {q : Nat} (hq : 0 < q) {l : List Nat} (h : ∀ x ∈ l, x < q) (n : Nat) : ∀ x ∈ l ++ List.replicate n 0, x < q := fun x hx => by
  rcases List.mem_append.1 hx with h1 | h1
  · exact h x h1
  · rw [(List.mem_replicate.1 h1).2]; exact hq
/-- the reference's loop: the rest (trimmed) and the quotient so far lead to the same end as the program's rounds -/
structure RDiv (q : Nat) (b : List Nat) (lead n na : Nat) (F : List Nat × List Nat) (rest quo : List Nat) : Prop where
  ex : ∃ m, divL q b lead m (rest ++ List.replicate (na - rest.length) 0) quo = F ∧ rest.length < m + b.length ∧ m ≤ n ∧ ∀ t, t < m → quo.getD t 0 = 0
  ql : quo.length = n
  rl : rest.length ≤ na
  rq : ∀ x ∈ rest, x < q
  tr : ∀ h : 0 < rest.length, rest[rest.length - 1] ≠ 0
theorem RDiv.start {q : Nat} (hq : 0 < q) {a b : List Nat} (hb : 0 < b.length) (lead : Nat) (ha : ∀ x ∈ a, x < q) : RDiv q b lead (a.length + 1 - b.length) a.length (divL q b lead (a.length + 1 - b.length) a (List.replicate (a.length + 1 - b.length) 0)) (trimN a) (List.replicate (a.length + 1 - b.length) 0) :=
  ⟨⟨a.length + 1 - b.length, by rw [← trimN_pad a], by have := trimN_len a; omega, Nat.le_refl _, fun t ht => by rw [getD_elem (by simpa using ht)]; simp⟩, by simp, trimN_len a, trimN_lt ha, trim_last⟩
theorem RDiv.done {q : Nat} (hq : 0 < q) {b : List Nat} (hb : 0 < b.length) {lead n na : Nat} (hn : n = na + 1 - b.length) {F : List Nat × List Nat} {rest quo : List Nat} (h : RDiv q b lead n na F rest quo) (hs : rest.length < b.length) : quo = F.2 ∧ rest = trimN F.1 := by
  obtain ⟨⟨m, h1, h2, h3, h4⟩, ql, rl, rq, tr⟩ := h
  rcases Nat.eq_zero_or_pos m with h0 | h0
  · subst h0
    rw [← h1]
    refine ⟨rfl, ?_⟩
    show rest = trimN (rest ++ _)
    rw [trimN_app_zero, trimN_idem tr]
  have hk := divL_skip hq hb lead (r := rest ++ List.replicate (na - rest.length) 0) (o := quo) (pad_lt hq rq _) 0 (fun t ht => by rw [getD_pad, List.getD_eq_getElem?_getD, List.getElem?_eq_none (by omega)]; rfl) m (Nat.zero_le _) (by simp; omega) (by omega) h4
  rw [hk] at h1
  rw [← h1]
  refine ⟨rfl, ?_⟩
  show rest = trimN (rest ++ _)
  rw [trimN_app_zero, trimN_idem tr]
theorem RDiv.step {q : Nat} (hq : 1 < q) {b : List Nat} (hb : 0 < b.length) {lead n na : Nat} (hn : n = na + 1 - b.length) {F : List Nat × List Nat} {rest quo : List Nat} (hl : b.getD (b.length - 1) 0 * lead % q = 1 % q) (h : RDiv q b lead n na F rest quo) (hs : b.length ≤ rest.length) {k c : Nat} (hk : k = rest.length - b.length) (hc : c = rest.getD (rest.length - 1) 0 * lead % q) :
    RDiv q b lead n na F (trimN (subL q b c k b.length rest)) (quo.set k c) := by
  obtain ⟨⟨m, h1, h2, h3, h4⟩, ql, rl, rq, tr⟩ := h
  have q0 : 0 < q := by omega
  have hkm : k < m := by omega
  have hsk := divL_skip q0 hb lead (r := rest ++ List.replicate (na - rest.length) 0) (o := quo) (pad_lt q0 rq _) (k + 1) (fun t ht => by rw [getD_pad, List.getD_eq_getElem?_getD, List.getElem?_eq_none (by omega)]; rfl) m (by omega) (by simp; omega) (by omega) h4
  rw [hsk, divL, getD_pad, show k + b.length - 1 = rest.length - 1 by omega, ← hc, subL_app _ _ _ _ _ _ _ (by omega)] at h1
  have hX := subL_len q b c k b.length rest
  have htop := subL_top hq (r := rest) (i := k) hb rq (by omega) hl
  rw [show k + b.length - 1 = rest.length - 1 by omega, ← hc] at htop
  have hshort := trimN_short (s := rest.length - 1) (by rw [hX]; omega) htop
  have hlt := subL_lt q0 b c k b.length rest rq
  generalize subL q b c k b.length rest = X at *
  refine ⟨⟨k, ?_, by omega, by omega, fun t ht => ?_⟩, by simpa using ql, by omega, trimN_lt hlt, trim_last⟩
  · rw [← h1]
    congr 1
    have hp := trimN_pad X
    conv => rhs; rw [hp]
    rw [List.append_assoc, List.replicate_append_replicate]
    congr 2
    omega
  · rw [getD_set_ne (by omega)]; exact h4 t (by omega)
end Go.Proofs.YteipbcpnnojclaaDoor
