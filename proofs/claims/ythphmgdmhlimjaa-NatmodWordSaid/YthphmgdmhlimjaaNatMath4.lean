/- Plain arithmetic of the long division by words (Knuth's algorithm D). -/
import Derived.Test.YthphmgdmhlimjaaNatMath3
namespace Go.Proofs.Ythphmgdmhlimjaa
namespace NatMath

theorem getD_le_val {l : List Nat} {j : Nat} (h : j < l.length) : l.getD j 0 * Bp j ≤ val l := by
  have := val_set l j 0 h
  omega

/-! ### shifted -/
def ShI (N s i : Nat) (l : List Nat) : Prop := l.length = len N + 1 ∧ words l ∧ (∀ j, i < j → l.getD j 0 = 0) ∧ val l = N % Bp i * 2 ^ s
theorem ShI.zero (N s : Nat) : ShI N s 0 (List.replicate (len N + 1) 0) := by
  refine ⟨by simp, words_zeros _, fun j _ => ?_, ?_⟩
  · by_cases h : j < len N + 1 <;> simp [List.getD_eq_getElem?_getD, h]
  · rw [val_zeros, Bp_zero, Nat.mod_one, Nat.zero_mul]
theorem ShI.low {N s i : Nat} {l : List Nat} (h : ShI N s i l) (hi : i < len N) : l.getD i 0 < 2 ^ s := by
  obtain ⟨h1, h2, h3, h4⟩ := h
  have := getD_le_val (l := l) (j := i) (by omega)
  rw [h4] at this
  have h5 : N % Bp i < Bp i := Nat.mod_lt _ (Bp_pos i)
  apply Nat.lt_of_mul_lt_mul_right (a := Bp i)
  rw [Nat.mul_comm (2 ^ s)]
  exact Nat.lt_of_le_of_lt this ((Nat.mul_lt_mul_right (Nat.two_pow_pos s)).2 h5)
theorem or_low {a t s : Nat} (ha : a < 2 ^ s) (hs : s ≤ 32) : a ||| (t * 2 ^ s) % 4294967296 = a + (t * 2 ^ s) % 4294967296 := by
  have e : (4294967296 : Nat) = 2 ^ (32 - s) * 2 ^ s := by rw [← Nat.pow_add, Nat.sub_add_cancel hs]
  rw [e, Nat.mul_mod_mul_right, or_shift ha]
theorem low_lt {a t s : Nat} (ha : a < 2 ^ s) (hs : s ≤ 32) : a + (t * 2 ^ s) % 4294967296 < 4294967296 := by
  have e : (4294967296 : Nat) = 2 ^ (32 - s) * 2 ^ s := by rw [← Nat.pow_add, Nat.sub_add_cancel hs]
  have h1 : t % 2 ^ (32 - s) + 1 ≤ 2 ^ (32 - s) := Nat.mod_lt _ (Nat.two_pow_pos _)
  have h2 := Nat.mul_le_mul_right (2 ^ s) h1
  rw [Nat.add_mul, Nat.one_mul] at h2
  rw [e, Nat.mul_mod_mul_right]
  omega
theorem ShI.step {N s i : Nat} {l : List Nat} (h : ShI N s i l) (hi : i < len N) (hs : s < 32) {t : Nat} (ht : t = dig N i * 2 ^ s) :
    t < 18446744073709551616 ∧ l.getD i 0 ||| t % 4294967296 = l.getD i 0 + t % 4294967296 ∧ l.getD i 0 + t % 4294967296 < 4294967296 ∧ t / 4294967296 < 4294967296 ∧
    ShI N s (i + 1) ((l.set i (l.getD i 0 + t % 4294967296)).set (i + 1) (t / 4294967296)) := by
  have hlow := h.low hi
  obtain ⟨h1, h2, h3, h4⟩ := h
  have hd := dig_lt N i
  have hp : 2 ^ s ≤ 2147483648 := by
    have : 2 ^ s ≤ 2 ^ 31 := Nat.pow_le_pow_right (by omega) (by omega)
    simpa using this
  have htb : t < 18446744073709551616 := by
    rw [ht]
    have := Nat.mul_le_mul (Nat.le_of_lt_succ (show dig N i < 4294967295 + 1 from hd)) hp
    omega
  have hor := or_low (t := dig N i) hlow (by omega : s ≤ 32)
  have hlt := low_lt (t := dig N i) hlow (by omega : s ≤ 32)
  rw [← ht] at hor hlt
  refine ⟨htb, hor, hlt, by omega, by simp [h1], words_set (words_set h2 hlt) (by omega), fun j hj => ?_, ?_⟩
  · rw [getD_set_ne (by omega), getD_set_ne (by omega)]; exact h3 j (by omega)
  · have e1 := val_set l i (l.getD i 0 + t % 4294967296) (by omega)
    have e2 := val_set (l.set i (l.getD i 0 + t % 4294967296)) (i + 1) (t / 4294967296) (by rw [List.length_set]; omega)
    rw [getD_set_ne (by omega), h3 (i + 1) (by omega), Nat.zero_mul, Nat.add_zero] at e2
    have e3 : N % Bp (i + 1) * 2 ^ s = N % Bp i * 2 ^ s + t * Bp i := by
      rw [mod_step, Nat.add_mul, ht]; rw [Nat.add_comm]; congr 1
      rw [Nat.mul_assoc, Nat.mul_comm (Bp i)]
    rw [e3, ← h4, e2, Bp_succ]
    have e4 : t = t / 4294967296 * 4294967296 + t % 4294967296 := by omega
    have e5 : t * Bp i = t / 4294967296 * (Bp i * 4294967296) + t % 4294967296 * Bp i := by
      conv => lhs; rw [e4]
      rw [Nat.add_mul, Nat.mul_assoc, Nat.mul_comm 4294967296]
    rw [Nat.add_mul] at e1
    omega
theorem ShI.done {N s : Nat} {l : List Nat} (h : ShI N s (len N) l) : l.length = len N + 1 ∧ words l ∧ val l = N * 2 ^ s := by
  obtain ⟨h1, h2, _, h4⟩ := h
  rw [Nat.mod_eq_of_lt (lt_Bp_len N)] at h4
  exact ⟨h1, h2, h4⟩

/-! ### the guess -/
/-- what a round of the long division knows: V has n words, the highest has its highest bit; X is less than V with j+1 zero words behind it -/
def Rd (X V n j : Nat) : Prop := 2 ≤ n ∧ 2147483648 * Bp (n - 1) ≤ V ∧ V < Bp n ∧ X < V * Bp (j + 1)
def qt (X V j : Nat) : Nat := X / Bp j / V
theorem Rd.parts {X V n j : Nat} (h : Rd X V n j) : 0 < V ∧ X / Bp j < V * 4294967296 ∧ Bp (n - 1) = 4294967296 * Bp (n - 2) ∧ Bp n = 4294967296 * (4294967296 * Bp (n - 2)) := by
  obtain ⟨h1, h2, h3, h4⟩ := h
  have hb := Bp_pos (n - 1)
  refine ⟨by omega, ?_, ?_, ?_⟩
  · rw [Nat.div_lt_iff_lt_mul (Bp_pos j), Nat.mul_assoc, Nat.mul_comm 4294967296, ← Bp_succ]; exact h4
  · rw [show n - 1 = n - 2 + 1 from by omega, Bp_succ, Nat.mul_comm]
  · rw [show n = n - 2 + 1 + 1 from by omega, Bp_succ, Bp_succ, Nat.mul_comm, show n - 2 + 1 + 1 - 2 = n - 2 from by omega, Nat.mul_comm (Bp (n - 2))]
theorem Rd.qt_lt {X V n j : Nat} (h : Rd X V n j) : qt X V j ≤ 4294967295 := by
  obtain ⟨h0, h1, _⟩ := h.parts
  unfold qt
  have : X / Bp j / V < 4294967296 := by rw [Nat.div_lt_iff_lt_mul h0, Nat.mul_comm]; exact h1
  omega
/-- the words of V and of X that the guess looks at -/
def v1 (V n : Nat) : Nat := V / Bp (n - 1)
def v2 (V n : Nat) : Nat := dig V (n - 2)
def tp (X n j : Nat) : Nat := X / Bp j / Bp (n - 1)
def u2 (X n j : Nat) : Nat := dig X (j + (n - 2))
theorem Rd.v1 {X V n j : Nat} (h : Rd X V n j) : dig V (n - 1) = v1 V n ∧ 2147483648 ≤ v1 V n ∧ v1 V n < 4294967296 := by
  obtain ⟨h1, h2, h3, h4⟩ := h
  have hlt : V / Bp (n - 1) < 4294967296 := by
    rw [Nat.div_lt_iff_lt_mul (Bp_pos _), Nat.mul_comm, ← Bp_succ, show n - 1 + 1 = n from by omega]; exact h3
  refine ⟨?_, ?_, hlt⟩
  · unfold dig NatMath.v1; exact Nat.mod_eq_of_lt hlt
  · unfold NatMath.v1; rw [Nat.le_div_iff_mul_le (Bp_pos _)]; exact h2
theorem Rd.tp {X V n j : Nat} (h : Rd X V n j) : dig X (j + n) * 4294967296 + dig X (j + n - 1) = tp X n j ∧ tp X n j < (NatMath.v1 V n + 1) * 4294967296 := by
  obtain ⟨p0, p1, p2, p3⟩ := h.parts
  obtain ⟨h1, h2, h3, h4⟩ := h
  have e1 : NatMath.tp X n j = X / Bp (j + n - 1) := by
    unfold NatMath.tp; rw [Nat.div_div_eq_div_mul, ← Bp_add, show j + (n - 1) = j + n - 1 from by omega]
  have hst := div_step X (j + n - 1)
  rw [show j + n - 1 + 1 = j + n from by omega] at hst
  have hlt : X / Bp (j + n) < 4294967296 := by
    rw [Nat.div_lt_iff_lt_mul (Bp_pos _), Bp_add, ← Nat.mul_assoc, Nat.mul_comm 4294967296, ← Bp_succ, Nat.mul_comm]
    exact Nat.lt_of_lt_of_le h4 (Nat.mul_le_mul_right _ (Nat.le_of_lt h3))
  have hd : dig X (j + n) = X / Bp (j + n) := by unfold dig; exact Nat.mod_eq_of_lt hlt
  refine ⟨by rw [e1, hd]; omega, ?_⟩
  have hV : V < (NatMath.v1 V n + 1) * Bp (n - 1) := by
    unfold NatMath.v1; rw [Nat.mul_comm]; exact Nat.lt_mul_div_succ V (Bp_pos _)
  unfold NatMath.tp
  rw [Nat.div_lt_iff_lt_mul (Bp_pos _), Nat.mul_assoc, Nat.mul_comm 4294967296, ← Nat.mul_assoc]
  exact Nat.lt_of_lt_of_le p1 (Nat.mul_le_mul_right _ (Nat.le_of_lt hV))
/-- x and V in terms of the words looked at -/
theorem Rd.low {X V n j : Nat} (h : Rd X V n j) : ∃ xl vl, xl < Bp (n - 2) ∧ vl < Bp (n - 2) ∧ X / Bp j = (NatMath.tp X n j * 4294967296 + u2 X n j) * Bp (n - 2) + xl ∧ V = (NatMath.v1 V n * 4294967296 + v2 V n) * Bp (n - 2) + vl := by
  obtain ⟨h1, _⟩ := h
  refine ⟨X / Bp j % Bp (n - 2), V % Bp (n - 2), Nat.mod_lt _ (Bp_pos _), Nat.mod_lt _ (Bp_pos _), ?_, ?_⟩
  · have e := div_step (X / Bp j) (n - 2)
    rw [show n - 2 + 1 = n - 1 from by omega] at e
    have e2 : dig (X / Bp j) (n - 2) = u2 X n j := by unfold u2 dig; rw [Nat.div_div_eq_div_mul, ← Bp_add]
    rw [e2] at e
    unfold NatMath.tp; rw [← e, Nat.mul_comm]; exact (Nat.div_add_mod _ _).symm
  · have e := div_step V (n - 2)
    rw [show n - 2 + 1 = n - 1 from by omega] at e
    unfold NatMath.v1 v2; rw [← e, Nat.mul_comm]; exact (Nat.div_add_mod _ _).symm
theorem Rd.first {X V n j : Nat} (h : Rd X V n j) : qt X V j ≤ NatMath.tp X n j / NatMath.v1 V n := by
  obtain ⟨hv, hv2, _⟩ := h.v1
  rw [Nat.le_div_iff_mul_le (by omega)]
  have hq : qt X V j * V ≤ X / Bp j := Nat.div_mul_le_self _ _
  have h1 : NatMath.v1 V n * Bp (n - 1) ≤ V := Nat.div_mul_le_self _ _
  unfold NatMath.tp
  rw [Nat.le_div_iff_mul_le (Bp_pos _), Nat.mul_assoc]
  exact Nat.le_trans (Nat.mul_le_mul_left _ h1) hq
theorem Rd.more {X V n j g r : Nat} (h : Rd X V n j) (hg : g * NatMath.v1 V n + r = NatMath.tp X n j) (ht : r * 4294967296 + u2 X n j < g * v2 V n) : qt X V j < g := by
  obtain ⟨xl, vl, hx, hv, e1, e2⟩ := h.low
  apply Nat.lt_of_not_le; intro hle
  have hq : qt X V j * V ≤ X / Bp j := Nat.div_mul_le_self _ _
  have h1 : g * ((NatMath.v1 V n * 4294967296 + v2 V n) * Bp (n - 2)) ≤ X / Bp j :=
    Nat.le_trans (Nat.mul_le_mul hle (by omega)) hq
  have h2 : X / Bp j < (NatMath.tp X n j * 4294967296 + u2 X n j + 1) * Bp (n - 2) := by rw [e1, Nat.add_mul, Nat.add_mul, Nat.add_mul]; omega
  have h3 : g * (NatMath.v1 V n * 4294967296 + v2 V n) < NatMath.tp X n j * 4294967296 + u2 X n j + 1 := by
    apply Nat.lt_of_mul_lt_mul_right (a := Bp (n - 2))
    rw [Nat.mul_assoc]; exact Nat.lt_of_le_of_lt h1 h2
  rw [← hg, Nat.mul_add, ← Nat.mul_assoc, Nat.add_mul] at h3
  omega
theorem Rd.close {X V n j g r : Nat} (h : Rd X V n j) (hg : g * NatMath.v1 V n + r = NatMath.tp X n j) (hb : g ≤ 4294967295) (ht : g * v2 V n ≤ r * 4294967296 + u2 X n j ∨ 4294967296 ≤ r) : g ≤ qt X V j + 1 := by
  obtain ⟨xl, vl, hx, hv, e1, e2⟩ := h.low
  obtain ⟨p0, p1, p2, p3⟩ := h.parts
  have hV1 : Bp (n - 1) ≤ V := by obtain ⟨_, h2, _⟩ := h; omega
  have h3 : g * (NatMath.v1 V n * 4294967296 + v2 V n) ≤ NatMath.tp X n j * 4294967296 + u2 X n j := by
    rw [← hg, Nat.mul_add, ← Nat.mul_assoc, Nat.add_mul]
    rcases ht with ht | ht
    · omega
    · have h4 : g * v2 V n ≤ 4294967295 * 4294967295 := Nat.mul_le_mul hb (by have := dig_lt V (n - 2); unfold v2; omega)
      omega
  have h5 : g * V ≤ X / Bp j + V := by
    conv => lhs; rw [e2]
    rw [Nat.mul_add, ← Nat.mul_assoc, e1]
    have h6 := Nat.mul_le_mul_right (Bp (n - 2)) h3
    have h7 : g * vl ≤ 4294967295 * Bp (n - 2) := Nat.mul_le_mul hb (Nat.le_of_lt hv)
    omega
  have h8 : (g - 1) * V ≤ X / Bp j := by rw [Nat.sub_mul, Nat.one_mul]; omega
  have h9 : g - 1 ≤ qt X V j := by unfold qt; rw [Nat.le_div_iff_mul_le p0]; exact h8
  omega
theorem Rd.over {X V n j g r : Nat} (h : Rd X V n j) (hg : g * NatMath.v1 V n + r = NatMath.tp X n j) (hr : 4294967296 ≤ r) : g ≤ 4294967295 := by
  obtain ⟨_, h2⟩ := h.tp
  apply Nat.le_of_not_lt; intro hh
  have : 4294967296 * NatMath.v1 V n ≤ g * NatMath.v1 V n := Nat.mul_le_mul_right _ (by omega)
  rw [Nat.add_mul] at h2
  omega

/-! ### the subtraction and the addition back -/
def SubI (X V g j n L i c b : Nat) (l : List Nat) : Prop :=
  l.length = L ∧ words l ∧ (∀ k, j + n < k → l.getD k 0 = 0) ∧ c < 4294967296 ∧ b ≤ 1 ∧ val l + g * (V % Bp i) * Bp j = X + (c + b) * Bp (j + i)
theorem SubI.start {X V g j n L : Nat} {l : List Nat} (h1 : l.length = L) (h2 : words l) (h3 : val l = X) (h4 : ∀ k, j + n < k → l.getD k 0 = 0) : SubI X V g j n L 0 0 0 l :=
  ⟨h1, h2, h4, by omega, by omega, by rw [Bp_zero, Nat.mod_one, h3]; omega⟩
theorem sub_word {y t b : Nat} (hy : y < 4294967296) (ht : t < 4294967296) (hb : b ≤ 1) :
    y + (if y < t + b then 1 else 0) * 4294967296 = (y + 8589934592 - t - b) % 4294967296 + t + b ∧ (if y < t + b then 1 else 0) ≤ 1 := by
  split <;> omega
theorem SubI.step {X V g j n L i c b : Nat} {l : List Nat} (h : SubI X V g j n L i c b l) (hi : i < n) (hL : j + n < L) (hg : g ≤ 4294967295) {t y : Nat} (ht : t = g * dig V i + c) (hy : y = l.getD (j + i) 0) :
    t < 18446744073709551616 ∧ SubI X V g j n L (i + 1) (t / 4294967296) (if y < t % 4294967296 + b then 1 else 0) (l.set (j + i) ((y + 8589934592 - t % 4294967296 - b) % 4294967296)) := by
  obtain ⟨h1, h2, h3, h4, h5, h6⟩ := h
  have hm : g * dig V i ≤ 4294967295 * 4294967295 := Nat.mul_le_mul hg (by have := dig_lt V i; omega)
  have htb : t < 18446744073709551616 := by omega
  have hyb : y < 4294967296 := by rw [hy]; exact getD_lt h2 _
  obtain ⟨k1, k2⟩ := sub_word hyb (Nat.mod_lt t (by omega : 0 < 4294967296)) h5
  refine ⟨htb, by simp [h1], words_set h2 (Nat.mod_lt _ (by omega)), fun k hk => ?_, by omega, k2, ?_⟩
  · rw [getD_set_ne (by omega)]; exact h3 k hk
  · have e1 := val_set l (j + i) ((y + 8589934592 - t % 4294967296 - b) % 4294967296) (by omega)
    rw [← hy] at e1
    have e2 : g * (V % Bp (i + 1)) * Bp j = g * (V % Bp i) * Bp j + g * dig V i * Bp (j + i) := by
      rw [mod_step, Nat.mul_add, Nat.add_mul, Nat.add_comm]; congr 1
      rw [Bp_add, Nat.mul_comm (Bp i), ← Nat.mul_assoc, Nat.mul_assoc, Nat.mul_comm (Bp i)]
    have e3 : j + (i + 1) = j + i + 1 := by omega
    rw [e2, e3, Bp_succ]
    generalize (if y < t % 4294967296 + b then 1 else 0) = b' at *
    generalize (y + 8589934592 - t % 4294967296 - b) % 4294967296 = z at *
    generalize Bp (j + i) = P at *
    generalize val (l.set (j + i) z) = A at *
    generalize val l = C at *
    generalize g * (V % Bp i) * Bp j = D at *
    generalize g * dig V i = E at *
    have e5 : t = t / 4294967296 * 4294967296 + t % 4294967296 := by omega
    generalize t / 4294967296 = th at *
    generalize t % 4294967296 = tl at *
    clear e2 h1 h2 h3 hy hm htb hyb e3
    have e6 : (y + b' * 4294967296) * P = (z + tl + b) * P := by rw [k1]
    have e7 : (th * 4294967296 + tl) * P = (E + c) * P := by rw [← e5, ht]
    grind
theorem SubI.top {X V g j n L c b : Nat} {l : List Nat} (h : SubI X V g j n L n c b l) (hV : V < Bp n) (hL : j + n < L) {y : Nat} (hy : y = l.getD (j + n) 0) :
    ∃ b', b' = (if y < c + b then 1 else 0) ∧ b' ≤ 1 ∧ (l.set (j + n) ((y + 8589934592 - c - b) % 4294967296)).length = L ∧ words (l.set (j + n) ((y + 8589934592 - c - b) % 4294967296)) ∧
      (∀ k, j + n < k → (l.set (j + n) ((y + 8589934592 - c - b) % 4294967296)).getD k 0 = 0) ∧
      val (l.set (j + n) ((y + 8589934592 - c - b) % 4294967296)) + g * V * Bp j = X + b' * Bp (j + n + 1) := by
  obtain ⟨h1, h2, h3, h4, h5, h6⟩ := h
  rw [Nat.mod_eq_of_lt hV] at h6
  have hyb : y < 4294967296 := by rw [hy]; exact getD_lt h2 _
  obtain ⟨k1, k2⟩ := sub_word hyb h4 h5
  refine ⟨_, rfl, k2, by simp [h1], words_set h2 (Nat.mod_lt _ (by omega)), fun k hk => ?_, ?_⟩
  · rw [getD_set_ne (by omega)]; exact h3 k hk
  · have e1 := val_set l (j + n) ((y + 8589934592 - c - b) % 4294967296) (by omega)
    rw [← hy] at e1
    rw [Bp_succ]
    generalize (if y < c + b then 1 else 0) = b' at *
    generalize (y + 8589934592 - c - b) % 4294967296 = z at *
    generalize Bp (j + n) = P at *
    generalize val (l.set (j + n) z) = A at *
    generalize val l = C at *
    generalize g * V * Bp j = D at *
    clear h1 h2 h3 hy hyb
    have e6 : (y + b' * 4294967296) * P = (z + c + b) * P := by rw [k1]
    grind
def AddI (Y V j n L i c : Nat) (l : List Nat) : Prop :=
  l.length = L ∧ words l ∧ (∀ k, j + n < k → l.getD k 0 = 0) ∧ c ≤ 1 ∧ val l + c * Bp (j + i) = Y + V % Bp i * Bp j
theorem AddI.start {Y V j n L : Nat} {l : List Nat} (h1 : l.length = L) (h2 : words l) (h3 : val l = Y) (h4 : ∀ k, j + n < k → l.getD k 0 = 0) : AddI Y V j n L 0 0 l :=
  ⟨h1, h2, h4, by omega, by rw [Bp_zero, Nat.mod_one, h3]; omega⟩
theorem AddI.step {Y V j n L i c : Nat} {l : List Nat} (h : AddI Y V j n L i c l) (hi : i < n) (hL : j + n < L) {y : Nat} (hy : y = l.getD (j + i) 0) :
    AddI Y V j n L (i + 1) ((y + dig V i + c) / 4294967296) (l.set (j + i) ((y + dig V i + c) % 4294967296)) := by
  obtain ⟨h1, h2, h3, h4, h6⟩ := h
  have hyb : y < 4294967296 := by rw [hy]; exact getD_lt h2 _
  have hv := dig_lt V i
  refine ⟨by simp [h1], words_set h2 (Nat.mod_lt _ (by omega)), fun k hk => ?_, by omega, ?_⟩
  · rw [getD_set_ne (by omega)]; exact h3 k hk
  · have e1 := val_set l (j + i) ((y + dig V i + c) % 4294967296) (by omega)
    rw [← hy] at e1
    have e2 : V % Bp (i + 1) * Bp j = V % Bp i * Bp j + dig V i * Bp (j + i) := by
      rw [mod_step, Nat.add_mul, Nat.add_comm]; congr 1
      rw [Bp_add, Nat.mul_comm (Bp i), Nat.mul_assoc, Nat.mul_comm (Bp i)]
    have e3 : j + (i + 1) = j + i + 1 := by omega
    rw [e2, e3, Bp_succ]
    have e5 : y + dig V i + c = (y + dig V i + c) / 4294967296 * 4294967296 + (y + dig V i + c) % 4294967296 := by omega
    generalize (y + dig V i + c) / 4294967296 = th at *
    generalize (y + dig V i + c) % 4294967296 = tl at *
    generalize Bp (j + i) = P at *
    generalize val (l.set (j + i) tl) = A at *
    generalize val l = C at *
    generalize V % Bp i * Bp j = D at *
    generalize dig V i = E at *
    clear e2 h1 h2 h3 hy hyb e3 hv
    have e7 : (th * 4294967296 + tl) * P = (y + E + c) * P := by rw [← e5]
    grind

/-! ### what a round leaves -/
theorem val_lt_of_zero {l : List Nat} {k : Nat} (hw : words l) (h : ∀ i, k < i → l.getD i 0 = 0) : val l < Bp (k + 1) := by
  have e : val l = val (l.take (k + 1)) := by
    by_cases hl : l.length ≤ k + 1
    · rw [List.take_of_length_le hl]
    · have : ∀ m, k + 1 ≤ m → m ≤ l.length → val (l.take m) = val (l.take (k + 1)) := by
        intro m hm
        induction m with
        | zero => omega
        | succ m ih =>
          intro hml
          by_cases hk : k + 1 = m + 1
          · rw [hk]
          · rw [← val_take_zero (by omega) (h m (by omega))]; exact ih (by omega) (by omega)
      have := this l.length (by omega) (Nat.le_refl _)
      rwa [List.take_length] at this
  rw [e]
  exact Nat.lt_of_lt_of_le (val_lt (words_take hw _)) (Bp_le (by rw [List.length_take]; omega))
theorem Rd.mod {X V n j : Nat} (h : Rd X V n j) : X = qt X V j * V * Bp j + X % (V * Bp j) ∧ X % (V * Bp j) < V * Bp j := by
  obtain ⟨p0, _⟩ := h.parts
  refine ⟨?_, Nat.mod_lt _ (Nat.mul_pos p0 (Bp_pos j))⟩
  unfold qt
  rw [Nat.div_div_eq_div_mul, Nat.mul_comm (Bp j), Nat.mul_assoc, Nat.mul_comm (X / _)]
  exact (Nat.div_add_mod _ _).symm
/-- no borrow: the guess was right -/
theorem Rd.right {X V n j g A : Nat} (h : Rd X V n j) (hg : qt X V j ≤ g) (hA : A + g * V * Bp j = X) : g = qt X V j ∧ A = X % (V * Bp j) := by
  obtain ⟨m1, m2⟩ := h.mod
  obtain ⟨p0, _⟩ := h.parts
  have hle : g ≤ qt X V j := by
    apply Nat.le_of_not_lt; intro hh
    have : (qt X V j + 1) * V * Bp j ≤ g * V * Bp j := Nat.mul_le_mul_right _ (Nat.mul_le_mul_right _ hh)
    rw [Nat.add_mul, Nat.add_mul, Nat.one_mul] at this
    omega
  obtain rfl : g = qt X V j := by omega
  exact ⟨rfl, by omega⟩
/-- a borrow: the guess was too much by one -/
theorem Rd.wrong {X V n j g A : Nat} (h : Rd X V n j) (hg : g ≤ qt X V j + 1) (hA : A + g * V * Bp j = X + Bp (j + n + 1)) (hlt : A < Bp (j + n + 1)) : g = qt X V j + 1 ∧ A + V * Bp j = X % (V * Bp j) + Bp (j + n + 1) := by
  obtain ⟨m1, m2⟩ := h.mod
  have hle : qt X V j < g := by
    apply Nat.lt_of_not_le; intro hh
    have : g * V * Bp j ≤ qt X V j * V * Bp j := Nat.mul_le_mul_right _ (Nat.mul_le_mul_right _ hh)
    omega
  obtain rfl : g = qt X V j + 1 := by omega
  refine ⟨rfl, ?_⟩
  rw [Nat.add_mul, Nat.add_mul, Nat.one_mul] at hA
  omega
theorem AddI.top {X V n j L c Y : Nat} {l : List Nat} (hr : Rd X V n j) (h : AddI Y V j n L n c l) (hY : Y + V * Bp j = X % (V * Bp j) + Bp (j + n + 1)) (hL : j + n < L) {y : Nat} (hy : y = l.getD (j + n) 0) :
    (l.set (j + n) ((y + c) % 4294967296)).length = L ∧ words (l.set (j + n) ((y + c) % 4294967296)) ∧ (∀ k, j + n ≤ k → (l.set (j + n) ((y + c) % 4294967296)).getD k 0 = 0) ∧ val (l.set (j + n) ((y + c) % 4294967296)) = X % (V * Bp j) := by
  obtain ⟨h1, h2, h3, h4, h6⟩ := h
  obtain ⟨m1, m2⟩ := hr.mod
  obtain ⟨r1, r2, r3, r4⟩ := hr
  rw [Nat.mod_eq_of_lt r3, hY] at h6
  have hyb : y < 4294967296 := by rw [hy]; exact getD_lt h2 _
  have hX : X % (V * Bp j) < Bp (j + n) := by
    rw [Bp_add, Nat.mul_comm (Bp j)]
    exact Nat.lt_of_lt_of_le m2 (Nat.mul_le_mul_right _ (Nat.le_of_lt r3))
  -- the list without its word j+n
  have e0 := val_set l (j + n) 0 (by omega)
  rw [← hy] at e0
  have hlow : val (l.set (j + n) 0) < Bp (j + n) := by
    have hz : ∀ i, j + n - 1 < i → (l.set (j + n) 0).getD i 0 = 0 := by
      intro i hi
      by_cases e : i = j + n
      · subst e; exact getD_set_eq (by omega)
      · rw [getD_set_ne (by omega)]; exact h3 i (by omega)
    have := val_lt_of_zero (words_set h2 (by omega)) hz
    rwa [show j + n - 1 + 1 = j + n from by omega] at this
  rw [Bp_succ] at h6
  have hP := Bp_pos (j + n)
  have key : y + c = 4294967296 := by
    generalize Bp (j + n) = P at *
    generalize val (l.set (j + n) 0) = A at *
    generalize X % (V * Bp j) = R at *
    have k1 : (y + c) * P + A = R + P * 4294967296 := by rw [Nat.add_mul]; omega
    have k2 : ¬ y + c ≤ 4294967295 := fun hh => by
      have := Nat.mul_le_mul_right P hh
      omega
    have k3 : ¬ 4294967297 ≤ y + c := fun hh => by
      have := Nat.mul_le_mul_right P hh
      omega
    omega
  rw [key, Nat.mod_self]
  refine ⟨by simp [h1], words_set h2 (by omega), fun k hk => ?_, ?_⟩
  · by_cases e : k = j + n
    · subst e; exact getD_set_eq (by omega)
    · rw [getD_set_ne (by omega)]; exact h3 k (by omega)
  · have k1 : (y + c) * Bp (j + n) = 4294967296 * Bp (j + n) := by rw [key]
    rw [Nat.add_mul] at k1
    omega
end NatMath
end Go.Proofs.Ythphmgdmhlimjaa
