/- Polynomials modulo a prime: equal at as many places as there are coefficients; Newton's polynomial takes the values; Lagrange's weights. Plain. -/
import Derived.Test.YteipbcpnnojclaaDoorPolQ
import Derived.Test.YteipbcpnnojclaaDoorPuK
namespace Go.Proofs.YteipbcpnnojclaaDoor
open Go.RowKit DivMath WordMath
open QuadMath (Prime)
set_option linter.unusedVariables false
theorem field_prime {q : Nat} (h : fieldB (q : Int) = true) : Prime q := by
  unfold fieldB at h
  simp only [Bool.and_eq_true, decide_eq_true_eq] at h
  have h2 : Pri.isP q = true := by simpa using h.2
  exact (Pt.isP61 (by omega)).1 h2
/-! ### equal values, equal coefficients -/
theorem ev_snoc (x c : Int) : ∀ l : List Int, Pt.ev (l ++ [c]) x = Pt.ev l x + c * x ^ l.length
  | [] => by simp [Pt.ev]
  | a :: l => by
    show a + x * Pt.ev (l ++ [c]) x = a + x * Pt.ev l x + c * x ^ (l.length + 1)
    rw [ev_snoc x c l, Int.pow_succ]; grind
theorem lead_snoc (c : Int) : ∀ l : List Int, Pt.lead (l ++ [c]) = c
  | [] => rfl
  | [a] => rfl
  | a :: b :: l => by
    show Pt.lead (b :: l ++ [c]) = c
    exact lead_snoc c (b :: l)
/-- the differences of the coefficients -/
def dif (a b : List Nat) : Nat → List Int
  | 0 => []
  | n + 1 => dif a b n ++ [(a.getD n 0 : Int) - (b.getD n 0 : Nat)]
theorem dif_len (a b : List Nat) : ∀ n, (dif a b n).length = n
  | 0 => rfl
  | n + 1 => by rw [dif, List.length_append, dif_len a b n]; rfl
theorem dif_ev (a b : List Nat) (x : Nat) : ∀ n, Pt.ev (dif a b n) x = (Pv.sm x (fun i => a.getD i 0) n : Nat) - (Pv.sm x (fun i => b.getD i 0) n : Nat)
  | 0 => rfl
  | n + 1 => by
    rw [dif, ev_snoc, dif_len, dif_ev a b x n, Pv.sm, Pv.sm]
    simp only [Int.natCast_add, Int.natCast_mul, Int.natCast_pow, Int.sub_mul]
    omega
theorem getD_out {l : List Nat} {i : Nat} (h : l.length ≤ i) : l.getD i 0 = 0 := by rw [List.getD_eq_getElem?_getD, List.getElem?_eq_none h]; rfl
theorem pv_uniq {q n : Nat} (hq : Prime q) {a b : List Nat} (la : a.length ≤ n) (lb : b.length ≤ n) (ha : ∀ c ∈ a, c < q) (hb : ∀ c ∈ b, c < q) (X : List Nat) (hN : X.Nodup)
    (hX : ∀ x ∈ X, x < q ∧ evN q x a = evN q x b) (hl : n ≤ X.length) : ∀ i, a.getD i 0 = b.getD i 0 := by
  have q0 : 0 < q := by have := hq.1; omega
  suffices key : ∀ m, m ≤ n → (∀ i, m ≤ i → a.getD i 0 = b.getD i 0) → ∀ i, a.getD i 0 = b.getD i 0 from
    key n (Nat.le_refl _) (fun i hi => by rw [getD_out (by omega), getD_out (by omega)])
  intro m
  induction m with
  | zero => intro _ h i; exact h i (Nat.zero_le _)
  | succ m ih =>
    intro hm h
    refine ih (by omega) (fun i hi => ?_)
    by_cases e : i = m
    · subst e
      apply Classical.byContradiction
      intro hne
      have ba := getD_lt q0 ha i
      have bb := getD_lt q0 hb i
      have sme : ∀ (l : List Nat) (x k : Nat), i + 1 ≤ k → (∀ j, i + 1 ≤ j → a.getD j 0 = b.getD j 0) → True := fun _ _ _ _ _ => trivial
      have := Pt.roots_le hq i (dif a b (i + 1)) (dif_len a b _) (by
        rw [dif, lead_snoc]
        intro hd
        have key : ∀ x y : Nat, x < q → y < x → (q : Int) ∣ ((x : Int) - (y : Nat)) → False := by
          intro x y hx hyx hd
          rw [show (x : Int) - (y : Nat) = ((x - y : Nat) : Int) by omega] at hd
          have := Nat.le_of_dvd (by omega) (Int.natCast_dvd_natCast.1 hd)
          omega
        rcases Nat.lt_or_ge (a.getD i 0) (b.getD i 0) with h1 | h1
        · refine key _ _ bb h1 ?_
          have := Int.dvd_neg.2 hd
          rwa [Int.neg_sub] at this
        · exact key _ _ ba (by omega) hd) X hN (fun x hx => by
        obtain ⟨h1, h2⟩ := hX x hx
        refine ⟨h1, ?_⟩
        have e1 : Pt.ev (dif a b (i + 1)) x = Pt.ev (dif a b n) x := by
          have : ∀ k, i + 1 + k ≤ n → Pt.ev (dif a b (i + 1 + k)) x = Pt.ev (dif a b (i + 1)) x := by
            intro k
            induction k with
            | zero => intro _; rfl
            | succ k ih2 =>
              intro hk
              rw [show i + 1 + (k + 1) = (i + 1 + k) + 1 by omega, dif, ev_snoc, ih2 (by omega), h (i + 1 + k) (by omega), Int.sub_self, Int.zero_mul, Int.add_zero]
          rw [← this (n - (i + 1)) (by omega), show i + 1 + (n - (i + 1)) = n by omega]
        rw [e1, dif_ev, Pv.sm_all x a n la, Pv.sm_all x b n lb]
        rw [Pv.evN_pv, Pv.evN_pv] at h2
        refine Int.dvd_of_emod_eq_zero (Int.emod_eq_emod_iff_emod_sub_eq_zero.1 ?_)
        exact_mod_cast h2)
      omega
    · exact h i (by omega)
theorem list_uniq {a b : List Nat} (ha : ∀ (h : 0 < a.length), a[a.length - 1] ≠ 0) (hb : ∀ (h : 0 < b.length), b[b.length - 1] ≠ 0) (h : ∀ i, a.getD i 0 = b.getD i 0) : a = b := by
  have key : ∀ a b : List Nat, (∀ (h : 0 < b.length), b[b.length - 1] ≠ 0) → (∀ i, a.getD i 0 = b.getD i 0) → b.length ≤ a.length := by
    intro a b hb h
    apply Classical.byContradiction
    intro hc
    have h1 := h (b.length - 1)
    rw [getD_out (by omega), getD_elem (by omega)] at h1
    exact hb (by omega) h1.symm
  have l1 := key a b hb h
  have l2 := key b a ha (fun i => (h i).symm)
  refine List.ext_getElem (by omega) (fun i h1 h2 => ?_)
  have := h i
  rwa [getD_elem h1, getD_elem h2] at this
/-! ### values of small polynomials -/
theorem evN_one (q x c : Nat) (hc : c < q) : evN q x [c] = c := by
  simp only [evN]
  rw [Nat.zero_mul, Nat.zero_mod, Nat.zero_add, Nat.mod_eq_of_lt hc]
theorem evN_lin {q x a : Nat} (hq : 1 < q) (ha : a ≤ q) : evN q x [(0 + (q - a)) % q, 1] = (x + (q - a)) % q := by
  rw [Pv.evN_pv]
  show ((0 + (q - a)) % q + x * (1 + x * 0)) % q = _
  rw [Nat.zero_add, Nat.mul_zero, Nat.add_zero, Nat.mul_one, Nat.mod_add_mod, Nat.add_comm]
theorem ev_mulL (q x : Nat) (a b : List Nat) : evN q x (mulL q a b) = evN q x a * evN q x b % q := by
  rw [Pv.evN_pv, Pv.evN_pv q x a, Pv.evN_pv q x b]
  exact (Pv.pv_mul q x a b).trans (Pv.Cg.mul Pv.Cg.mod.symm Pv.Cg.mod.symm)
theorem getD_map_range (n : Nat) (f : Nat → Nat) {i : Nat} (h : i < n) : ((List.range n).map f).getD i 0 = f i := by
  rw [getD_elem (by simp; exact h)]; simp
theorem lin_zero {q x a : Nat} (hx : x < q) (ha : a < q) : (x + (q - a)) % q = 0 ↔ x = a := by
  constructor
  · intro h
    rcases Nat.lt_or_ge x a with h1 | h1
    · rw [Nat.mod_eq_of_lt (by omega)] at h; omega
    · rw [show x + (q - a) = (x - a) + q by omega, Nat.add_mod_right, Nat.mod_eq_of_lt (by omega)] at h; omega
  · rintro rfl
    rw [show x + (q - x) = q by omega, Nat.mod_self]
theorem prime_zero {q a b : Nat} (hq : Prime q) (ha : a < q) (hb : b < q) (h : a * b % q = 0) : a = 0 ∨ b = 0 := by
  rcases Pt.prime_dvd_mul hq (Nat.dvd_of_mod_eq_zero h) with h | h
  · exact Or.inl (Nat.eq_zero_of_dvd_of_lt h ha)
  · exact Or.inr (Nat.eq_zero_of_dvd_of_lt h hb)
theorem prime_gcd {q a : Nat} (hq : Prime q) (ha : a < q) (h0 : a ≠ 0) : Nat.gcd a q = 1 := hq.cop (by omega) ha
/-! ### Newton -/
structure NewtonAt (q : Nat) (a b : List Nat) (k : Nat) (u v : List Nat) : Prop where
  val : ∀ j, j < k → evN q (a.getD j 0) u = b.getD j 0
  zero : ∀ j, j < k → evN q (a.getD j 0) v = 0
  only : ∀ x, x < q → evN q x v = 0 → ∃ j, j < k ∧ a.getD j 0 = x
  last : ∀ (h : 0 < u.length), u[u.length - 1] ≠ 0
theorem ItR_at {q : Nat} (hq : Prime q) {a b : List Nat} (ha : ∀ c ∈ a, c < q) (hb : ∀ c ∈ b, c < q) : ∀ k u v, ItR q a b k u v → NewtonAt q a b k u v
  | 0, u, v, h => by
    have q1 := hq.1
    obtain ⟨rfl, rfl⟩ := h
    refine ⟨fun j hj => by omega, fun j hj => by omega, fun x hx h => ?_, fun h => by simp at h⟩
    rw [evN_one q x 1 (by omega)] at h; cases h
  | k + 1, u, v, h => by
    have q1 := hq.1
    have q0 : 0 < q := by omega
    obtain ⟨u0, v0, r, h1, hr, h3, rfl, rfl⟩ := h
    have ih := ItR_at hq ha hb k u0 v0 h1
    have ak := getD_lt q0 ha k
    have bk := getD_lt q0 hb k
    have ev0 : ∀ x, evN q x v0 < q := fun x => evN_lt q0 v0
    have eu0 : ∀ x, evN q x u0 < q := fun x => evN_lt q0 u0
    have vv : ∀ x, evN q x (trimN (mulL q v0 [(0 + (q - a.getD k 0)) % q, 1])) = evN q x v0 * ((x + (q - a.getD k 0)) % q) % q := fun x => by
      rw [ev_product, evN_lin q1 (by omega)]
    generalize hc : ((b.getD k 0 + (q - evN q (a.getD k 0) u0)) % q) * r % q = c at *
    have cq : c < q := by rw [← hc]; exact Nat.mod_lt _ q0
    have uu : ∀ x, evN q x (trimN (addL q u0 (trimN (mulL q [c] v0)))) = (evN q x u0 + c * evN q x v0 % q) % q := fun x => by
      rw [ev_sum, ev_product, evN_one q x c cq]
    refine ⟨fun j hj => ?_, fun j hj => ?_, fun x hx h => ?_, trim_last⟩
    · rw [uu]
      by_cases e : j = k
      · subst e
        have hk : c * evN q (a.getD j 0) v0 % q = (b.getD j 0 + (q - evN q (a.getD j 0) u0)) % q := by
          rw [← hc]
          have h4 : (b.getD j 0 + (q - evN q (a.getD j 0) u0)) % q * r % q * evN q (a.getD j 0) v0 % q = (b.getD j 0 + (q - evN q (a.getD j 0) u0)) % q * (evN q (a.getD j 0) v0 * r % q) % q := by
            rw [Nat.mod_mul_mod, Nat.mul_mod_mod, Nat.mul_assoc, Nat.mul_comm r]
          rw [h4, h3, Nat.mod_eq_of_lt (show 1 < q by omega), Nat.mul_one, Nat.mod_mod]
        rw [hk, Nat.add_mod_mod, show evN q (a.getD j 0) u0 + (b.getD j 0 + (q - evN q (a.getD j 0) u0)) = b.getD j 0 + q by have := eu0 (a.getD j 0); omega, Nat.add_mod_right, Nat.mod_eq_of_lt bk]
      · rw [ih.zero j (by omega), Nat.mul_zero, Nat.zero_mod, Nat.add_zero, ih.val j (by omega), Nat.mod_eq_of_lt (getD_lt q0 hb j)]
    · rw [vv]
      by_cases e : j = k
      · subst e
        rw [(lin_zero ak ak).2 rfl, Nat.mul_zero, Nat.zero_mod]
      · rw [ih.zero j (by omega), Nat.zero_mul, Nat.zero_mod]
    · rw [vv] at h
      rcases prime_zero hq (ev0 x) (Nat.mod_lt _ q0) h with h | h
      · obtain ⟨j, hj, e⟩ := ih.only x hx h
        exact ⟨j, by omega, e⟩
      · exact ⟨k, by omega, ((lin_zero hx ak).1 h).symm⟩
theorem nodup_getD {l : List Nat} (h : l.Nodup) {i j : Nat} (hi : i < l.length) (hj : j < l.length) (e : l.getD i 0 = l.getD j 0) : i = j := by
  rw [getD_elem hi, getD_elem hj] at e
  exact (List.getElem_inj h).1 e
theorem mem_getD {l : List Nat} {i : Nat} (hi : i < l.length) : l.getD i 0 ∈ l := by rw [getD_elem hi]; exact List.getElem_mem hi
/-- the inverses that Newton's way takes are there -/
theorem ItR_gcd {q : Nat} (hq : Prime q) {a b : List Nat} (ha : ∀ c ∈ a, c < q) (hb : ∀ c ∈ b, c < q) (hd : a.Nodup) : ∀ k u v, k < a.length → ItR q a b k u v → Nat.gcd (evN q (a.getD k 0) v) q = 1 := by
  intro k u v hk h
  have q0 : 0 < q := by have := hq.1; omega
  refine prime_gcd hq (evN_lt q0 v) (fun h0 => ?_)
  obtain ⟨j, hj, e⟩ := (ItR_at hq ha hb k u v h).only _ (getD_lt q0 ha k) h0
  have := nodup_getD hd (by omega) hk e
  omega
theorem mem_ix {l : List Nat} {x : Nat} (h : x ∈ l) : ∃ i, i < l.length ∧ l.getD i 0 = x := by
  obtain ⟨i, hi, e⟩ := List.getElem_of_mem h
  exact ⟨i, hi, by rw [getD_elem hi]; exact e⟩
/-- the polynomial comes back from its values -/
theorem ItR_back {q : Nat} (hq : Prime q) {a b f u v : List Nat} (ha : ∀ c ∈ a, c < q) (hb : ∀ c ∈ b, c < q) (hd : a.Nodup) (hf : ∀ c ∈ f, c < q) (hfl : f.length ≤ a.length) (hlast : ∀ (h : 0 < f.length), f[f.length - 1] ≠ 0)
    (hv : ∀ i, i < a.length → b.getD i 0 = evN q (a.getD i 0) f) (h : ItR q a b a.length u v) : u = f := by
  have q1 := hq.1
  have N := ItR_at hq ha hb _ _ _ h
  obtain ⟨⟨ul, -⟩, uq, -⟩ := ItR_len (by omega) h
  refine list_uniq N.last hlast (pv_uniq hq ul hfl uq hf a hd (fun x hx => ⟨ha x hx, ?_⟩) (Nat.le_refl _))
  obtain ⟨i, hi, rfl⟩ := mem_ix hx
  rw [N.val i hi, hv i hi]
/-! ### Lagrange -/
theorem wM_zero {q : Nat} (hq : Prime q) {l : List Nat} (hl : ∀ c ∈ l, c < q) {x i : Nat} (hx : x < q) : ∀ k, k ≤ l.length → (wM q x l i k = 0 ↔ ∃ j, j < k ∧ j ≠ i ∧ l.getD j 0 = x)
  | 0, _ => by
    have q1 := hq.1
    constructor
    · intro h
      have h : 1 % q = 0 := h
      rw [Nat.mod_eq_of_lt (by omega)] at h; cases h
    · rintro ⟨j, hj, _⟩; omega
  | k + 1, hk => by
    have q0 : 0 < q := by have := hq.1; omega
    have ih := wM_zero hq hl (i := i) hx k (by omega)
    have lk := getD_lt q0 hl k
    by_cases e : k = i
    · rw [wM_same e, ih]
      constructor
      · rintro ⟨j, h1, h2, h3⟩; exact ⟨j, by omega, h2, h3⟩
      · rintro ⟨j, h1, h2, h3⟩; exact ⟨j, by omega, h2, h3⟩
    · have e2 : wM q x l i (k + 1) = wM q x l i k * ((x + (q - l.getD k 0)) % q) % q := by
        show (if k = i then _ else _) = _
        rw [if_neg e]
      rw [e2]
      constructor
      · intro h
        rcases prime_zero hq (wM_lt q0 x l i k) (Nat.mod_lt _ q0) h with h | h
        · obtain ⟨j, h1, h2, h3⟩ := ih.1 h; exact ⟨j, by omega, h2, h3⟩
        · exact ⟨k, by omega, e, ((lin_zero hx lk).1 h).symm⟩
      · rintro ⟨j, h1, h2, h3⟩
        by_cases ej : j = k
        · subst ej
          rw [(lin_zero hx lk).2 h3.symm, Nat.mul_zero, Nat.zero_mod]
        · rw [ih.2 ⟨j, by omega, h2, h3⟩, Nat.zero_mul, Nat.zero_mod]
/-- the inverses that the weights take are there -/
theorem wM_gcd {q : Nat} (hq : Prime q) {l : List Nat} (hl : ∀ c ∈ l, c < q) (hd : l.Nodup) : ∀ i, i < l.length → Nat.gcd (wM q (l.getD i 0) l i l.length) q = 1 := by
  intro i hi
  have q0 : 0 < q := by have := hq.1; omega
  refine prime_gcd hq (wM_lt q0 _ l i _) (fun h => ?_)
  obtain ⟨j, h1, h2, h3⟩ := (wM_zero hq hl (getD_lt q0 hl i) _ (Nat.le_refl _)).1 h
  exact h2 (nodup_getD hd h1 hi h3)
/-- the product as a polynomial -/
theorem wM_poly {q : Nat} (hq : 1 < q) (l : List Nat) (hl : ∀ c ∈ l, c < q) (i : Nat) : ∀ k, ∃ L : List Nat, L.length ≤ (if i < k then k else k + 1) ∧ (∀ c ∈ L, c < q) ∧ ∀ x, evN q x L = wM q x l i k
  | 0 => ⟨[1 % q], by simp, fun c hc => by rw [List.mem_singleton.1 hc]; exact Nat.mod_lt _ (by omega), fun x => evN_one q x _ (Nat.mod_lt _ (by omega))⟩
  | k + 1 => by
    obtain ⟨L, l1, l2, l3⟩ := wM_poly hq l hl i k
    by_cases e : k = i
    · refine ⟨L, ?_, l2, fun x => by rw [wM_same e]; exact l3 x⟩
      rw [if_neg (by omega)] at l1
      rw [if_pos (by omega)]; exact l1
    · refine ⟨mulL q L [(0 + (q - l.getD k 0)) % q, 1], ?_, mulL_lt (by omega) _ _, fun x => ?_⟩
      · have := mulL_le q L [(0 + (q - l.getD k 0)) % q, 1]
        simp only [List.length_cons, List.length_nil] at this
        by_cases h : i < k
        · rw [if_pos h] at l1
          rw [if_pos (by omega)]; omega
        · rw [if_neg h] at l1
          rw [if_neg (by omega)]; omega
      · have e2 : wM q x l i (k + 1) = wM q x l i k * ((x + (q - l.getD k 0)) % q) % q := by
          show (if k = i then _ else _) = _
          rw [if_neg e]
        have lk := getD_lt (show 0 < q by omega) hl k
        rw [e2, ← l3 x, ev_mulL, evN_lin hq (Nat.le_of_lt lk)]
/-- the sum of the products of weights and values -/
def lagS (q : Nat) (o b : List Nat) : Nat → Nat
  | 0 => 0
  | k + 1 => (lagS q o b k + o.getD k 0 * b.getD k 0 % q) % q
theorem lagS_lt {q : Nat} (hq : 0 < q) (o b : List Nat) : ∀ k, lagS q o b k < q
  | 0 => hq
  | k + 1 => Nat.mod_lt _ hq
/-- a polynomial whose values are the sums for weights at x -/
theorem lag_poly {q : Nat} (hq : 1 < q) (l b : List Nat) (hl : ∀ c ∈ l, c < q) (R : Nat → Nat) : ∀ k, k ≤ l.length → ∃ L : List Nat, L.length ≤ l.length ∧ (∀ c ∈ L, c < q) ∧ ∀ x o, (∀ i, i < k → o.getD i 0 = wM q x l i l.length * R i % q) → evN q x L = lagS q o b k
  | 0, _ => ⟨[], by simp, by simp, fun x o _ => rfl⟩
  | k + 1, hk => by
    obtain ⟨L, l1, l2, l3⟩ := lag_poly hq l b hl R k (by omega)
    obtain ⟨B, b1, b2, b3⟩ := wM_poly hq l hl k l.length
    rw [if_pos (by omega)] at b1
    refine ⟨addL q L (mulL q [R k * b.getD k 0 % q] B), ?_, addL_lt (by omega) _ _, fun x o ho => ?_⟩
    · have := mulL_le q [R k * b.getD k 0 % q] B
      simp only [List.length_singleton] at this
      rw [addL_len]; omega
    · have e1 : evN q x (addL q L (mulL q [R k * b.getD k 0 % q] B)) = (evN q x L + R k * b.getD k 0 % q * evN q x B % q) % q := by
        rw [Pv.evN_pv, Pv.evN_pv q x L, Pv.evN_pv q x B]
        refine (Pv.pv_add q x _ _).trans (Pv.Cg.add Pv.Cg.mod.symm ((Pv.pv_mul q x _ _).trans ?_))
        refine Pv.Cg.symm (Pv.Cg.mod.trans (Pv.Cg.mul ?_ Pv.Cg.mod))
        show Pv.Cg q _ (R k * b.getD k 0 % q + x * 0)
        rw [Nat.mul_zero, Nat.add_zero]; exact Pv.Cg.refl
      rw [e1, l3 x o (fun i hi => ho i (by omega)), b3 x]
      show _ = (lagS q o b k + o.getD k 0 * b.getD k 0 % q) % q
      rw [ho k (by omega)]
      congr 2
      rw [Nat.mod_mul_mod, Nat.mod_mul_mod]
      congr 1; grind
/-- the weights of a place -/
theorem WR_node {q : Nat} (hq : Prime q) {l : List Nat} (hl : ∀ c ∈ l, c < q) (hd : l.Nodup) {i m v : Nat} (hi : i < l.length) (hm : m < l.length) (h : WR q (l.getD m 0) l i v) : v = if i = m then 1 else 0 := by
  have q1 := hq.1
  obtain ⟨r, hr, h1, rfl⟩ := h
  by_cases e : i = m
  · subst e
    rw [if_pos rfl, h1, Nat.mod_eq_of_lt (by omega)]
  · rw [if_neg e, (wM_zero hq hl (getD_lt (by omega) hl m) _ (Nat.le_refl _)).2 ⟨m, hm, fun h => e h.symm, rfl⟩, Nat.zero_mul, Nat.zero_mod]
/-- Lagrange: the value of the interpolated polynomial -/
theorem lagrange {q : Nat} (hq : Prime q) {l b u v o : List Nat} {x : Nat} (hx : x < q) (hl : ∀ c ∈ l, c < q) (hb : ∀ c ∈ b, c < q) (hd : l.Nodup) (hlb : l.length = b.length)
    (hI : ItR q l b l.length u v) (ho : ∀ i, i < l.length → WR q x l i (o.getD i 0)) : evN q x u = lagS q o b l.length := by
  have q1 := hq.1
  have N := ItR_at hq hl hb _ _ _ hI
  obtain ⟨⟨ul, -⟩, uq, -⟩ := ItR_len (by omega) hI
  -- one inverse for each place
  obtain ⟨R, hR⟩ : ∃ R : Nat → Nat, ∀ i, i < l.length → R i < q ∧ wM q (l.getD i 0) l i l.length * R i % q = 1 % q := by
    refine ⟨fun i => if h : i < l.length then (Classical.choose (ho i h)) else 0, fun i hi => ?_⟩
    simp only [hi, dif_pos]
    exact ⟨(Classical.choose_spec (ho i hi)).1, (Classical.choose_spec (ho i hi)).2.1⟩
  obtain ⟨L, l1, l2, l3⟩ := lag_poly q1 l b hl R l.length (Nat.le_refl _)
  -- inverses are unique
  have hu : ∀ i, i < l.length → ∀ r, r < q → wM q (l.getD i 0) l i l.length * r % q = 1 % q → r = R i := by
    intro i hi r hr h1
    obtain ⟨h2, h3⟩ := hR i hi
    have : r * (wM q (l.getD i 0) l i l.length * R i) % q = R i * (wM q (l.getD i 0) l i l.length * r) % q := by congr 1; grind
    rw [Nat.mul_mod, h3, Nat.mul_mod (R i), h1, ← Nat.mul_mod, ← Nat.mul_mod, Nat.mul_one, Nat.mul_one, Nat.mod_eq_of_lt hr, Nat.mod_eq_of_lt h2] at this
    exact this
  have e1 : ∀ i, i < l.length → o.getD i 0 = wM q x l i l.length * R i % q := by
    intro i hi
    obtain ⟨r, hr, h1, h2⟩ := ho i hi
    rw [h2, hu i hi r hr h1]
  have eq := pv_uniq hq ul l1 uq l2 l hd (fun z hz => by
    obtain ⟨m, hm, rfl⟩ := mem_ix hz
    refine ⟨hl _ hz, ?_⟩
    rw [N.val m hm]
    have hD := fun i (hi : i < l.length) => getD_map_range l.length (fun i => if i = m then 1 else 0) hi
    generalize (List.range l.length).map (fun i => if i = m then 1 else 0) = D at hD
    rw [l3 (l.getD m 0) D (fun i hi => by
      rw [hD i hi]
      exact (WR_node hq hl hd hi hm ⟨R i, (hR i hi).1, (hR i hi).2, rfl⟩).symm)]
    have bq := getD_lt (show 0 < q by omega) hb
    have : ∀ k, k ≤ l.length → lagS q D b k = if m < k then b.getD m 0 else 0 := by
      intro k
      induction k with
      | zero => intro _; rfl
      | succ k ih =>
        intro hk
        have e0 : lagS q D b (k + 1) = (lagS q D b k + D.getD k 0 * b.getD k 0 % q) % q := rfl
        rw [e0, ih (by omega), hD k (by omega)]
        by_cases e : k = m
        · subst e
          rw [if_neg (by omega), if_pos rfl, if_pos (by omega), Nat.one_mul, Nat.zero_add, Nat.mod_mod, Nat.mod_eq_of_lt (bq k)]
        · rw [if_neg e, Nat.zero_mul, Nat.zero_mod, Nat.add_zero]
          by_cases h : m < k
          · rw [if_pos h, if_pos (by omega), Nat.mod_eq_of_lt (bq m)]
          · rw [if_neg h, if_neg (by omega), Nat.zero_mod]
    rw [this _ (Nat.le_refl _), if_pos hm]) (Nat.le_refl _)
  rw [← l3 x o e1, Pv.evN_pv, Pv.evN_pv, ← Pv.sm_all x u _ ul, ← Pv.sm_all x L _ l1]
  congr 2
  funext i
  exact eq i
end Go.Proofs.YteipbcpnnojclaaDoor
