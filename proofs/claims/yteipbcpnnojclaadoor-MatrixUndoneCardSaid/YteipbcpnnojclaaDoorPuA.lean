/- Merged: PtA, PtB, PtC, PtD, PtE, PtF. -/
import Derived.Test.YteipbcpnnojclaaDoorQuad
import Derived.Test.YteipbcpnnojclaaDoorPriM
/- The strong test below 2^61, plain: powers, the twos in an order, the levels of a strong pseudoprime, roots of x^g = 1. -/
namespace Go.Proofs.YteipbcpnnojclaaDoor
set_option linter.unusedVariables false
namespace Pt
open QuadMath (Prime)
open WordMath (J)
/-! ### primes -/
theorem prime_dvd_mul {p x y : Nat} (hp : Prime p) (h : p ∣ x * y) : p ∣ x ∨ p ∣ y := by
  by_cases hx : p ∣ x
  · exact Or.inl hx
  right
  have hg : Nat.gcd x p = 1 := by
    rcases hp.2 (Nat.gcd x p) (Nat.gcd_dvd_right x p) with e | e
    · exact e
    · exact absurd (e ▸ Nat.gcd_dvd_left x p) hx
  exact Nat.Coprime.dvd_of_dvd_mul_left (Nat.Coprime.symm hg) h
theorem prime_dvd_pow {p x : Nat} (hp : Prime p) : ∀ {k : Nat}, p ∣ x ^ k → p ∣ x
  | 0, h => by have := Nat.le_of_dvd (by simp) h; have := hp.1; simp at *; omega
  | k + 1, h => by
    rw [Nat.pow_succ] at h
    rcases prime_dvd_mul hp h with h | h
    · exact prime_dvd_pow hp h
    · exact h
theorem has_prime : ∀ n, 2 ≤ n → ∃ d, Prime d ∧ d ∣ n := by
  intro n
  induction n using Nat.strongRecOn with
  | _ n ih =>
    intro h2
    by_cases hp : Prime n
    · exact ⟨n, hp, Nat.dvd_refl n⟩
    have : ∃ d, d ∣ n ∧ d ≠ 1 ∧ d ≠ n := by
      apply Classical.byContradiction
      intro hc
      refine hp ⟨h2, fun d hd => ?_⟩
      apply Classical.byContradiction
      intro hn
      exact hc ⟨d, hd, fun e => hn (Or.inl e), fun e => hn (Or.inr e)⟩
    obtain ⟨d, hd, h1, hn⟩ := this
    have hle := Nat.le_of_dvd (by omega) hd
    have h0 : d ≠ 0 := by rintro rfl; have := Nat.eq_zero_of_zero_dvd hd; omega
    obtain ⟨q, hq, hqd⟩ := ih d (by omega) (by omega)
    exact ⟨q, hq, Nat.dvd_trans hqd hd⟩
/-- the least prime factor -/
theorem least_prime {n : Nat} (h2 : 2 ≤ n) : ∃ d, Prime d ∧ d ∣ n ∧ ∀ q, Prime q → q ∣ n → d ≤ q := by
  have : ∀ k, (∃ d, Prime d ∧ d ∣ n ∧ d ≤ k) → ∃ d, Prime d ∧ d ∣ n ∧ ∀ q, Prime q → q ∣ n → d ≤ q := by
    intro k
    induction k with
    | zero => rintro ⟨d, hd, _, h⟩; have := hd.1; omega
    | succ k ih =>
      rintro ⟨d, hd, hdn, h⟩
      by_cases hk : ∃ d, Prime d ∧ d ∣ n ∧ d ≤ k
      · exact ih hk
      · refine ⟨d, hd, hdn, fun q hq hqn => ?_⟩
        apply Classical.byContradiction
        intro hlt
        exact hk ⟨q, hq, hqn, by omega⟩
  obtain ⟨d, hd, hdn⟩ := has_prime n h2
  exact this d ⟨d, hd, hdn, Nat.le_refl d⟩
/-! ### powers -/
theorem pow_mul_one {a x p : Nat} (y : Nat) (hp : 1 < p) (h : a ^ x % p = 1) : a ^ (x * y) % p = 1 := by
  rw [Nat.pow_mul, Nat.pow_mod, h, Nat.one_pow, Nat.mod_eq_of_lt hp]
theorem pow_dvd_one {a x y p : Nat} (hp : 1 < p) (h : a ^ x % p = 1) (hd : x ∣ y) : a ^ y % p = 1 := by
  obtain ⟨z, rfl⟩ := hd; exact pow_mul_one z hp h
theorem pow_add_one {a x y p : Nat} (hp : 1 < p) (h : a ^ x % p = 1) : a ^ (x + y) % p = a ^ y % p := by
  rw [Nat.pow_add, Nat.mul_mod, h, Nat.one_mul, Nat.mod_mod]
theorem pow_gcd {a p : Nat} (hp : 1 < p) (x y : Nat) : a ^ x % p = 1 → a ^ y % p = 1 → a ^ Nat.gcd x y % p = 1 := by
  induction x, y using Nat.gcd.induction with
  | H0 y => intro _ h; rw [Nat.gcd_zero_left]; exact h
  | H1 x y hx ih =>
    intro h1 h2
    rw [Nat.gcd_rec]
    refine ih ?_ h1
    have := Nat.div_add_mod y x
    rw [← this, pow_add_one hp (pow_mul_one _ hp h1)] at h2
    exact h2
theorem mod_dvd_one {x p n : Nat} (hp : 1 < p) (hd : p ∣ n) (h : x % n = 1) : x % p = 1 := by
  obtain ⟨m, rfl⟩ := hd
  rw [← Nat.mod_mul_right_mod x p m, h, Nat.mod_eq_of_lt hp]
theorem pred_sq {n : Nat} (hn : 2 ≤ n) : (n - 1) * (n - 1) % n = 1 := by
  obtain ⟨k, rfl⟩ : ∃ k, n = k + 2 := ⟨n - 2, by omega⟩
  have : (k + 2 - 1) * (k + 2 - 1) = 1 + (k + 2) * k := by
    rw [show k + 2 - 1 = k + 1 by omega]; grind
  rw [this, Nat.add_mul_mod_self_left, Nat.mod_eq_of_lt (by omega)]
/-- Euler's criterion, for the sign 1 -/
theorem J_one {p a : Nat} (hp : Prime p) (ho : p % 2 = 1) (h0 : 0 < a) (ha : a < p) : (J a p = 1 ∨ J a p = -1) ∧ (J a p = 1 ↔ a ^ ((p - 1) / 2) % p = 1) := by
  have h2 := hp.1
  have e := QuadMath.euler hp ho ha
  have hg : Nat.Coprime a p := hp.cop (by omega) ha
  have hJ : J a p = 1 ∨ J a p = -1 := by rw [(QuadMath.J_eq a p ho).1 hg]; exact QuadMath.G_cases a p
  refine ⟨hJ, ?_⟩
  rcases hJ with h | h
  · rw [h] at e ⊢
    rw [Int.emod_eq_of_lt (by omega) (by omega)] at e
    simp; omega
  · rw [h] at e ⊢
    rw [show (-1 : Int) % (p : Int) = (-1 + (p : Int)) % (p : Int) by rw [Int.add_emod_right], Int.emod_eq_of_lt (by omega) (by omega)] at e
    simp; omega
theorem fermat {p a : Nat} (hp : Prime p) (ho : p % 2 = 1) (h0 : 0 < a) (ha : a < p) : a ^ (p - 1) % p = 1 := by
  have h2 := hp.1
  have e := QuadMath.euler hp ho ha
  have hg : Nat.Coprime a p := hp.cop (by omega) ha
  have hy : a ^ ((p - 1) / 2) % p = 1 ∨ a ^ ((p - 1) / 2) % p = p - 1 := by
    rcases (J_one hp ho h0 ha).1 with h | h
    · exact Or.inl ((J_one hp ho h0 ha).2.1 h)
    · right
      rw [h, show (-1 : Int) % (p : Int) = (-1 + (p : Int)) % (p : Int) by rw [Int.add_emod_right], Int.emod_eq_of_lt (by omega) (by omega)] at e
      omega
  have hs : a ^ (p - 1) % p = (a ^ ((p - 1) / 2) % p) * (a ^ ((p - 1) / 2) % p) % p := by
    rw [← Nat.mul_mod, ← Nat.pow_add, show (p - 1) / 2 + (p - 1) / 2 = p - 1 by omega]
  rw [hs]
  rcases hy with h | h <;> rw [h]
  · rw [Nat.one_mul, Nat.mod_eq_of_lt (by omega)]
  · exact pred_sq h2
/-- a power of two and an odd number among the exponents -/
theorem pow_two_odd {b p k e : Nat} (hp : 1 < p) (he : e % 2 = 1) (h1 : b ^ 2 ^ k % p = 1) (h2 : b ^ e % p = 1) : b % p = 1 := by
  have h := pow_gcd hp _ _ h1 h2
  have : Nat.gcd (2 ^ k) e = 1 := Nat.Coprime.pow_left k (by
    show Nat.gcd 2 e = 1
    rw [Nat.gcd_rec, he]; rfl)
  rw [this, Nat.pow_one] at h
  exact h
/-! ### the levels of a number that passes -/
/-- i0 is the level of a at each prime factor of n (d the odd part of n - 1) -/
def Lev (n d a i0 : Nat) : Prop := ∀ p, Prime p → p % 2 = 1 → p ∣ n → ∀ i, (a ^ (d * 2 ^ i) % p = 1 ↔ i0 ≤ i)
theorem lev_zero {n d a : Nat} (h : a ^ d % n = 1) : Lev n d a 0 := by
  intro p hp _ hd i
  have h2 := hp.1
  exact ⟨fun _ => Nat.zero_le _, fun _ => pow_mul_one _ h2 (mod_dvd_one h2 hd h)⟩
theorem lev_succ {n d a j : Nat} (hn : 2 ≤ n) (h : a ^ (d * 2 ^ j) % n = n - 1) : Lev n d a (j + 1) := by
  intro p hp ho hd i
  have h2 := hp.1
  have hm : a ^ (d * 2 ^ j) % p = p - 1 := by
    obtain ⟨m, rfl⟩ := hd
    have hm0 : m ≠ 0 := by rintro rfl; simp at hn
    rw [← Nat.mod_mul_right_mod _ p m, h]
    obtain ⟨k, rfl⟩ : ∃ k, m = k + 1 := ⟨m - 1, by omega⟩
    rw [Nat.mul_add, Nat.mul_one, show p * k + p - 1 = p * k + (p - 1) by omega, Nat.mul_add_mod, Nat.mod_eq_of_lt (by omega)]
  constructor
  · intro h1
    apply Classical.byContradiction
    intro hlt
    have := pow_dvd_one h2 h1 (show d * 2 ^ i ∣ d * 2 ^ j from Nat.mul_dvd_mul_left _ (Nat.pow_dvd_pow 2 (by omega)))
    rw [hm] at this
    have : p ≠ 2 := by intro e; rw [e] at ho; cases ho
    omega
  · intro hle
    have h1 : a ^ (d * 2 ^ (j + 1)) % p = 1 := by
      rw [Nat.pow_succ, ← Nat.mul_assoc, Nat.mul_two, Nat.pow_add, Nat.mul_mod, hm]; exact pred_sq h2
    exact pow_dvd_one h2 h1 (Nat.mul_dvd_mul_left _ (Nat.pow_dvd_pow 2 hle))
theorem hits_level {n : Nat} : ∀ k x, Pri.hits n k x = true → ∃ j, j < k ∧ x ^ 2 ^ (j + 1) % n = n - 1
  | 0, x, h => by simp [Pri.hits] at h
  | k + 1, x, h => by
    unfold Pri.hits at h
    rcases (Bool.or_eq_true _ _).mp h with e | e
    · exact ⟨0, by omega, by rw [Nat.pow_one, Nat.pow_two]; exact eq_of_beq e⟩
    · obtain ⟨j, hj, e2⟩ := hits_level k _ e
      refine ⟨j + 1, by omega, ?_⟩
      rw [← Nat.pow_mod, ← Nat.pow_two, ← Nat.pow_mul] at e2
      rw [show 2 ^ (j + 1 + 1) = 2 * 2 ^ (j + 1) by rw [Nat.pow_succ, Nat.mul_comm]]
      exact e2
theorem lev_strong {n a : Nat} (hn : 2 ≤ n) (h : Pri.strong n a = true) : ∃ i0, Lev n (Pri.od (n - 1)) a i0 := by
  unfold Pri.strong at h
  rcases (Bool.or_eq_true _ _).mp h with e | e
  · exact ⟨0, lev_zero (eq_of_beq e)⟩
  rcases (Bool.or_eq_true _ _).mp e with e | e
  · exact ⟨1, lev_succ (j := 0) hn (by rw [Nat.pow_zero, Nat.mul_one]; exact eq_of_beq e)⟩
  · obtain ⟨j, _, e⟩ := hits_level _ _ e
    exact ⟨j + 2, lev_succ (j := j + 1) hn (by rw [Nat.pow_mul, Nat.pow_mod]; exact e)⟩
theorem strong_fermat {n a : Nat} (hn : 2 ≤ n) (ho : n % 2 = 1) (h64 : n < 2 ^ 64) (h : Pri.strong n a = true) : a ^ (n - 1) % n = 1 := by
  obtain ⟨t1, -⟩ := Pri.tz_spec (n := n - 1) (by omega) (by omega)
  have key : ∀ j, j + 1 ≤ Pri.tz (n - 1) → a ^ (Pri.od (n - 1) * 2 ^ j) % n = n - 1 → a ^ (n - 1) % n = 1 := by
    intro j hj e
    have h1 : a ^ (Pri.od (n - 1) * 2 ^ (j + 1)) % n = 1 := by
      rw [Nat.pow_succ, ← Nat.mul_assoc, Nat.mul_two, Nat.pow_add, Nat.mul_mod, e]; exact pred_sq hn
    rw [t1]
    exact pow_dvd_one (by omega) h1 (Nat.mul_dvd_mul_left _ (Nat.pow_dvd_pow 2 hj))
  have tp : 1 ≤ Pri.tz (n - 1) := by
    apply Classical.byContradiction
    intro hc
    rw [show Pri.tz (n - 1) = 0 by omega, Nat.pow_zero, Nat.mul_one] at t1
    have := (Pri.tz_spec (n := n - 1) (by omega) (by omega)).2
    omega
  unfold Pri.strong at h
  rcases (Bool.or_eq_true _ _).mp h with e | e
  · rw [t1]; exact pow_mul_one _ (by omega) (eq_of_beq e)
  rcases (Bool.or_eq_true _ _).mp e with e | e
  · exact key 0 tp (by rw [Nat.pow_zero, Nat.mul_one]; exact eq_of_beq e)
  · obtain ⟨j, hj, e⟩ := hits_level _ _ e
    exact key (j + 1) (by omega) (by rw [Nat.pow_mul, Nat.pow_mod]; exact e)
/-- the level against the twos in p - 1, and the symbol -/
theorem lev_symbol {n a i0 p : Nat} (hn : 2 ≤ n) (no : n % 2 = 1) (h64 : n < 2 ^ 64) (hs : Pri.strong n a = true) (hl : Lev n (Pri.od (n - 1)) a i0)
    (hp : Prime p) (ho : p % 2 = 1) (hd : p ∣ n) (h0 : 0 < a) (ha : a < p) :
    i0 ≤ Pri.tz (p - 1) ∧ (J a p = 1 ↔ i0 + 1 ≤ Pri.tz (p - 1)) := by
  have h2 := hp.1
  have hle := Nat.le_of_dvd (by omega) hd
  obtain ⟨tn, dn⟩ := Pri.tz_spec (n := n - 1) (by omega) (by omega)
  obtain ⟨tp, dp⟩ := Pri.tz_spec (n := p - 1) (by omega) (by omega)
  have hf := fermat hp ho h0 ha
  have hn1 := mod_dvd_one h2 hd (strong_fermat hn no h64 hs)
  have L := hl p hp ho hd
  generalize Pri.od (n - 1) = d at *
  generalize Pri.tz (n - 1) = t at *
  generalize Pri.od (p - 1) = e at *
  generalize Pri.tz (p - 1) = s at *
  have hi0 : i0 ≤ t := (L t).1 (by rw [← tn]; exact hn1)
  have up : ∀ s', a ^ (e * 2 ^ s') % p = 1 → i0 ≤ s' := by
    intro s' he
    by_cases hts : t ≤ s'
    · omega
    refine (L s').1 (pow_two_odd (k := t - s') (e := e) h2 dp ?_ ?_)
    · rw [← Nat.pow_mul, Nat.mul_assoc, ← Nat.pow_add, show s' + (t - s') = t by omega, ← tn]; exact hn1
    · rw [← Nat.pow_mul, show d * 2 ^ s' * e = e * 2 ^ s' * d by grind]; exact pow_mul_one _ h2 he
  refine ⟨up s (by rw [← tp]; exact hf), ?_⟩
  have hs1 : s ≠ 0 := by
    rintro rfl
    rw [Nat.pow_zero, Nat.mul_one] at tp; omega
  obtain ⟨s', rfl⟩ : ∃ s', s = s' + 1 := ⟨s - 1, by omega⟩
  have hh : (p - 1) / 2 = e * 2 ^ s' := by
    rw [tp, Nat.pow_succ, ← Nat.mul_assoc, Nat.mul_div_cancel _ (by omega)]
  rw [(J_one hp ho h0 ha).2, hh]
  constructor
  · intro h; have := up s' h; omega
  · intro h
    refine pow_two_odd (k := 1) (e := d) h2 dn ?_ ?_
    · rw [← Nat.pow_mul, Nat.mul_assoc, ← Nat.pow_succ, ← tp]; exact hf
    · rw [← Nat.pow_mul, show e * 2 ^ s' * d = d * 2 ^ s' * e by grind]
      exact pow_mul_one _ h2 ((L s').2 (by omega))
/-- the symbols of two prime factors -/
theorem symbols {n a p q : Nat} (hn : 2 ≤ n) (no : n % 2 = 1) (h64 : n < 2 ^ 64) (hs : Pri.strong n a = true)
    (hp : Prime p) (po : p % 2 = 1) (pd : p ∣ n) (hq : Prime q) (qo : q % 2 = 1) (qd : q ∣ n) (h0 : 0 < a) (ap : a < p) (aq : a < q) :
    (Pri.tz (p - 1) = Pri.tz (q - 1) → J a p = J a q) ∧ (Pri.tz (p - 1) < Pri.tz (q - 1) → J a q = 1) := by
  obtain ⟨i0, hl⟩ := lev_strong hn hs
  obtain ⟨p1, p2⟩ := lev_symbol hn no h64 hs hl hp po pd h0 ap
  obtain ⟨q1, q2⟩ := lev_symbol hn no h64 hs hl hq qo qd h0 aq
  refine ⟨fun e => ?_, fun e => q2.2 (by omega)⟩
  rcases (J_one hp po h0 ap).1 with a1 | a1 <;> rcases (J_one hq qo h0 aq).1 with a2 | a2 <;> rw [a1, a2]
  · exact absurd (q2.2 (by have := p2.1 a1; omega)) (by rw [a2]; decide)
  · exact absurd (p2.2 (by have := q2.1 a2; omega)) (by rw [a1]; decide)
/-- all bases are roots of x^g = 1 at each prime factor -/
theorem bases_root {n a p : Nat} (hn : 2 ≤ n) (no : n % 2 = 1) (h64 : n < 2 ^ 64) (hs : Pri.strong n a = true)
    (hp : Prime p) (po : p % 2 = 1) (pd : p ∣ n) (h0 : 0 < a) (ap : a < p) : a ^ Nat.gcd (p - 1) (n - 1) % p = 1 :=
  pow_gcd hp.1 _ _ (fermat hp po h0 ap) (mod_dvd_one hp.1 pd (strong_fermat hn no h64 hs))
end Pt
end Go.Proofs.YteipbcpnnojclaaDoor

/- The strong test below 2^61, plain: a polynomial has no more roots than its degree; fractions of smooth numbers are different roots of x^g = 1. -/
namespace Go.Proofs.YteipbcpnnojclaaDoor
set_option linter.unusedVariables false
namespace Pt
open QuadMath (Prime)
/-! ### polynomials, the lowest coefficient first -/
def ev : List Int → Int → Int
  | [], _ => 0
  | c :: l, y => c + y * ev l y
/-- the quotient by y - x -/
def dv : List Int → Int → List Int
  | [], _ => []
  | [_], _ => []
  | _ :: c :: l, x => ev (c :: l) x :: dv (c :: l) x
theorem ev_dv : ∀ (f : List Int) (x y : Int), ev f y - ev f x = (y - x) * ev (dv f x) y
  | [], x, y => by simp [ev, dv]
  | [c], x, y => by simp [ev, dv]
  | a :: c :: l, x, y => by
    have ih := ev_dv (c :: l) x y
    show a + y * ev (c :: l) y - (a + x * ev (c :: l) x) = (y - x) * (ev (c :: l) x + y * ev (dv (c :: l) x) y)
    generalize ev (c :: l) y = A at *
    generalize ev (c :: l) x = B at *
    generalize ev (dv (c :: l) x) y = C at *
    have : A = B + (y - x) * C := by omega
    rw [this]; grind
theorem dv_length : ∀ (f : List Int) (x : Int), (dv f x).length = f.length - 1
  | [], _ => rfl
  | [_], _ => rfl
  | _ :: c :: l, x => by
    have ih := dv_length (c :: l) x
    simp only [dv, List.length_cons] at *; omega
def lead : List Int → Int
  | [] => 0
  | [c] => c
  | _ :: c :: l => lead (c :: l)
theorem dv_lead : ∀ (f : List Int) (x : Int), 2 ≤ f.length → lead (dv f x) = lead f
  | [], _, h => by simp at h
  | [_], _, h => by simp at h
  | [_, c], x, _ => by simp [dv, lead, ev]
  | _ :: c :: d :: l, x, _ => by
    have ih := dv_lead (c :: d :: l) x (by simp)
    show lead (ev (c :: d :: l) x :: ev (d :: l) x :: dv (d :: l) x) = lead (c :: d :: l)
    rw [← ih]; rfl
/-- different residues that are roots: no more than the degree -/
theorem roots_le {p : Nat} (hp : Prime p) : ∀ (n : Nat) (f : List Int), f.length = n + 1 → ¬ (p : Int) ∣ lead f → ∀ X : List Nat, X.Nodup → (∀ x ∈ X, x < p ∧ (p : Int) ∣ ev f x) → X.length ≤ n
  | 0, f, hl, hd, X, _, hX => by
    match f, hl with
    | [c], _ =>
      cases X with
      | nil => simp
      | cons x X =>
        have := (hX x (by simp)).2
        simp [ev] at this
        exact absurd this hd
  | n + 1, f, hl, hd, X, hN, hX => by
    cases X with
    | nil => simp
    | cons x X =>
      have hN' := List.nodup_cons.1 hN
      have := roots_le hp n (dv f x) (by rw [dv_length, hl]; rfl) (by rw [dv_lead f x (by omega)]; exact hd) X hN'.2 (fun y hy => by
        obtain ⟨y1, y2⟩ := hX y (by simp [hy])
        obtain ⟨x1, x2⟩ := hX x (by simp)
        refine ⟨y1, ?_⟩
        have h1 : (p : Int) ∣ ((y : Int) - x) * ev (dv f x) y := by rw [← ev_dv]; exact Int.dvd_sub y2 x2
        have hne : x ≠ y := by rintro rfl; exact hN'.1 hy
        have h2 : p ∣ ((y : Int) - x).natAbs * (ev (dv f x) y).natAbs := by
          rw [← Int.natAbs_mul]; exact Int.ofNat_dvd_left.1 h1
        rcases prime_dvd_mul hp h2 with h | h
        · exfalso
          have := Nat.le_of_dvd (by omega) h
          omega
        · exact Int.ofNat_dvd_left.2 h)
      simp only [List.length_cons]; omega
theorem ev_zeros (y : Int) : ∀ k, ev (List.replicate k 0 ++ [1]) y = y ^ k
  | 0 => by simp [ev]
  | k + 1 => by
    rw [List.replicate_succ, List.cons_append]
    show 0 + y * ev (List.replicate k 0 ++ [1]) y = _
    rw [ev_zeros y k, Int.pow_succ, Int.zero_add, Int.mul_comm]
theorem lead_zeros : ∀ (c : Int) k, lead (c :: (List.replicate k 0 ++ [1])) = 1
  | c, 0 => rfl
  | c, k + 1 => by
    rw [List.replicate_succ, List.cons_append]
    exact lead_zeros 0 k
theorem unity_le {p g : Nat} (hp : Prime p) (hg : 0 < g) (X : List Nat) (hN : X.Nodup) (hX : ∀ x ∈ X, x < p ∧ x ^ g % p = 1) : X.length ≤ g := by
  obtain ⟨k, rfl⟩ : ∃ k, g = k + 1 := ⟨g - 1, by omega⟩
  refine roots_le hp (k + 1) (-1 :: (List.replicate k 0 ++ [1])) (by simp) (by
    rw [lead_zeros]
    intro h
    have := Int.le_of_dvd (by omega) h
    have := hp.1; omega) X hN (fun x hx => ?_)
  obtain ⟨h1, h2⟩ := hX x hx
  refine ⟨h1, ?_⟩
  show (p : Int) ∣ -1 + (x : Int) * ev (List.replicate k 0 ++ [1]) x
  rw [ev_zeros, Int.mul_comm, ← Int.pow_succ, Int.add_comm]
  have : ((x ^ (k + 1) % p : Nat) : Int) = 1 := by rw [h2]; rfl
  rw [Int.natCast_emod, Int.natCast_pow] at this
  exact WordMath.dvd_of_mod (b := 1) (by rw [this, Int.emod_eq_of_lt (by omega) (by have := hp.1; omega)])
/-! ### fractions -/
/-- the residue of the fraction u / v (v^E is 1) -/
def fr (M E u v : Nat) : Nat := u * v ^ (E - 1) % M
theorem cross {M E u v u' v' : Nat} (hM : 1 < M) (hE : 0 < E) (hv : v ^ E % M = 1) (hv' : v' ^ E % M = 1) :
    fr M E u v * (v * v') % M = u * v' % M := by
  have h1 : v ^ (E - 1) * v = v ^ E := by rw [← Nat.pow_succ]; congr 1; omega
  unfold fr
  rw [Nat.mod_mul_mod, show u * v ^ (E - 1) * (v * v') = v ^ (E - 1) * v * (u * v') by grind, h1, Nat.mul_mod, hv, Nat.one_mul, Nat.mod_mod]
/-- a pair of the list: coprime, small, both roots -/
def Good (M E : Nat) (t : Nat × Nat) : Prop := 0 < t.1 ∧ 0 < t.2 ∧ Nat.gcd t.1 t.2 = 1 ∧ t.1 * t.1 + t.2 * t.2 < M ∧ t.1 ^ E % M = 1 ∧ t.2 ^ E % M = 1
theorem cauchy {a b c d M : Nat} (h1 : a * a + b * b < M) (h2 : c * c + d * d < M) : a * d + c * b < M := by
  have h3 : 2 * (a * d) ≤ a * a + d * d := by
    rcases Nat.le_total a d with h | h
    · obtain ⟨k, rfl⟩ := Nat.le.dest h; grind
    · obtain ⟨k, rfl⟩ := Nat.le.dest h; grind
  have h4 : 2 * (c * b) ≤ c * c + b * b := by
    rcases Nat.le_total c b with h | h
    · obtain ⟨k, rfl⟩ := Nat.le.dest h; grind
    · obtain ⟨k, rfl⟩ := Nat.le.dest h; grind
  omega
theorem frac_eq {u v u' v' : Nat} (h0 : 0 < v) (h : u * v' = u' * v) (h1 : Nat.gcd u v = 1) (h2 : Nat.gcd u' v' = 1) : u = u' ∧ v = v' := by
  have d1 : u ∣ u' := by
    have : u ∣ u' * v := ⟨v', h.symm⟩
    exact Nat.Coprime.dvd_of_dvd_mul_right h1 this
  have d2 : u' ∣ u := by
    have : u' ∣ u * v' := ⟨v, h⟩
    exact Nat.Coprime.dvd_of_dvd_mul_right h2 this
  have e := Nat.dvd_antisymm d1 d2
  subst e
  refine ⟨rfl, ?_⟩
  by_cases hu : u = 0
  · subst hu
    rw [Nat.gcd_zero_left] at h1 h2; omega
  · exact (Nat.eq_of_mul_eq_mul_left (by omega) h).symm
theorem fr_inj {M E : Nat} {s t : Nat × Nat} (hM : 1 < M) (hE : 0 < E) (hs : Good M E s) (ht : Good M E t) (h : fr M E s.1 s.2 = fr M E t.1 t.2) : s = t := by
  obtain ⟨s1, s2, s3, s4, s5, s6⟩ := hs
  obtain ⟨t1, t2, t3, t4, t5, t6⟩ := ht
  have a := cross (u := s.1) (u' := t.1) hM hE s6 t6
  have b := cross (u := t.1) (u' := s.1) hM hE t6 s6
  rw [h, Nat.mul_comm s.2 t.2, b] at a
  have c := cauchy s4 t4
  have c2 := cauchy t4 s4
  rw [Nat.mod_eq_of_lt (by omega), Nat.mod_eq_of_lt (by omega)] at a
  obtain ⟨e1, e2⟩ := frac_eq s2 a.symm s3 t3
  exact Prod.ext e1 e2
theorem fr_neg {M E : Nat} {s t : Nat × Nat} (hM : 1 < M) (hE : 0 < E) (hs : Good M E s) (ht : Good M E t) (h : fr M E s.1 s.2 + fr M E t.1 t.2 = M) : False := by
  obtain ⟨s1, s2, s3, s4, s5, s6⟩ := hs
  obtain ⟨t1, t2, t3, t4, t5, t6⟩ := ht
  have a := cross (u := s.1) (u' := t.1) hM hE s6 t6
  have b := cross (u := t.1) (u' := s.1) hM hE t6 s6
  rw [Nat.mul_comm t.2 s.2] at b
  have c := cauchy s4 t4
  have : (fr M E s.1 s.2 * (s.2 * t.2) + fr M E t.1 t.2 * (s.2 * t.2)) % M = 0 := by
    rw [← Nat.add_mul, h, Nat.mul_mod_right]
  rw [Nat.add_mod, a, b, ← Nat.add_mod, Nat.mod_eq_of_lt (by omega)] at this
  have := Nat.mul_pos s1 t2
  omega
theorem fr_root {M E : Nat} {t : Nat × Nat} (hM : 1 < M) (ht : Good M E t) : fr M E t.1 t.2 ^ E % M = 1 := by
  obtain ⟨t1, t2, t3, t4, t5, t6⟩ := ht
  unfold fr
  rw [← Nat.pow_mod, Nat.mul_pow, Nat.mul_mod, t5, Nat.one_mul, ← Nat.pow_mul, Nat.mul_comm (E - 1), Nat.pow_mul, Nat.mod_mod, Nat.pow_mod, t6, Nat.one_pow, Nat.mod_eq_of_lt hM]
theorem neg_root {M E x : Nat} (hE : E % 2 = 0) (hx : x < M) (h : x ^ E % M = 1) : (M - x) ^ E % M = 1 := by
  have hsq : (M - x) * (M - x) % M = x * x % M := by
    obtain ⟨y, rfl⟩ := Nat.le.dest (Nat.le_of_lt hx)
    rw [Nat.add_sub_cancel_left]
    have : y * y + (x + y) * x = x * x + (x + y) * y := by grind
    have h2 := congrArg (· % (x + y)) this
    simpa using h2
  obtain ⟨k, rfl⟩ : ∃ k, E = 2 * k := ⟨E / 2, by omega⟩
  rw [Nat.pow_mul, Nat.pow_two, Nat.pow_mod, hsq, ← Nat.pow_mod, ← Nat.pow_two, ← Nat.pow_mul]
  exact h
/-- the residues of all fractions, with both signs -/
def resid (M E : Nat) (T : List (Nat × Nat)) : List Nat := T.map (fun t => fr M E t.1 t.2) ++ T.map (fun t => M - fr M E t.1 t.2)
theorem resid_ok {M E : Nat} {T : List (Nat × Nat)} (hM : 1 < M) (hE : 0 < E) (he : E % 2 = 0) (hN : T.Nodup) (hT : ∀ t ∈ T, Good M E t) :
    (resid M E T).Nodup ∧ (resid M E T).length = 2 * T.length ∧ ∀ x ∈ resid M E T, x < M ∧ x ^ E % M = 1 := by
  have lt : ∀ t : Nat × Nat, fr M E t.1 t.2 < M := fun t => Nat.mod_lt _ (by omega)
  have n0 : ∀ t ∈ T, fr M E t.1 t.2 ≠ 0 := by
    intro t ht h0
    have := fr_root hM (hT t ht)
    rw [h0, Nat.zero_pow hE, Nat.zero_mod] at this; cases this
  refine ⟨?_, by simp [resid]; omega, ?_⟩
  · refine List.nodup_append.2 ⟨?_, ?_, ?_⟩
    · exact List.pairwise_map.2 (hN.imp_of_mem (fun {s t} hs ht hne h => hne (fr_inj hM hE (hT s hs) (hT t ht) h)))
    · refine List.pairwise_map.2 (hN.imp_of_mem (fun {s t} hs ht hne h => hne (fr_inj hM hE (hT s hs) (hT t ht) ?_)))
      have := lt s; have := lt t; omega
    · intro a ha b hb hab
      obtain ⟨s, hs, rfl⟩ := List.mem_map.1 ha
      obtain ⟨t, ht, rfl⟩ := List.mem_map.1 hb
      refine fr_neg hM hE (hT s hs) (hT t ht) ?_
      have := lt t; omega
  · intro x hx
    rcases List.mem_append.1 hx with h | h
    · obtain ⟨t, ht, rfl⟩ := List.mem_map.1 h
      exact ⟨lt t, fr_root hM (hT t ht)⟩
    · obtain ⟨t, ht, rfl⟩ := List.mem_map.1 h
      have := n0 t ht; have := lt t
      exact ⟨by omega, neg_root he (lt t) (fr_root hM (hT t ht))⟩
/-- a list of fractions bounds the order from below -/
theorem order_ge {p g : Nat} {T : List (Nat × Nat)} (hp : Prime p) (hg : 0 < g) (he : g % 2 = 0) (hN : T.Nodup) (hT : ∀ t ∈ T, Good p g t) : 2 * T.length ≤ g := by
  obtain ⟨h1, h2, h3⟩ := resid_ok hp.1 hg he hN hT
  rw [← h2]
  exact unity_le hp hg _ h1 h3
/-! ### squares -/
theorem lift_one {p E x y : Nat} (hp : Prime p) (hE : ¬ p ∣ E) (h : x % p = y % p) (hx : x ^ E % (p * p) = 1) (hy : y ^ E % (p * p) = 1) (h1 : x < p * p) (h2 : y < p * p) : x = y := by
  have key : ∀ {x y : Nat}, x ≤ y → x % p = y % p → x ^ E % (p * p) = 1 → y ^ E % (p * p) = 1 → p * p ∣ y - x := by
    intro x y hxy h hx hy
    have h2 := hp.1
    obtain ⟨z, hz⟩ : ∃ z, y = x + p * z := by
      have : p ∣ y - x := Nat.dvd_of_mod_eq_zero (Nat.sub_mod_eq_zero_of_mod_eq h.symm)
      obtain ⟨z, hz⟩ := this
      exact ⟨z, by omega⟩
    subst hz
    have hbin : ∀ e, ∃ c, (x + p * z) ^ e = x ^ e + e * x ^ (e - 1) * (p * z) + p * p * c := by
      intro e
      induction e with
      | zero => exact ⟨0, by simp⟩
      | succ e ih =>
        obtain ⟨c, hc⟩ := ih
        cases e with
        | zero => exact ⟨0, by simp only [Nat.zero_add, Nat.pow_one, Nat.sub_self, Nat.pow_zero, Nat.mul_one, Nat.one_mul, Nat.mul_zero, Nat.add_zero]⟩
        | succ e =>
          refine ⟨c * (x + p * z) + (e + 1) * x ^ e * z * z, ?_⟩
          rw [Nat.pow_succ, hc]
          simp only [Nat.add_sub_cancel]
          rw [Nat.pow_succ x (e + 1)]
          have : x ^ (e + 1) = x ^ e * x := Nat.pow_succ ..
          rw [this]
          grind
    obtain ⟨c, hc⟩ := hbin E
    have hpp : 1 < p * p := by have := Nat.mul_le_mul h2 h2; omega
    have d1 : p * p ∣ E * x ^ (E - 1) * (p * z) := by
      have e1 : (x ^ E + E * x ^ (E - 1) * (p * z)) % (p * p) = x ^ E % (p * p) := by
        have hy2 := hy
        rw [hc, Nat.add_mul_mod_self_left] at hy2
        exact hy2.trans hx.symm
      have := Nat.sub_mod_eq_zero_of_mod_eq e1
      rw [Nat.add_sub_cancel_left] at this
      exact Nat.dvd_of_mod_eq_zero this
    have d2 : p ∣ E * x ^ (E - 1) * z := by
      rw [show E * x ^ (E - 1) * (p * z) = p * (E * x ^ (E - 1) * z) by grind] at d1
      exact Nat.dvd_of_mul_dvd_mul_left (by omega) d1
    rcases prime_dvd_mul hp d2 with d3 | d3
    · rcases prime_dvd_mul hp d3 with d4 | d4
      · exact absurd d4 hE
      · exfalso
        have d5 := prime_dvd_pow hp d4
        have hE0 : E ≠ 0 := by rintro rfl; exact hE (Nat.dvd_zero p)
        have : p ∣ x ^ E := Nat.dvd_trans d5 (by
          obtain ⟨k, rfl⟩ : ∃ k, E = k + 1 := ⟨E - 1, by omega⟩
          rw [Nat.pow_succ]; exact Nat.dvd_mul_left _ _)
        have e := mod_dvd_one h2 (Nat.dvd_mul_right p p) hx
        rw [Nat.mod_eq_zero_of_dvd this] at e; cases e
    · obtain ⟨k, rfl⟩ := d3
      rw [Nat.add_sub_cancel_left]
      exact ⟨k, by rw [Nat.mul_assoc]⟩
  rcases Nat.le_total x y with hxy | hxy
  · have := key hxy h hx hy
    rcases Nat.eq_or_lt_of_le hxy with e | e
    · exact e
    · have := Nat.le_of_dvd (by omega) this; omega
  · have := key hxy h.symm hy hx
    rcases Nat.eq_or_lt_of_le hxy with e | e
    · exact e.symm
    · have := Nat.le_of_dvd (by omega) this; omega
theorem nodup_below : ∀ (p : Nat) (X : List Nat), X.Nodup → (∀ x ∈ X, x < p) → X.length ≤ p
  | 0, X, _, hX => by
    cases X with
    | nil => simp
    | cons x X => exact absurd (hX x (by simp)) (by omega)
  | p + 1, X, hN, hX => by
    have ih := nodup_below p (X.erase p) (hN.erase p) (fun x hx => by
      have h1 := (List.Nodup.mem_erase_iff hN).1 hx
      have := hX x h1.2
      have := h1.1
      omega)
    rw [List.length_erase] at ih
    split at ih <;> omega
/-- a number that passes has no square of a prime as a factor -/
theorem square_le {p E : Nat} {T : List (Nat × Nat)} (hp : Prime p) (hE : ¬ p ∣ E) (h0 : 0 < E) (he : E % 2 = 0) (hN : T.Nodup) (hT : ∀ t ∈ T, Good (p * p) E t) : 2 * T.length ≤ p := by
  have h2 := hp.1
  have hpp : 1 < p * p := by have := Nat.mul_le_mul h2 h2; omega
  obtain ⟨h1, h3, h4⟩ := resid_ok hpp h0 he hN hT
  rw [← h3]
  have := nodup_below p ((resid (p * p) E T).map (· % p)) (List.pairwise_map.2 (h1.imp_of_mem (fun {x y} hx hy hne h => hne (lift_one hp hE h (h4 x hx).2 (h4 y hy).2 (h4 x hx).1 (h4 y hy).1)))) (fun x hx => by
    obtain ⟨y, _, rfl⟩ := List.mem_map.1 hx
    exact Nat.mod_lt _ (by omega))
  rw [List.length_map] at this
  exact this
end Pt
end Go.Proofs.YteipbcpnnojclaaDoor

/- The strong test below 2^61, plain: fractions of 37-smooth numbers, counted by rows of digits. -/
namespace Go.Proofs.YteipbcpnnojclaaDoor
set_option linter.unusedVariables false
namespace Pt
open QuadMath (Prime)
/-! ### the list of the fractions: the weight of the numerator is i, the weight of the denominator stands beside -/
abbrev Fr := Nat × Nat × Nat
/-- those with the prime a above, at least once -/
def ups (a w : Nat) (L : Nat → List Fr) : Nat → Nat → List Fr
  | 0, _ => []
  | f + 1, i => if w ≤ i then (L (i - w) ++ ups a w L f (i - w)).map (fun t => (t.1 * a, t.2.1, t.2.2)) else []
/-- those with the prime a below, from e times down to once -/
def downs (a w : Nat) (l : List Fr) : Nat → List Fr
  | 0 => []
  | e + 1 => l.map (fun t => (t.1, t.2.1 * a ^ (e + 1), t.2.2 + (e + 1) * w)) ++ downs a w l e
/-- all, for a list of primes with their weights; F: more than the weights that occur -/
def fracs (F : Nat) : List (Nat × Nat) → Nat → List Fr
  | [], i => if i = 0 then [(1, 1, 0)] else []
  | (a, w) :: l, i => fracs F l i ++ (ups a w (fracs F l) F i ++ downs a w (fracs F l i) F)
/-! ### what holds of them -/
/-- a number whose prime factors are in the list -/
def Smooth (P : List Nat) (n : Nat) : Prop := 0 < n ∧ ∀ q, Prime q → q ∣ n → q ∈ P
structure Is (s : Nat) (l : List (Nat × Nat)) (i : Nat) (t : Fr) : Prop where
  u : Smooth (l.map (·.1)) t.1
  v : Smooth (l.map (·.1)) t.2.1
  cop : Nat.gcd t.1 t.2.1 = 1
  wu : t.1 ^ s ≤ 2 ^ i
  wv : t.2.1 ^ s ≤ 2 ^ t.2.2
theorem smooth_one (P : List Nat) : Smooth P 1 := ⟨by omega, fun q hq h => by have := hq.1; have := Nat.le_of_dvd (by omega) h; omega⟩
theorem Smooth.cons {P : List Nat} {n : Nat} (a : Nat) (h : Smooth P n) : Smooth (a :: P) n := ⟨h.1, fun q hq hd => List.mem_cons_of_mem _ (h.2 q hq hd)⟩
theorem Smooth.mul {P : List Nat} {n a : Nat} (ha : Prime a) (h : Smooth (a :: P) n) : Smooth (a :: P) (n * a) := by
  refine ⟨Nat.mul_pos h.1 (by have := ha.1; omega), fun q hq hd => ?_⟩
  rcases prime_dvd_mul hq hd with h1 | h1
  · exact h.2 q hq h1
  · have : q = a := by
      rcases ha.2 q h1 with e | e
      · have := hq.1; omega
      · exact e
    exact this ▸ List.mem_cons_self
theorem Smooth.not {P : List Nat} {n a : Nat} (ha : Prime a) (hn : a ∉ P) (h : Smooth P n) : ¬ a ∣ n := fun hd => hn (h.2 a ha hd)
theorem Smooth.pow {P : List Nat} {n a : Nat} (ha : Prime a) (h : Smooth (a :: P) n) : ∀ e, Smooth (a :: P) (n * a ^ e)
  | 0 => by rw [Nat.pow_zero, Nat.mul_one]; exact h
  | e + 1 => by rw [Nat.pow_succ, ← Nat.mul_assoc]; exact (h.pow ha e).mul ha
theorem cop_prime {a n : Nat} (ha : Prime a) (h : ¬ a ∣ n) : Nat.gcd a n = 1 := by
  rcases ha.2 _ (Nat.gcd_dvd_left a n) with e | e
  · exact e
  · exact absurd (e ▸ Nat.gcd_dvd_right a n) h
theorem Is.cons {s a w i : Nat} {l : List (Nat × Nat)} {t : Fr} (h : Is s l i t) : Is s ((a, w) :: l) i t := ⟨h.u.cons a, h.v.cons a, h.cop, h.wu, h.wv⟩
/-- the list of primes with weights: primes, all different, the weights no less than their logarithms -/
def Wts (s : Nat) : List (Nat × Nat) → Prop
  | [] => True
  | (a, w) :: l => Prime a ∧ a ∉ l.map (·.1) ∧ a ^ s ≤ 2 ^ w ∧ Wts s l
/-- with the prime a above at least once, not below -/
theorem ups_is {s a w : Nat} {l : List (Nat × Nat)} {L : Nat → List Fr} (ha : Prime a) (hn : a ∉ l.map (·.1)) (hw : a ^ s ≤ 2 ^ w)
    (hL : ∀ i, ∀ t ∈ L i, Is s l i t) : ∀ f i, ∀ t ∈ ups a w L f i, Is s ((a, w) :: l) i t ∧ ¬ a ∣ t.2.1 ∧ a ∣ t.1
  | 0, _, t, h => by simp [ups] at h
  | f + 1, i, t, h => by
    unfold ups at h
    split at h
    · next hle =>
      obtain ⟨r, hr, rfl⟩ := List.mem_map.1 h
      have key : Is s ((a, w) :: l) (i - w) r ∧ ¬ a ∣ r.2.1 := by
        rcases List.mem_append.1 hr with h1 | h1
        · have := hL _ _ h1
          exact ⟨this.cons, this.v.not ha hn⟩
        · have := ups_is ha hn hw hL f (i - w) r h1
          exact ⟨this.1, this.2.1⟩
      refine ⟨⟨key.1.u.mul ha, key.1.v, ?_, ?_, key.1.wv⟩, key.2, Nat.dvd_mul_left _ _⟩
      · exact Nat.Coprime.mul_left key.1.cop (cop_prime ha key.2)
      · show (r.1 * a) ^ s ≤ 2 ^ i
        rw [Nat.mul_pow, show i = (i - w) + w by omega, Nat.pow_add]
        exact Nat.mul_le_mul key.1.wu hw
    · cases h
theorem downs_is {s a w i : Nat} {l : List (Nat × Nat)} {L : List Fr} (ha : Prime a) (hn : a ∉ l.map (·.1)) (hw : a ^ s ≤ 2 ^ w)
    (hL : ∀ t ∈ L, Is s l i t) : ∀ e, ∀ t ∈ downs a w L e, Is s ((a, w) :: l) i t ∧ ¬ a ∣ t.1 ∧ a ∣ t.2.1
  | 0, t, h => by simp [downs] at h
  | e + 1, t, h => by
    unfold downs at h
    rcases List.mem_append.1 h with h | h
    · obtain ⟨r, hr, rfl⟩ := List.mem_map.1 h
      have k := hL _ hr
      have ka := k.u.not ha hn
      refine ⟨⟨k.u.cons a, (k.v.cons a).pow ha (e + 1), ?_, k.wu, ?_⟩, ka, ?_⟩
      · exact Nat.Coprime.mul_right k.cop (Nat.Coprime.pow_right (e + 1) (Nat.Coprime.symm (cop_prime ha ka)))
      · show (r.2.1 * a ^ (e + 1)) ^ s ≤ 2 ^ (r.2.2 + (e + 1) * w)
        rw [Nat.mul_pow, Nat.pow_add 2]
        refine Nat.mul_le_mul k.wv ?_
        rw [← Nat.pow_mul, Nat.mul_comm, Nat.pow_mul, Nat.mul_comm, Nat.pow_mul]
        exact Nat.pow_le_pow_left hw _
      · exact Nat.dvd_trans (by rw [Nat.pow_succ]; exact Nat.dvd_mul_left _ _) (Nat.dvd_mul_left (a ^ (e + 1)) _)
    · exact downs_is ha hn hw hL e t h
theorem fracs_is {s : Nat} (F : Nat) : ∀ (l : List (Nat × Nat)), Wts s l → ∀ i, ∀ t ∈ fracs F l i, Is s l i t
  | [], _, i, t, h => by
    unfold fracs at h
    split at h
    · rw [List.mem_singleton.1 h]
      exact ⟨smooth_one _, smooth_one _, rfl, by rw [Nat.one_pow]; exact Nat.one_le_two_pow, by rw [Nat.one_pow]; exact Nat.one_le_two_pow⟩
    · cases h
  | (a, w) :: l, hW, i, t, h => by
    obtain ⟨h1, h2, h3, h4⟩ := hW
    have ih := fracs_is F l h4
    unfold fracs at h
    rcases List.mem_append.1 h with h | h
    · exact (ih i t h).cons
    rcases List.mem_append.1 h with h | h
    · exact (ups_is h1 h2 h3 ih F i t h).1
    · exact (downs_is h1 h2 h3 (ih i) F t h).1
/-! ### all different -/
def prs (L : List Fr) : List (Nat × Nat) := L.map (fun t => (t.1, t.2.1))
theorem prs_append (L K : List Fr) : prs (L ++ K) = prs L ++ prs K := List.map_append
theorem prs_ups {a : Nat} (ha : 0 < a) {L : List Fr} (h : (prs L).Nodup) : (prs (L.map (fun t => (t.1 * a, t.2.1, t.2.2)))).Nodup := by
  unfold prs at h ⊢
  rw [List.map_map]
  rw [List.Nodup, List.pairwise_map] at h ⊢
  refine h.imp (fun {x y} hne he => hne ?_)
  simp only [Function.comp, Prod.mk.injEq] at he ⊢
  exact ⟨Nat.eq_of_mul_eq_mul_right ha he.1, he.2⟩
theorem ups_nodup {s a w : Nat} {l : List (Nat × Nat)} {L : Nat → List Fr} (ha : Prime a) (hn : a ∉ l.map (·.1)) (hw : a ^ s ≤ 2 ^ w)
    (hL : ∀ i, ∀ t ∈ L i, Is s l i t) (hN : ∀ i, (prs (L i)).Nodup) : ∀ f i, (prs (ups a w L f i)).Nodup
  | 0, _ => by simp [ups, prs]
  | f + 1, i => by
    unfold ups
    split
    · refine prs_ups (by have := ha.1; omega) ?_
      rw [prs_append]
      refine List.nodup_append.2 ⟨hN _, ups_nodup ha hn hw hL hN f _, ?_⟩
      intro x hx y hy e
      obtain ⟨t, ht, rfl⟩ := List.mem_map.1 hx
      obtain ⟨r, hr, rfl⟩ := List.mem_map.1 hy
      have h1 := (hL _ _ ht).u.not ha hn
      have h2 := (ups_is ha hn hw hL _ _ _ hr).2.2
      simp only [Prod.mk.injEq] at e
      rw [e.1] at h1
      exact h1 h2
    · simp [prs]
theorem downs_nodup {s a w i : Nat} {l : List (Nat × Nat)} {L : List Fr} (ha : Prime a) (hn : a ∉ l.map (·.1)) (hw : a ^ s ≤ 2 ^ w)
    (hL : ∀ t ∈ L, Is s l i t) (hN : (prs L).Nodup) : ∀ e, (prs (downs a w L e)).Nodup ∧ ∀ t ∈ downs a w L e, ∃ k r, 1 ≤ k ∧ k ≤ e ∧ ¬ a ∣ r ∧ 0 < r ∧ t.2.1 = r * a ^ k
  | 0 => by simp [downs, prs]
  | e + 1 => by
    obtain ⟨ih1, ih2⟩ := downs_nodup ha hn hw hL hN e
    have pa : 0 < a := by have := ha.1; omega
    unfold downs
    have key : ∀ t ∈ L.map (fun t : Fr => (t.1, t.2.1 * a ^ (e + 1), t.2.2 + (e + 1) * w)), ∃ r, ¬ a ∣ r ∧ 0 < r ∧ t.2.1 = r * a ^ (e + 1) := by
      intro t ht
      obtain ⟨r, hr, rfl⟩ := List.mem_map.1 ht
      exact ⟨r.2.1, (hL _ hr).v.not ha hn, (hL _ hr).v.1, rfl⟩
    refine ⟨?_, ?_⟩
    · rw [prs_append]
      refine List.nodup_append.2 ⟨?_, ih1, ?_⟩
      · unfold prs at hN ⊢
        rw [List.map_map]
        rw [List.Nodup, List.pairwise_map] at hN ⊢
        refine hN.imp (fun {x y} hne he => hne ?_)
        simp only [Function.comp, Prod.mk.injEq] at he ⊢
        exact ⟨he.1, Nat.eq_of_mul_eq_mul_right (Nat.pow_pos pa) he.2⟩
      · intro x hx y hy e2
        obtain ⟨t, ht, rfl⟩ := List.mem_map.1 hx
        obtain ⟨r, hr, rfl⟩ := List.mem_map.1 hy
        obtain ⟨m, m1, m2, m3⟩ := key t ht
        obtain ⟨k, n, k1, k2, n1, n2, n3⟩ := ih2 r hr
        simp only [Prod.mk.injEq] at e2
        rw [m3, n3] at e2
        have e3 := e2.2
        rw [show e + 1 = (e + 1 - k) + k by omega, Nat.pow_add, ← Nat.mul_assoc] at e3
        have e4 := Nat.eq_of_mul_eq_mul_right (Nat.pow_pos pa) e3
        apply n1
        rw [← e4, show e + 1 - k = (e - k) + 1 by omega, Nat.pow_succ, ← Nat.mul_assoc]
        exact Nat.dvd_mul_left _ _
    · intro t ht
      rcases List.mem_append.1 ht with h | h
      · obtain ⟨r, r1, r2, r3⟩ := key t h
        exact ⟨e + 1, r, by omega, Nat.le_refl _, r1, r2, r3⟩
      · obtain ⟨k, r, h1, h2, h3⟩ := ih2 t h
        exact ⟨k, r, h1, by omega, h3⟩
theorem fracs_nodup {s : Nat} (F : Nat) : ∀ (l : List (Nat × Nat)), Wts s l → ∀ i, (prs (fracs F l i)).Nodup
  | [], _, i => by unfold fracs; split <;> simp [prs]
  | (a, w) :: l, hW, i => by
    obtain ⟨h1, h2, h3, h4⟩ := hW
    have ih := fracs_nodup F l h4
    have is := fracs_is F l h4
    unfold fracs
    rw [prs_append, prs_append]
    refine List.nodup_append.2 ⟨ih i, List.nodup_append.2 ⟨ups_nodup h1 h2 h3 is ih F i, (downs_nodup h1 h2 h3 (is i) (ih i) F).1, ?_⟩, ?_⟩
    · intro x hx y hy e
      obtain ⟨t, ht, rfl⟩ := List.mem_map.1 hx
      obtain ⟨r, hr, rfl⟩ := List.mem_map.1 hy
      have a1 := (ups_is h1 h2 h3 is F i t ht).2.2
      have a2 := (downs_is h1 h2 h3 (is i) F r hr).2.1
      simp only [Prod.mk.injEq] at e
      rw [e.1] at a1; exact a2 a1
    · intro x hx y hy e
      obtain ⟨t, ht, rfl⟩ := List.mem_map.1 hx
      have b := is i t ht
      rcases List.mem_append.1 hy with hy | hy
      · obtain ⟨r, hr, rfl⟩ := List.mem_map.1 hy
        have a1 := (ups_is h1 h2 h3 is F i r hr).2.2
        simp only [Prod.mk.injEq] at e
        rw [← e.1] at a1; exact b.u.not h1 h2 a1
      · obtain ⟨r, hr, rfl⟩ := List.mem_map.1 hy
        have a1 := (downs_is h1 h2 h3 (is i) F r hr).2.2
        simp only [Prod.mk.injEq] at e
        rw [← e.2] at a1; exact b.v.not h1 h2 a1
/-- the numerator tells its weight -/
theorem ups_weight {s a w : Nat} {l : List (Nat × Nat)} {L : Nat → List Fr} (ha : Prime a) (hn : a ∉ l.map (·.1)) (hw : a ^ s ≤ 2 ^ w)
    (hL : ∀ i, ∀ t ∈ L i, Is s l i t) (hE : ∀ i j t r, t ∈ L i → r ∈ L j → t.1 = r.1 → i = j) :
    ∀ f i g j t r, t ∈ ups a w L f i → r ∈ ups a w L g j → t.1 = r.1 → i = j
  | 0, _, _, _, _, _, h, _, _ => by simp [ups] at h
  | f + 1, i, 0, j, t, r, _, h, _ => by simp [ups] at h
  | f + 1, i, g + 1, j, t, r, ht, hr, e => by
    unfold ups at ht hr
    split at ht
    · next h1 =>
      split at hr
      · next h2 =>
        obtain ⟨x, hx, rfl⟩ := List.mem_map.1 ht
        obtain ⟨y, hy, rfl⟩ := List.mem_map.1 hr
        have e2 : x.1 = y.1 := Nat.eq_of_mul_eq_mul_right (by have := ha.1; omega) e
        have : i - w = j - w := by
          rcases List.mem_append.1 hx with hx | hx <;> rcases List.mem_append.1 hy with hy | hy
          · exact hE _ _ _ _ hx hy e2
          · exfalso
            have a1 := (hL _ _ hx).u.not ha hn
            rw [e2] at a1
            exact a1 (ups_is ha hn hw hL _ _ _ hy).2.2
          · exfalso
            have a1 := (hL _ _ hy).u.not ha hn
            rw [← e2] at a1
            exact a1 (ups_is ha hn hw hL _ _ _ hx).2.2
          · exact ups_weight ha hn hw hL hE f _ g _ x y hx hy e2
        omega
      · cases hr
    · cases ht
theorem downs_num {a w : Nat} {L : List Fr} : ∀ e, ∀ t ∈ downs a w L e, ∃ r ∈ L, r.1 = t.1
  | 0, t, h => by simp [downs] at h
  | e + 1, t, h => by
    unfold downs at h
    rcases List.mem_append.1 h with h | h
    · obtain ⟨r, hr, rfl⟩ := List.mem_map.1 h
      exact ⟨r, hr, rfl⟩
    · exact downs_num e t h
theorem fracs_weight {s : Nat} (F : Nat) : ∀ (l : List (Nat × Nat)), Wts s l → ∀ i j t r, t ∈ fracs F l i → r ∈ fracs F l j → t.1 = r.1 → i = j
  | [], _, i, j, t, r, ht, hr, _ => by
    unfold fracs at ht hr
    split at ht <;> split at hr
    · omega
    · cases hr
    · cases ht
    · cases ht
  | (a, w) :: l, hW, i, j, t, r, ht, hr, e => by
    obtain ⟨h1, h2, h3, h4⟩ := hW
    have ih := fracs_weight F l h4
    have is := fracs_is F l h4
    have key : ∀ i t, t ∈ fracs F ((a, w) :: l) i → (∃ x ∈ fracs F l i, x.1 = t.1) ∨ t ∈ ups a w (fracs F l) F i := by
      intro i t ht
      unfold fracs at ht
      rcases List.mem_append.1 ht with h | h
      · exact Or.inl ⟨t, h, rfl⟩
      rcases List.mem_append.1 h with h | h
      · exact Or.inr h
      · exact Or.inl (downs_num F t h)
    rcases key i t ht with ⟨x, hx, ex⟩ | hx <;> rcases key j r hr with ⟨y, hy, ey⟩ | hy
    · exact ih i j x y hx hy (by rw [ex, ey, e])
    · exfalso
      have a1 := (is i x hx).u.not h1 h2
      rw [ex, e] at a1
      exact a1 (ups_is h1 h2 h3 is F j r hy).2.2
    · exfalso
      have a1 := (is j y hy).u.not h1 h2
      rw [ey, ← e] at a1
      exact a1 (ups_is h1 h2 h3 is F i t hx).2.2
    · exact ups_weight h1 h2 h3 is ih F i F j t r hx hy e
end Pt
end Go.Proofs.YteipbcpnnojclaaDoor

/- The strong test below 2^61, plain: the rows of digits count the fractions. -/
namespace Go.Proofs.YteipbcpnnojclaaDoor
set_option linter.unusedVariables false
namespace Pt
open QuadMath (Prime)
/-! ### digits -/
/-- the sum of the powers of B -/
def val (B : Nat) (L : List Fr) : Nat := (L.map (fun t => B ^ t.2.2)).sum
theorem val_append (B : Nat) (L K : List Fr) : val B (L ++ K) = val B L + val B K := by simp [val]
theorem val_map (B : Nat) (L : List Fr) (f : Fr → Fr) (h : ∀ t, (f t).2.2 = t.2.2) : val B (L.map f) = val B L := by
  simp only [val, List.map_map]
  congr 2
  funext t
  simp [h]
theorem val_low {B k : Nat} (hB : 2 ≤ B) : ∀ L : List Fr, ∃ x c, val B L % B ^ k = x % B ^ k ∧ c = (L.filter (fun t => decide (t.2.2 < k))).length ∧ x ≤ c * B ^ (k - 1) ∧ x % (B - 1) = c % (B - 1)
  | [] => ⟨0, 0, by simp [val], by simp, by omega, by simp⟩
  | t :: L => by
    obtain ⟨x, c, h1, h2, h3, h4⟩ := val_low (k := k) hB L
    have hc : val B (t :: L) = B ^ t.2.2 + val B L := by simp [val]
    by_cases ht : t.2.2 < k
    · refine ⟨B ^ t.2.2 + x, c + 1, ?_, ?_, ?_, ?_⟩
      · rw [hc, Nat.add_mod, h1, ← Nat.add_mod]
      · rw [List.filter_cons_of_pos (by simpa using ht), List.length_cons, h2]
      · rw [Nat.add_mul, Nat.one_mul, Nat.add_comm]
        exact Nat.add_le_add h3 (Nat.pow_le_pow_right (by omega) (by omega))
      · have h5 : B ^ t.2.2 % (B - 1) = 1 % (B - 1) := by
          rw [Nat.pow_mod, show B % (B - 1) = 1 % (B - 1) by
            rw [show B = 1 + (B - 1) by omega, Nat.add_sub_cancel_left, Nat.add_mod_right], ← Nat.pow_mod, Nat.one_pow]
        rw [Nat.add_mod, h5, h4, ← Nat.add_mod, Nat.add_comm]
    · refine ⟨x, c, ?_, ?_, h3, h4⟩
      · have : B ^ t.2.2 = B ^ k * B ^ (t.2.2 - k) := by rw [← Nat.pow_add]; congr 1; omega
        rw [hc, this, Nat.mul_add_mod, h1]
      · rw [List.filter_cons_of_neg (by simpa using ht), h2]
/-- what a row tells of the number of its fractions -/
theorem row_count {B k r : Nat} {L : List Fr} (hB : 2 ≤ B) (hk : 1 ≤ k) (h : r % B ^ k = val B L % B ^ k) :
    r % B ^ k % (B - 1) ≤ (L.filter (fun t => decide (t.2.2 < k))).length := by
  obtain ⟨x, c, h1, h2, h3, h4⟩ := val_low (k := k) hB L
  rw [h, h1, ← h2]
  have hp : 0 < B ^ k := Nat.pow_pos (by omega)
  have hq : x / B ^ k ≤ c := by
    refine Nat.le_of_lt_succ ((Nat.div_lt_iff_lt_mul hp).2 ?_)
    refine Nat.lt_of_le_of_lt h3 ?_
    have : B ^ k = B ^ (k - 1) * B := by rw [← Nat.pow_succ]; congr 1; omega
    rw [this, Nat.succ_mul]
    have h5 : 0 < B ^ (k - 1) := Nat.pow_pos (by omega)
    have h6 : c * B ^ (k - 1) ≤ c * (B ^ (k - 1) * B) := Nat.mul_le_mul_left _ (Nat.le_mul_of_pos_right _ (by omega))
    have : 0 < B ^ (k - 1) * B := Nat.mul_pos h5 (by omega)
    omega
  have hd := Nat.mod_add_div x (B ^ k)
  obtain ⟨e, he⟩ : ∃ e, B ^ k = 1 + (B - 1) * e := by
    have h5 : B ^ k % (B - 1) = 1 % (B - 1) := by
      rw [Nat.pow_mod, show B % (B - 1) = 1 % (B - 1) by
        rw [show B = 1 + (B - 1) by omega, Nat.add_sub_cancel_left, Nat.add_mod_right], ← Nat.pow_mod, Nat.one_pow]
    obtain ⟨e, he⟩ := Nat.dvd_of_mod_eq_zero (Nat.sub_mod_eq_zero_of_mod_eq h5)
    exact ⟨e, by omega⟩
  have h5 : (x % B ^ k + x / B ^ k) % (B - 1) = (c - x / B ^ k + x / B ^ k) % (B - 1) := by
    rw [Nat.sub_add_cancel hq, ← h4]
    have : x = x % B ^ k + x / B ^ k + (B - 1) * (e * (x / B ^ k)) := by
      have h6 : B ^ k * (x / B ^ k) = x / B ^ k + (B - 1) * (e * (x / B ^ k)) := by
        generalize x / B ^ k = q
        rw [he]; grind
      omega
    generalize x % B ^ k = y at *
    generalize x / B ^ k = q at *
    rw [this, Nat.add_mul_mod_self_left]
  have h6 : x % B ^ k % (B - 1) = (c - x / B ^ k) % (B - 1) := by
    generalize x % B ^ k = y at *
    generalize x / B ^ k = q at *
    have h7 : (((y : Int) + q) % ((B - 1 : Nat) : Int)) = (((c - q : Nat) : Int) + q) % ((B - 1 : Nat) : Int) := by exact_mod_cast h5
    have h8 := Int.emod_add_cancel_right (q : Int) |>.1 h7
    exact_mod_cast h8
  rw [h6]
  exact Nat.le_trans (Nat.mod_le _ _) (Nat.sub_le _ _)
/-! ### the rows -/
def geo (B w : Nat) : Nat → Nat
  | 0 => 0
  | e + 1 => B ^ ((e + 1) * w) + geo B w e
def goRow (G M w : Nat) : List Nat → List Nat → List Nat
  | [], _ => []
  | r :: rs, S => ((r * G + S.getD (w - 1) 0) % M) :: goRow G M w rs (((r + S.getD (w - 1) 0) % M) :: S)
def rows (B M F W : Nat) : List (Nat × Nat) → List Nat
  | [] => 1 :: List.replicate W 0
  | (a, w) :: l => goRow ((1 + geo B w F) % M) M w (rows B M F W l) []
theorem val_downs (B a w : Nat) (L : List Fr) : ∀ e, val B (downs a w L e) = val B L * geo B w e
  | 0 => by simp [downs, geo, val]
  | e + 1 => by
    unfold downs geo
    rw [val_append, val_downs B a w L e, Nat.mul_add]
    congr 1
    induction L with
    | nil => simp [val]
    | cons t L ih =>
      simp only [val, List.map_cons, List.sum_cons] at ih ⊢
      rw [ih, Nat.pow_add, Nat.add_mul (B ^ t.2.2)]
theorem ups_fuel {a w : Nat} {L : Nat → List Fr} (hw : 0 < w) : ∀ f g i, i < f → i < g → ups a w L f i = ups a w L g i
  | 0, _, _, h, _ => by omega
  | _, 0, _, _, h => by omega
  | f + 1, g + 1, i, h1, h2 => by
    unfold ups
    split
    · rw [ups_fuel hw f g (i - w) (by omega) (by omega)]
    · rfl
theorem val_ups {B a w F : Nat} {L : Nat → List Fr} (hw : 0 < w) {i : Nat} (hi : i < F) :
    val B (ups a w L F i) = if w ≤ i then val B (L (i - w)) + val B (ups a w L F (i - w)) else 0 := by
  obtain ⟨f, rfl⟩ : ∃ f, F = f + 1 := ⟨F - 1, by omega⟩
  conv => lhs; unfold ups
  split
  · next h =>
    rw [val_map B _ (fun t => (t.1 * a, t.2.1, t.2.2)) (fun _ => rfl), val_append, ups_fuel hw f (f + 1) (i - w) (by omega) (by omega)]
  · rfl
theorem goRow_ok {B G M w F : Nat} {L : Nat → List Fr} {U : Nat → Nat} (hw : 0 < w) (hU : ∀ i, i < F → U i = if w ≤ i then val B (L (i - w)) + U (i - w) else 0) :
    ∀ rs S : List Nat, S.length + rs.length ≤ F → (∀ k, k < rs.length → rs.getD k 0 % M = val B (L (S.length + k)) % M) →
      (∀ k, k < S.length → S.getD k 0 % M = (val B (L (S.length - 1 - k)) + U (S.length - 1 - k)) % M) →
      (goRow G M w rs S).length = rs.length ∧ ∀ k, k < rs.length → (goRow G M w rs S).getD k 0 % M = (val B (L (S.length + k)) * G + U (S.length + k)) % M
  | [], S, _, _, _ => by simp [goRow]
  | r :: rs, S, hF, h1, h2 => by
    have hP : S.getD (w - 1) 0 % M = U S.length % M := by
      rw [hU S.length (by simp only [List.length_cons] at hF; omega)]
      split
      · next h =>
        rw [h2 (w - 1) (by omega), show S.length - 1 - (w - 1) = S.length - w by omega]
      · next h => rw [List.getD_eq_getElem?_getD, List.getElem?_eq_none (by omega)]; rfl
    have hr : r % M = val B (L S.length) % M := by
      have := h1 0 (by simp)
      simpa using this
    unfold goRow
    generalize S.getD (w - 1) 0 = P at *
    have ih := goRow_ok (G := G) hw hU rs ((r + P) % M :: S) (by simp only [List.length_cons] at hF ⊢; omega) (fun k hk => by
      have := h1 (k + 1) (by simp; omega)
      rw [List.getD_cons_succ] at this
      rw [this, List.length_cons, show S.length + (k + 1) = S.length + 1 + k by omega]) (fun k hk => by
      cases k with
      | zero =>
        rw [List.getD_cons_zero, List.length_cons, show S.length + 1 - 1 - 0 = S.length by omega, Nat.mod_mod, Nat.add_mod, hr, hP, ← Nat.add_mod]
      | succ k =>
        rw [List.length_cons] at hk
        rw [List.getD_cons_succ, h2 k (by omega), List.length_cons, show S.length + 1 - 1 - (k + 1) = S.length - 1 - k by omega])
    refine ⟨by rw [List.length_cons, ih.1, List.length_cons], fun k hk => ?_⟩
    cases k with
    | zero =>
      rw [List.getD_cons_zero, Nat.mod_mod, Nat.add_zero, Nat.add_mod, Nat.mul_mod, hr, hP, ← Nat.mul_mod, ← Nat.add_mod]
    | succ k =>
      rw [List.length_cons] at hk
      rw [List.getD_cons_succ, ih.2 k (by omega), List.length_cons, show S.length + 1 + k = S.length + (k + 1) by omega]
def posW : List (Nat × Nat) → Prop
  | [] => True
  | (_, w) :: l => 0 < w ∧ posW l
theorem rows_ok {B M F W : Nat} (hF : W < F) : ∀ l, posW l → (rows B M F W l).length = W + 1 ∧ ∀ i, i ≤ W → (rows B M F W l).getD i 0 % M = val B (fracs F l i) % M
  | [], _ => by
    refine ⟨by simp [rows], fun i hi => ?_⟩
    unfold rows fracs
    cases i with
    | zero => simp [val]
    | succ i => simp [val, List.getD_eq_getElem?_getD, List.getElem?_replicate]; split <;> simp
  | (a, w) :: l, hW => by
    obtain ⟨h1, h2⟩ := rows_ok hF l hW.2
    have g := goRow_ok (B := B) (G := (1 + geo B w F) % M) (M := M) (w := w) (F := F) (L := fracs F l) (U := fun i => val B (ups a w (fracs F l) F i)) hW.1 (fun i hi => val_ups hW.1 hi)
      (rows B M F W l) [] (by rw [h1, List.length_nil]; omega) (fun k hk => by rw [List.length_nil, Nat.zero_add]; exact h2 k (by omega)) (fun k hk => by simp at hk)
    unfold rows
    refine ⟨by rw [g.1, h1], fun i hi => ?_⟩
    rw [g.2 i (by omega), List.length_nil, Nat.zero_add]
    conv => rhs; unfold fracs
    rw [val_append, val_append, val_downs, Nat.add_mod, Nat.mul_mod_mod, Nat.mul_add, Nat.mul_one, ← Nat.add_mod]
    congr 1
    omega
/-! ### the count for squares u^2 + v^2 below X -/
def cnt (B X : Nat) : Nat → List Nat → List Nat → List Nat → Nat → Nat
  | 0, _, _, _, _ => 0
  | f + 1, r :: rs, a :: as, d :: D, k => if a + d < X then r % B ^ k % (B - 1) + cnt B X f rs as (d :: D) k else cnt B X f (r :: rs) (a :: as) D (k - 1)
  | _ + 1, _, _, _, _ => 0
/-- a number whose power is at most 2^i has a square of at most the number listed for i -/
def okA (s : Nat) : List Nat → Nat → Bool
  | [], _ => true
  | a :: as, i => Nat.blt (2 ^ (2 * i)) ((a + 1) ^ s) && okA s as (i + 1)
def okD (s : Nat) : List Nat → Nat → Bool
  | [], _ => true
  | d :: D, k => Nat.ble 1 k && (Nat.blt (2 ^ (2 * (k - 1))) ((d + 1) ^ s) && okD s D (k - 1))
theorem sq_le {s u i a : Nat} (hu : u ^ s ≤ 2 ^ i) (ha : 2 ^ (2 * i) < (a + 1) ^ s) : u * u ≤ a := by
  apply Classical.byContradiction
  intro h
  have h1 : (a + 1) ^ s ≤ (u * u) ^ s := Nat.pow_le_pow_left (by omega) s
  rw [Nat.mul_pow] at h1
  have h2 : u ^ s * u ^ s ≤ 2 ^ i * 2 ^ i := Nat.mul_le_mul hu hu
  rw [← Nat.pow_add 2, show i + i = 2 * i by omega] at h2
  omega
theorem cnt_ok {s B X F W : Nat} {l : List (Nat × Nat)} (hB : 2 ≤ B) (hW : Wts s l) : ∀ f rs as D k i,
    okA s as i = true → okD s D k = true → k ≤ W + 1 → (∀ n, n < rs.length → rs.getD n 0 % B ^ (W + 1) = val B (fracs F l (i + n)) % B ^ (W + 1)) →
    ∃ T : List (Nat × Nat), T.Nodup ∧ cnt B X f rs as D k ≤ T.length ∧ ∀ t ∈ T, ∃ j, i ≤ j ∧ ∃ x ∈ fracs F l j, t = (x.1, x.2.1) ∧ x.1 * x.1 + x.2.1 * x.2.1 < X
  | 0, _, _, _, _, _, _, _, _, _ => ⟨[], by simp, by simp [cnt], by simp⟩
  | f + 1, [], as, D, k, i, _, _, _, _ => ⟨[], by simp, by simp [cnt], by simp⟩
  | f + 1, r :: rs, [], D, k, i, _, _, _, _ => ⟨[], by simp, by simp [cnt], by simp⟩
  | f + 1, r :: rs, a :: as, [], k, i, _, _, _, _ => ⟨[], by simp, by simp [cnt], by simp⟩
  | f + 1, r :: rs, a :: as, d :: D, k, i, hA, hD, hk, hr => by
    have hA' := hA; have hD' := hD
    unfold okA at hA'; unfold okD at hD'
    simp only [Bool.and_eq_true, Nat.ble_eq, Nat.blt_eq] at hA' hD'
    unfold cnt
    split
    · next hlt =>
      obtain ⟨T, t1, t2, t3⟩ := cnt_ok (X := X) hB hW f rs as (d :: D) k (i + 1) hA'.2 hD hk (fun n hn => by
        have := hr (n + 1) (by simp; omega)
        rw [List.getD_cons_succ] at this
        rw [this, show i + (n + 1) = i + 1 + n by omega])
      have is := fracs_is F l hW i
      have key : r % B ^ k % (B - 1) ≤ ((fracs F l i).filter (fun t => decide (t.2.2 < k))).length := by
        refine row_count hB hD'.1 ?_
        have h0 := hr 0 (by simp)
        rw [List.getD_cons_zero, Nat.add_zero] at h0
        have hd : B ^ k ∣ B ^ (W + 1) := Nat.pow_dvd_pow B hk
        exact (Nat.mod_mod_of_dvd r hd).symm.trans ((congrArg (· % B ^ k) h0).trans (Nat.mod_mod_of_dvd _ hd))
      refine ⟨prs ((fracs F l i).filter (fun t => decide (t.2.2 < k))) ++ T, ?_, ?_, ?_⟩
      · refine List.nodup_append.2 ⟨?_, t1, ?_⟩
        · refine List.Nodup.sublist ?_ (fracs_nodup F l hW i)
          exact List.Sublist.map _ List.filter_sublist
        · intro x hx y hy e
          obtain ⟨x0, hx0, rfl⟩ := List.mem_map.1 hx
          obtain ⟨j, j1, y0, hy0, e2, _⟩ := t3 y hy
          have hx1 := (List.mem_filter.1 hx0).1
          rw [e2] at e
          simp only [Prod.mk.injEq] at e
          have := fracs_weight F l hW i j x0 y0 hx1 hy0 e.1
          omega
      · rw [List.length_append, prs, List.length_map]
        exact Nat.add_le_add key t2
      · intro t ht
        rcases List.mem_append.1 ht with h | h
        · obtain ⟨x, hx, rfl⟩ := List.mem_map.1 h
          obtain ⟨x1, x2⟩ := List.mem_filter.1 hx
          refine ⟨i, Nat.le_refl i, x, x1, rfl, ?_⟩
          have a1 := sq_le (is x x1).wu hA'.1
          have a2 : x.2.1 * x.2.1 ≤ d := by
            refine sq_le (i := k - 1) (Nat.le_trans (is x x1).wv (Nat.pow_le_pow_right (by omega) ?_)) hD'.2.1
            have := of_decide_eq_true x2
            omega
          omega
        · obtain ⟨j, j1, j2⟩ := t3 t h
          exact ⟨j, by omega, j2⟩
    · obtain ⟨T, t1, t2, t3⟩ := cnt_ok (X := X) hB hW f (r :: rs) (a :: as) D (k - 1) i hA hD'.2.2 (by omega) hr
      exact ⟨T, t1, t2, t3⟩
theorem smooth_pow {P : List Nat} {M E : Nat} (hM : 1 < M) (hP : ∀ a ∈ P, a ^ E % M = 1) : ∀ u, Smooth P u → u ^ E % M = 1 := by
  intro u
  induction u using Nat.strongRecOn with
  | _ u ih =>
    intro hu
    by_cases h1 : u = 1
    · subst h1; rw [Nat.one_pow, Nat.mod_eq_of_lt hM]
    obtain ⟨q, hq, v, rfl⟩ := has_prime u (by have := hu.1; omega)
    have hq2 := hq.1
    have v0 : 0 < v := Nat.pos_of_ne_zero (by rintro rfl; have := hu.1; simp at this)
    have := ih v (by have := Nat.mul_le_mul_right v hq2; omega) ⟨v0, fun r hr hd => hu.2 r hr (Nat.dvd_trans hd (Nat.dvd_mul_left v q))⟩
    rw [Nat.mul_pow, Nat.mul_mod, this, hP q (hu.2 q hq (Nat.dvd_mul_right q v)), Nat.mul_one, Nat.mod_eq_of_lt hM]
/-- the fractions counted are good -/
theorem cnt_good {s B X F W M E : Nat} {l : List (Nat × Nat)} (hB : 2 ≤ B) (hW : Wts s l) (hp : posW l) (hF : W < F) {as D : List Nat}
    (hA : okA s as 0 = true) (hD : okD s D (W + 1) = true) (f : Nat) (hM : 1 < M) (hX : X ≤ M) (hE : ∀ a ∈ l.map (·.1), a ^ E % M = 1) :
    ∃ T : List (Nat × Nat), T.Nodup ∧ cnt B X f (rows B (B ^ (W + 1)) F W l) as D (W + 1) ≤ T.length ∧ ∀ t ∈ T, Good M E t := by
  obtain ⟨r1, r2⟩ := rows_ok (B := B) (M := B ^ (W + 1)) hF l hp
  obtain ⟨T, t1, t2, t3⟩ := cnt_ok (X := X) (F := F) (W := W) hB hW f (rows B (B ^ (W + 1)) F W l) as D (W + 1) 0 hA hD (Nat.le_refl _) (fun n hn => by
    rw [Nat.zero_add]; exact r2 n (by omega))
  refine ⟨T, t1, t2, fun t ht => ?_⟩
  obtain ⟨j, _, x, hx, rfl, hlt⟩ := t3 t ht
  have is := fracs_is F l hW j x hx
  exact ⟨is.u.1, is.v.1, is.cop, by show x.1 * x.1 + x.2.1 * x.2.1 < M; omega, smooth_pow hM hE _ is.u, smooth_pow hM hE _ is.v⟩
end Pt
end Go.Proofs.YteipbcpnnojclaaDoor

/- The strong test below 2^61, plain: the tables of the counting bound, checked by computation. -/
namespace Go.Proofs.YteipbcpnnojclaaDoor
set_option linter.unusedVariables false
set_option maxRecDepth 1000000
namespace Pt
open QuadMath (Prime)
def wt17 : List (Nat × Nat) := [(2, 17), (3, 27), (5, 40), (7, 48), (11, 59), (13, 63), (17, 70), (19, 73), (23, 77), (29, 83), (31, 85), (37, 89)]
def wt5 : List (Nat × Nat) := [(2, 5), (3, 8), (5, 12), (7, 15), (11, 18), (13, 19), (17, 21), (19, 22), (23, 23), (29, 25), (31, 25), (37, 27)]
def sq17 : List Nat := [1, 1, 1, 1, 1, 1, 1, 1, 1, 2, 2, 2, 2, 2, 3, 3, 3, 4, 4, 4, 5, 5, 6, 6, 7, 7, 8, 9, 9, 10, 11, 12, 13, 14, 16, 17, 18, 20, 22, 24, 26, 28, 30, 33, 36, 39, 42, 46, 50, 54, 58, 64, 69, 75, 81, 88, 96, 104, 113, 122, 133, 144, 156, 170, 184, 200, 217, 235, 256, 277, 301, 326, 354, 384, 417, 453, 491, 533, 578, 627, 681, 738, 801, 869, 943, 1024, 1111, 1205, 1307, 1418, 1539, 1670, 1812, 1966, 2133, 2314, 2511, 2724, 2955, 3207, 3479, 3775, 4096, 4444, 4821, 5231, 5675, 6157, 6681, 7248, 7864, 8532, 9257, 10044, 10897, 11823, 12828, 13918, 15100, 16384, 17776, 19286, 20925, 22702, 24631, 26724, 28995, 31458, 34131, 37031, 40177, 43591, 47295, 51313, 55673, 60403, 65536, 71104, 77145, 83700, 90811, 98527, 106898, 115981, 125835, 136526, 148126, 160711, 174366, 189181, 205255, 222694, 241615, 262144, 284416, 308581, 334800, 363246, 394109, 427594, 463924, 503340, 546106, 592506, 642847, 697466, 756726, 821020, 890777, 966461, 1048576, 1137667, 1234327, 1339201, 1452984, 1576436, 1710376, 1855696, 2013363, 2184427, 2370024, 2571391, 2789866, 3026904, 3284082, 3563110, 3865846, 4194304, 4550668, 4937311, 5356804, 5811939, 6305744, 6841505, 7422786, 8053455, 8737708, 9480098, 10285564, 11159466, 12107618, 13136328, 14252442, 15463386, 16777216, 18202673, 19749244, 21427217, 23247757, 25222978, 27366021, 29691145, 32213821, 34950833, 37920393, 41142258, 44637865, 48430473, 52545315, 57009771, 61853544, 67108864, 72810695, 78996977, 85708869, 92991030, 100891912, 109464084, 118764581, 128855285, 139803334, 151681572, 164569032, 178551461, 193721892, 210181263, 228039085, 247414179, 268435456, 291242782, 315987909, 342835479, 371964123, 403567650, 437856337, 475058325, 515421140, 559213337, 606726291, 658276131, 714205847, 774887571, 840725052, 912156343, 989656716, 1073741824, 1164971131, 1263951638, 1371341916, 1487856492, 1614270602, 1751425350, 1900233303, 2061684561, 2236853350, 2426905165, 2633104526, 2856823391, 3099550287, 3362900210, 3648625373, 3958626864, 4294967296, 4659884526, 5055806552, 5485367664, 5951425968, 6457082410, 7005701403, 7600933212, 8246738245, 8947413401, 9707620661, 10532418104, 11427293566, 12398201150, 13451600842, 14594501494, 15834507459, 17179869184, 18639538105, 20223226211, 21941470657, 23805703875, 25828329643, 28022805613, 30403732849, 32986952981, 35789653605, 38830482644, 42129672418, 45709174267, 49592804602, 53806403370, 58378005979, 63338029838, 68719476736, 74558152423, 80892904846, 87765882628, 95222815501, 103313318574, 112091222452, 121614931396, 131947811925, 143158614423, 155321930576, 168518689673, 182836697069, 198371218410]
def sq5 : List Nat := [1, 1, 1, 2, 3, 4, 5, 6, 9, 12, 16, 21, 27, 36, 48, 64, 84, 111, 147, 194, 256, 337, 445, 588, 776, 1024, 1351, 1782, 2352, 3104, 4096, 5404, 7131, 9410, 12416, 16384, 21618, 28526, 37640, 49667, 65536, 86475, 114104, 150562, 198668, 262144, 345901, 456419, 602248, 794672, 1048576, 1383604, 1825676, 2408995, 3178688, 4194304, 5534417, 7302707, 9635980, 12714752, 16777216, 22137669, 29210829, 38543920, 50859008, 67108864, 88550676, 116843318, 154175683, 203436033, 268435456, 354202707, 467373274, 616702733, 813744135, 1073741824, 1416810830, 1869493099, 2466810933, 3254976541, 4294967296, 5667243323, 7477972397, 9867243735, 13019906166, 17179869184, 22668973294, 29911889590, 39468974941, 52079624665, 68719476736, 90675893177, 119647558363, 157875899765, 208318498661, 274877906944, 362703572709, 478590233455, 631503599063, 833273994645, 1099511627776, 1450814290837, 1914360933822, 2526014396252, 3333095978581, 4398046511104, 5803257163348, 7657443735288, 10104057585011, 13332383914327, 17592186044416, 23213028653395, 30629774941153, 40416230340044, 53329535657308, 70368744177664, 92852114613581, 122519099764612, 161664921360179, 213318142629234, 281474976710656, 371408458454326, 490076399058450, 646659685440718, 853272570516939, 1125899906842624, 1485633833817307, 1960305596233800, 2586638741762874, 3413090282067758, 4503599627370496, 5942535335269228, 7841222384935200, 10346554967051497, 13652361128271032, 18014398509481984, 23770141341076913, 31364889539740800, 41386219868205988, 54609444513084131, 72057594037927936, 95080565364307652, 125459558158963202, 165544879472823954, 218437778052336525, 288230376151711744, 380322261457230609, 501838232635852808, 662179517891295819, 873751112209346101, 1152921504606846976, 1521289045828922437, 2007352930543411233, 2648718071565183277, 3495004448837384407, 4611686018427387904]
/-- from the first number on, an order is at least the second -/
def tab17 : List (Nat × Nat) := [(41, 38), (50, 42), (61, 54), (74, 70), (89, 86), (107, 98), (129, 118), (155, 146), (187, 182), (225, 210), (271, 250), (326, 302), (392, 358), (471, 438), (566, 534), (680, 610), (817, 758), (981, 894), (1178, 1098), (1414, 1294), (1697, 1558), (2037, 1774), (2445, 2034), (2935, 2338), (3523, 2674), (4228, 3062), (5074, 3510), (6089, 3906), (7307, 4522), (8769, 5154), (10523, 5874), (12628, 6602), (15154, 7570), (18185, 8698), (21823, 9914), (26188, 11290), (31426, 12818), (37712, 14678), (45255, 16654), (54307, 18766), (65169, 20978), (78203, 24366), (93844, 27638), (112613, 30870), (135136, 35174), (162164, 40034), (194597, 45226), (233517, 50918), (280221, 57294), (336266, 64770), (403520, 72870), (484225, 81882), (581071, 91786), (697286, 101690), (836744, 115850), (1004093, 128538), (1204912, 143934), (1445895, 159626), (1735075, 178618), (2082091, 197934), (2498510, 219346), (2998213, 241250), (3597856, 268930), (4317428, 296494), (5180914, 327658), (6217097, 360026), (7460517, 400170), (8952621, 443758), (10743146, 487226), (12891776, 536186), (15470132, 590634), (18564159, 655542), (22276991, 723754), (26732390, 794570), (32078869, 872506), (38494643, 968734), (46193572, 1062206), (55432287, 1166542), (66518745, 1276154), (79822495, 1413914), (95786995, 1551822), (114944395, 1695238), (137933275, 1855410), (165519931, 2043450), (198623918, 2238734), (238348702, 2445014), (286018443, 2657898), (343222132, 2917598), (411866559, 3200494), (494239871, 3473406), (593087846, 3779582), (711705416, 4097934), (854046500, 4514178), (1024855801, 4897174), (1229826962, 5314390), (1475792355, 5748934), (1770950827, 6286074), (2125140993, 6817098), (2550169192, 7371258), (3060203031, 7963854), (3672243638, 8693786), (4406692366, 9411054), (5288030840, 10173814), (6345637009, 10954038), (7614764411, 11909458), (9137717294, 12932422), (10965260753, 13936378), (13158312904, 15004494), (15789975485, 16152346), (18947970583, 17662498), (22737564700, 19027346), (27285077641, 20473794), (32742093170, 22004874), (39290511805, 23970674), (47148614167, 25776378), (56578337001, 27724662), (67894004402, 29688590), (81472805283, 32280362), (97767366340, 34759366), (117320839609, 37269694), (140785007531, 39973282)]
def rows17 : List Nat := rows 4294967296 (4294967296 ^ (319 + 1)) 320 319 wt17
def rows5 : List Nat := rows 4294967296 (4294967296 ^ (155 + 1)) 156 155 wt5
theorem bases_prime : ∀ a ∈ Pri.bases, Prime a := by
  intro q h
  have small : ∀ q ∈ Pri.bases, 2 ≤ q ∧ q ≤ 37 := by decide
  refine ⟨(small q h).1, fun d hd => ?_⟩
  have key : ∀ q ∈ Pri.bases, ∀ d, d ≤ 37 → q % d = 0 → d = 1 ∨ d = q := by decide
  have := Nat.le_of_dvd (by have := small q h; omega) hd
  exact key q h d (by have := small q h; omega) (Nat.mod_eq_zero_of_dvd hd)
theorem wts17 : Wts 17 wt17 := by
  have b := bases_prime
  simp only [Pri.bases, List.mem_cons, List.not_mem_nil, or_false, forall_eq_or_imp, forall_eq] at b
  obtain ⟨b1, b2, b3, b4, b5, b6, b7, b8, b9, b10, b11, b12⟩ := b
  refine ⟨b1, by decide, by decide, b2, by decide, by decide, b3, by decide, by decide, b4, by decide, by decide, b5, by decide, by decide, b6, by decide, by decide, b7, by decide, by decide, b8, by decide, by decide, b9, by decide, by decide, b10, by decide, by decide, b11, by decide, by decide, b12, by decide, by decide, trivial⟩
theorem wts5 : Wts 5 wt5 := by
  have b := bases_prime
  simp only [Pri.bases, List.mem_cons, List.not_mem_nil, or_false, forall_eq_or_imp, forall_eq] at b
  obtain ⟨b1, b2, b3, b4, b5, b6, b7, b8, b9, b10, b11, b12⟩ := b
  refine ⟨b1, by decide, by decide, b2, by decide, by decide, b3, by decide, by decide, b4, by decide, by decide, b5, by decide, by decide, b6, by decide, by decide, b7, by decide, by decide, b8, by decide, by decide, b9, by decide, by decide, b10, by decide, by decide, b11, by decide, by decide, b12, by decide, by decide, trivial⟩
theorem pos17 : posW wt17 := by simp [posW, wt17]
theorem pos5 : posW wt5 := by simp [posW, wt5]
theorem okA17 : okA 17 sq17 0 = true := by decide +kernel
theorem okD17 : okD 17 sq17.reverse (319 + 1) = true := by decide +kernel
theorem okA5 : okA 5 sq5 0 = true := by decide +kernel
theorem okD5 : okD 5 sq5.reverse (155 + 1) = true := by decide +kernel
theorem tab17_ok : tab17.all (fun t => Nat.ble t.2 (2 * cnt 4294967296 t.1 700 rows17 sq17 sq17.reverse (319 + 1))) = true := by decide +kernel
theorem tab5_ok : (List.range 26).all (fun b => Nat.ble (2 ^ (b + 6) + 1) (2 * cnt 4294967296 (2 ^ (2 * (b + 5))) 700 rows5 sq5 sq5.reverse (155 + 1))) = true := by decide +kernel
/-- an order, that is even and that all bases have, is at least what the table says -/
theorem order_tab {p g X f : Nat} (hp : Prime p) (hg : 0 < g) (he : g % 2 = 0) (hb : ∀ a ∈ Pri.bases, a ^ g % p = 1) (ht : (X, f) ∈ tab17) (hX : X ≤ p) : f ≤ g := by
  obtain ⟨T, t1, t2, t3⟩ := cnt_good (X := X) (M := p) (E := g) (B := 4294967296) (F := 320) (W := 319) (by decide) wts17 pos17 (by decide) okA17 okD17 700 hp.1 hX hb
  have h := order_ge hp hg he t1 t3
  have := List.all_eq_true.1 tab17_ok _ ht
  simp only [Nat.ble_eq] at this
  exact Nat.le_trans this (Nat.le_trans (Nat.mul_le_mul_left 2 t2) h)
theorem two_log : ∀ p, 32 ≤ p → p < 2 ^ 31 → ∃ b, b < 26 ∧ 2 ^ (b + 5) ≤ p ∧ p < 2 ^ (b + 6) := by
  intro p h1 h2
  have : ∀ k, p < 2 ^ (k + 5) → ∃ b, b < k ∧ 2 ^ (b + 5) ≤ p ∧ p < 2 ^ (b + 6) := by
    intro k
    induction k with
    | zero => intro h; omega
    | succ k ih =>
      intro h
      by_cases hk : p < 2 ^ (k + 5)
      · obtain ⟨b, b1, b2⟩ := ih hk
        exact ⟨b, by omega, b2⟩
      · exact ⟨k, by omega, by omega, h⟩
  exact this 26 h2
/-- no square of a prime divides a number that all bases pass -/
theorem no_square {p E : Nat} (hp : Prime p) (h1 : 32 ≤ p) (h2 : p < 2 ^ 31) (hE : ¬ p ∣ E) (h0 : 0 < E) (he : E % 2 = 0) (hb : ∀ a ∈ Pri.bases, a ^ E % (p * p) = 1) : False := by
  obtain ⟨b, b1, b2, b3⟩ := two_log p h1 h2
  have hX : 2 ^ (2 * (b + 5)) ≤ p * p := by
    rw [Nat.two_mul, Nat.pow_add]; exact Nat.mul_le_mul b2 b2
  obtain ⟨T, t1, t2, t3⟩ := cnt_good (X := 2 ^ (2 * (b + 5))) (M := p * p) (E := E) (B := 4294967296) (F := 156) (W := 155) (by decide) wts5 pos5 (by decide) okA5 okD5 700 (by have := Nat.mul_le_mul h1 h1; omega) hX hb
  have h := square_le hp hE h0 he t1 t3
  have := List.all_eq_true.1 tab5_ok b (List.mem_range.2 b1)
  simp only [Nat.ble_eq] at this
  have h4 := Nat.le_trans this (Nat.le_trans (Nat.mul_le_mul_left 2 t2) h)
  omega
end Pt
end Go.Proofs.YteipbcpnnojclaaDoor

/- The strong test below 2^61, plain: sets of numbers as bits: masks of a period, a loop over the bits that are set. -/
namespace Go.Proofs.YteipbcpnnojclaaDoor
set_option linter.unusedVariables false
namespace Pt
/-! ### a pattern of a bits, again and again -/
/-- 1 + 2^a + .. (L of them) -/
def reps (a : Nat) : Nat → Nat
  | 0 => 0
  | L + 1 => 1 + 2 ^ a * reps a L
theorem reps_mul (a : Nat) : ∀ L, reps a L * (2 ^ a - 1) + 1 = 2 ^ (a * L)
  | 0 => by simp [reps]
  | L + 1 => by
    have ih := reps_mul a L
    unfold reps
    rw [Nat.mul_succ, Nat.add_comm (a * L), Nat.pow_add, ← ih, Nat.add_mul, Nat.one_mul, Nat.mul_add, Nat.mul_one, Nat.mul_assoc]
    have : 0 < 2 ^ a := Nat.pow_pos (by omega)
    omega
theorem reps_eq {a : Nat} (ha : 0 < a) (L : Nat) : (2 ^ (a * L) - 1) / (2 ^ a - 1) = reps a L := by
  have h := reps_mul a L
  have h2 : 2 ≤ 2 ^ a := by
    obtain ⟨b, rfl⟩ : ∃ b, a = b + 1 := ⟨a - 1, by omega⟩
    rw [Nat.pow_succ]; have : 0 < 2 ^ b := Nat.pow_pos (by omega)
    omega
  rw [← h, Nat.add_sub_cancel, Nat.mul_div_cancel _ (by omega)]
theorem testBit_rep {a c : Nat} (ha : 0 < a) (hc : c < 2 ^ a) : ∀ L i, i < a * L → (c * reps a L).testBit i = c.testBit (i % a)
  | 0, i, h => by simp at h
  | L + 1, i, h => by
    unfold reps
    rw [Nat.mul_add, Nat.mul_one, ← Nat.mul_assoc, Nat.mul_comm c, Nat.mul_assoc, Nat.add_comm, Nat.testBit_two_pow_mul_add _ hc]
    split
    · next h1 => rw [Nat.mod_eq_of_lt h1]
    · next h1 =>
      rw [Nat.mul_succ] at h
      rw [testBit_rep ha hc L (i - a) (by omega), ← Nat.mod_eq_sub_mod (by omega)]
/-- one more mask -/
theorem testBit_mask {a c L S i : Nat} (ha : 0 < a) (hc : c < 2 ^ a) (hi : i < a * L) (hS : S.testBit i = true) (h : c.testBit (i % a) = true) :
    (Nat.land S (Nat.mul c (reps a L))).testBit i = true := by
  show (S &&& (c * reps a L)).testBit i = true
  rw [Nat.testBit_and, hS, testBit_rep ha hc L i hi, h]; rfl
theorem testBit_full {J i : Nat} (h : i < J) : (Nat.sub (Nat.pow 2 J) 1).testBit i = true := by
  show (2 ^ J - 1).testBit i = true
  rw [Nat.testBit_two_pow_sub_one]; exact decide_eq_true h
/-! ### the lowest bit -/
theorem odd_part : ∀ x, 0 < x → ∃ v y, x = 2 ^ v * (2 * y + 1) := by
  intro x
  induction x using Nat.strongRecOn with
  | _ x ih =>
    intro h
    by_cases h2 : x % 2 = 0
    · obtain ⟨v, y, e⟩ := ih (x / 2) (by omega) (by omega)
      refine ⟨v + 1, y, ?_⟩
      rw [Nat.pow_succ, Nat.mul_comm (2 ^ v), Nat.mul_assoc, ← e]; omega
    · exact ⟨0, x / 2, by rw [Nat.pow_zero, Nat.one_mul]; omega⟩
theorem low_bit {x K : Nat} (h0 : 0 < x) (hK : x < 2 ^ K) : ∃ v y, v < K ∧ x = 2 ^ v * (2 * y + 1) ∧ Nat.gcd x (2 ^ K) = 2 ^ v := by
  obtain ⟨v, y, e⟩ := odd_part x h0
  have hv : v < K := by
    apply Classical.byContradiction
    intro h
    have h1 : 2 ^ K ≤ 2 ^ v := Nat.pow_le_pow_right (by omega) (by omega)
    have h2 : 2 ^ v ≤ 2 ^ v * (2 * y + 1) := Nat.le_mul_of_pos_right _ (by omega)
    omega
  refine ⟨v, y, hv, e, ?_⟩
  have h3 : 2 ^ K = 2 ^ v * 2 ^ (K - v) := by rw [← Nat.pow_add]; congr 1; omega
  rw [e, h3, Nat.gcd_mul_left]
  have : Nat.gcd (2 * y + 1) (2 ^ (K - v)) = 1 := Nat.Coprime.pow_right _ (by
    show Nat.gcd (2 * y + 1) 2 = 1
    rw [Nat.gcd_comm, Nat.gcd_rec, show (2 * y + 1) % 2 = 1 by omega]; rfl)
  rw [this, Nat.mul_one]
theorem clear_bit (v y i : Nat) : (2 ^ v * (2 * y + 1)).testBit i = true → i = v ∨ (2 ^ v * (2 * y + 1) - 2 ^ v).testBit i = true := by
  intro h
  by_cases hi : i = v
  · exact Or.inl hi
  right
  have e : 2 ^ v * (2 * y + 1) - 2 ^ v = 2 ^ v * (2 * y) := by rw [Nat.mul_add, Nat.mul_one, Nat.add_sub_cancel]
  rw [e]
  rw [Nat.testBit_two_pow_mul] at h ⊢
  rw [Bool.and_eq_true] at h ⊢
  refine ⟨h.1, ?_⟩
  have h1 := of_decide_eq_true h.1
  obtain ⟨j, hj⟩ : ∃ j, i - v = j + 1 := ⟨i - v - 1, by omega⟩
  rw [hj] at h ⊢
  have h2 := h.2
  rw [Nat.testBit_succ] at h2 ⊢
  rw [show (2 * y + 1) / 2 = y by omega] at h2
  rw [show 2 * y / 2 = y by omega]
  exact h2
/-! ### a loop over the bits that are set: f of each is 1 -/
/-- the number of a power of two, out of a table of logarithms modulo r -/
noncomputable def dlog (T w W r b : Nat) : Nat := Nat.mod (Nat.shiftRight T (Nat.mul w (Nat.mod b r))) W
noncomputable def bits (K2 T w W r : Nat) (f : Nat → Nat) (fuel : Nat) : Nat → Nat :=
  Nat.rec (fun x => Nat.sub 1 x) (fun _ ih x => Bool.rec
    (Nat.mul (f (Nat.mod (Nat.shiftRight T (Nat.mul w (Nat.mod (Nat.gcd x K2) r))) W)) (ih (Nat.sub x (Nat.gcd x K2)))) 1 (Nat.beq x 0)) fuel
theorem mul_one_iff {a b : Nat} (h : a * b = 1) : a = 1 ∧ b = 1 := by
  exact ⟨Nat.eq_one_of_mul_eq_one_right h, Nat.eq_one_of_mul_eq_one_left h⟩
theorem bits_ok {K T w W r : Nat} {f : Nat → Nat} (hT : ∀ v, v < K → dlog T w W r (2 ^ v) = v) : ∀ fuel x, x < 2 ^ K → bits (2 ^ K) T w W r f fuel x = 1 → ∀ i, x.testBit i = true → f i = 1
  | 0, x, _, h, i, hi => by
    have : (1 : Nat) - x = 1 := h
    have : x = 0 := by omega
    subst this; simp at hi
  | fuel + 1, x, hx, h, i, hi => by
    by_cases h0 : x = 0
    · subst h0; simp at hi
    have hb : Nat.beq x 0 = false := by
      cases e : Nat.beq x 0 with
      | false => rfl
      | true => exact absurd (Nat.eq_of_beq_eq_true e) h0
    have h2 : (Bool.rec (Nat.mul (f (dlog T w W r (Nat.gcd x (2 ^ K)))) (bits (2 ^ K) T w W r f fuel (Nat.sub x (Nat.gcd x (2 ^ K))))) 1 (Nat.beq x 0) : Nat) = 1 := h
    rw [hb] at h2
    have h3 : f (dlog T w W r (Nat.gcd x (2 ^ K))) * bits (2 ^ K) T w W r f fuel (x - Nat.gcd x (2 ^ K)) = 1 := h2
    obtain ⟨v, y, hv, hxe, hg⟩ := low_bit (by omega) hx
    rw [hg, hT v hv] at h3
    obtain ⟨h4, h5⟩ := mul_one_iff h3
    rw [hxe] at hi
    rcases clear_bit v y i hi with e | e
    · rw [e]; exact h4
    · rw [← hxe] at e
      exact bits_ok hT fuel (x - 2 ^ v) (by omega) h5 i e
/-- a long set, in pieces of K bits -/
noncomputable def chop (K K2 : Nat) (inner : Nat → Nat → Nat) (n : Nat) : Nat → Nat → Nat :=
  Nat.rec (fun x _ => Nat.sub 1 x) (fun _ ih x o => Bool.rec (Nat.mul (inner (Nat.mod x K2) o) (ih (Nat.shiftRight x K) (Nat.add o K))) 1 (Nat.beq x 0)) n
theorem chop_ok {K : Nat} {f : Nat → Nat} {inner : Nat → Nat → Nat} (hin : ∀ x o, x < 2 ^ K → inner x o = 1 → ∀ i, x.testBit i = true → f (o + i) = 1) :
    ∀ n x o, chop K (2 ^ K) inner n x o = 1 → ∀ i, x.testBit i = true → f (o + i) = 1
  | 0, x, o, h, i, hi => by
    have : (1 : Nat) - x = 1 := h
    have : x = 0 := by omega
    subst this; simp at hi
  | n + 1, x, o, h, i, hi => by
    by_cases h0 : x = 0
    · subst h0; simp at hi
    have hb : Nat.beq x 0 = false := by
      cases e : Nat.beq x 0 with
      | false => rfl
      | true => exact absurd (Nat.eq_of_beq_eq_true e) h0
    have h2 : (Bool.rec (Nat.mul (inner (Nat.mod x (2 ^ K)) o) (chop K (2 ^ K) inner n (Nat.shiftRight x K) (Nat.add o K))) 1 (Nat.beq x 0) : Nat) = 1 := h
    rw [hb] at h2
    obtain ⟨h4, h5⟩ := mul_one_iff h2
    by_cases hK : i < K
    · exact hin (Nat.mod x (2 ^ K)) o (Nat.mod_lt _ (Nat.pow_pos (by omega))) h4 i (by
        show (x % 2 ^ K).testBit i = true
        rw [Nat.testBit_mod_two_pow, hi, decide_eq_true hK]; rfl)
    · have := chop_ok hin n (Nat.shiftRight x K) (Nat.add o K) h5 (i - K) (by
        show (x >>> K).testBit (i - K) = true
        rw [Nat.testBit_shiftRight, show K + (i - K) = i by omega]; exact hi)
      have e : Nat.add o K + (i - K) = o + i := by
        show o + K + (i - K) = o + i
        omega
      rw [e] at this
      exact this
noncomputable def chop2 (K K2 L L2 T w W r fuel n m : Nat) (f : Nat → Nat) (x : Nat) : Nat :=
  chop L L2 (fun x o => chop K K2 (fun x o => bits K2 T w W r (fun i => f (Nat.add o i)) fuel x) n x o) m x 0
def p2 (n : Nat) : Nat := 2 ^ n
theorem p2_eq (n : Nat) : p2 n = 2 ^ n := rfl
theorem chop2_ok {K K2 L L2 T w W r fuel n m x : Nat} {f : Nat → Nat} (hK : K2 = 2 ^ K) (hL : L2 = 2 ^ L) (hT : ∀ v, v < K → dlog T w W r (2 ^ v) = v) (h : chop2 K K2 L L2 T w W r fuel n m f x = 1) {i : Nat} (hi : x.testBit i = true) : f i = 1 := by
  subst hK hL
  have := chop_ok (f := f) (K := L) (fun y o hy h1 => chop_ok (f := f) (K := K) (fun z o hz h2 j hj => bits_ok hT fuel z hz h2 j hj) n y o h1) m x 0 h i hi
  rw [Nat.zero_add] at this
  exact this
end Pt
end Go.Proofs.YteipbcpnnojclaaDoor
