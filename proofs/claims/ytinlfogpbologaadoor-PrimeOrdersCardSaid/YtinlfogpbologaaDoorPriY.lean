/- The next prime is near, below 2^20; factors and primitive roots of primes below 4,100. Plain. -/
import Derived.Test.YtinlfogpbologaaDoorPriX
namespace Go.Proofs.YtinlfogpbologaaDoor
set_option linter.unusedVariables false
namespace Pri
open QuadMath (Prime)
/-- no number from 2 up to the root divides: a prime -/
theorem prime_div {n : Nat} (h2 : 2 ≤ n) (h : ∀ d, 2 ≤ d → d * d ≤ n → n % d ≠ 0) : Prime n := by
  apply Classical.byContradiction
  intro hp
  obtain ⟨d, m, hd, hm, hdm⟩ := low_prime h2 hp
  exact h d hd.1 (by rw [hm]; exact Nat.mul_le_mul_left d hdm) (Nat.mod_eq_zero_of_dvd ⟨m, hm⟩)
/-- what division by the numbers from 2 up to d - 1 says of k -/
def tri (k d : Nat) (b : Bool) : Prop := b = true ↔ 2 ≤ k ∧ ∀ e, 2 ≤ e → e < d → k % e ≠ 0
theorem tri_start (k : Nat) : tri k 2 (decide (2 ≤ k)) := by
  unfold tri
  rw [decide_eq_true_iff]
  exact ⟨fun h => ⟨h, fun e h1 h2 => by omega⟩, fun h => h.1⟩
theorem tri_step {k d : Nat} (h2 : 2 ≤ d) (h : tri k d true) : tri k (d + 1) (!decide (k % d = 0)) := by
  unfold tri at h ⊢
  obtain ⟨a, b⟩ := h.1 rfl
  constructor
  · intro hb
    refine ⟨a, fun e h1 h3 => ?_⟩
    by_cases hed : e = d
    · subst hed; simpa using hb
    · exact b e h1 (by omega)
  · intro hb
    have := hb.2 d h2 (by omega)
    simpa using this
/-- the loop's end: the test says the same -/
theorem tri_done {k d : Nat} {b : Bool} (hk : k < 1048576) (hd : b = true → k < d * d) (hq : ∀ e, 2 ≤ e → e + 1 < d → e * e ≤ k) (hd2 : b = false → 2 ≤ k → 3 ≤ d ∧ (d - 1) * (d - 1) ≤ k) (h : tri k d b) : b = isP k := by
  unfold tri at h
  cases b with
  | true =>
    obtain ⟨a, c⟩ := h.1 rfl
    have hp : Prime k := prime_div a (fun e h1 h3 => c e h1 (by
      apply Classical.byContradiction
      intro hc
      have : d * d ≤ e * e := Nat.mul_le_mul (by omega) (by omega)
      have := hd rfl
      omega))
    exact ((isP_iff hk).2 hp).symm
  | false =>
    cases hP : isP k with
    | false => rfl
    | true =>
      exfalso
      have hp := (isP_iff hk).1 hP
      obtain ⟨h3, h4⟩ := hd2 rfl hp.1
      have : (2 ≤ k ∧ ∀ e, 2 ≤ e → e < d → k % e ≠ 0) := by
        refine ⟨hp.1, fun e h1 h5 h6 => ?_⟩
        have h7 : e * e ≤ (d - 1) * (d - 1) := Nat.mul_le_mul (by omega) (by omega)
        rcases hp.2 e (Nat.dvd_of_mod_eq_zero h6) with h8 | h8
        · omega
        · subst h8
          have : 2 * e ≤ e * e := Nat.mul_le_mul_right e h1
          omega
      cases h.2 this
/-- primes, each less than twice the one before -/
def steps : List Nat := [2, 3, 5, 7, 13, 23, 43, 83, 163, 317, 631, 1259, 2503, 5003, 9973, 19937, 39869, 79699, 159389, 318751, 637499, 1274989]
def isPF (n : Nat) : Bool := match sieve n bases with
  | some b => b
  | none => bases.all fun a => pmF 22 a (od (n - 1)) n 1 % n == 1 || (pmF 22 a (od (n - 1)) n 1 % n == n - 1 || hits n (tz (n - 1) - 1) (pmF 22 a (od (n - 1)) n 1 % n))
theorem isPF_eq {n : Nat} (h2 : 2 ≤ n) (h : n < 4194304) : isPF n = isP n := by
  have hod : od (n - 1) < 2 ^ 22 := Nat.lt_of_le_of_lt (Nat.div_le_self _ _) (by omega)
  unfold isPF isP
  rw [if_neg (by omega)]
  cases sieve n bases with
  | some b => rfl
  | none =>
    simp only
    congr 1
    funext a
    unfold strong
    rw [pmF_eq 22 a _ n 1 hod, Nat.one_mul]
theorem steps_isP : ∀ q ∈ steps, isP q = true := by
  have key : steps.all (fun q => Nat.ble 2 q && (Nat.blt q 4194304 && isPF q)) = true := by kernel_rfl
  intro q hq
  have h := List.all_eq_true.1 key q hq
  obtain ⟨h1, h2⟩ := Bool.and_eq_true_iff.mp h
  obtain ⟨h3, h4⟩ := Bool.and_eq_true_iff.mp h2
  rw [← isPF_eq (Nat.le_of_ble_eq_true h1) (by simpa [Nat.blt_eq] using h3)]
  exact h4
/-- the first number of a list that is greater -/
def nextOf (k : Nat) : List Nat → Nat
  | [] => 0
  | q :: l => if k < q then q else nextOf k l
theorem near : ∀ (l : List Nat) (c k : Nat), c ≤ k + 1 → (∀ i (h : i < l.length), (if h0 : i = 0 then c else l[i - 1]'(by omega)) ≤ l[i] ∧ l[i] ≤ 2 * (if h0 : i = 0 then c else l[i - 1]'(by omega))) → (∃ q ∈ l, k < q) → ∃ q ∈ l, k < q ∧ q ≤ 2 * k + 2
  | [], c, k, hc, h, he => by obtain ⟨q, hq, -⟩ := he; cases hq
  | q :: l, c, k, hc, h, he => by
    by_cases hk : k < q
    · have := (h 0 (by simp)).2
      simp at this
      exact ⟨q, List.mem_cons_self, hk, by omega⟩
    · obtain ⟨r, hr, h1, h2⟩ := near l q k (by omega) (fun i hi => by
        have := h (i + 1) (by simp; omega)
        cases i with
        | zero => simpa using this
        | succ i => simpa using this) (by
        obtain ⟨r, hr, h1⟩ := he
        rcases List.mem_cons.1 hr with rfl | hr
        · exact absurd h1 hk
        · exact ⟨r, hr, h1⟩)
      exact ⟨r, List.mem_cons_of_mem _ hr, h1, h2⟩
/-- there is a prime up to twice a number and 2 -/
theorem Nx_near {n m : Nat} (hn : n < 1048576) (h : Nx n m) : m ≤ 2 * n + 2 := by
  obtain ⟨q, hq, h1, h2⟩ := near steps 1 n (by omega) (by decide) ⟨1274989, by decide, by omega⟩
  have := steps_isP q hq
  apply Nat.le_trans _ h2
  apply Classical.byContradiction
  intro hc
  have := h.2.2 q h1 (by omega)
  rw [steps_isP q hq] at this
  cases this
/-- a prime that divides a product divides a factor -/
theorem Prime.dvd_mul {q a b : Nat} (hq : Prime q) (h : q ∣ a * b) : q ∣ a ∨ q ∣ b := by
  by_cases hc : q ∣ a
  · exact Or.inl hc
  right
  have hg : Nat.Coprime q a := by
    rcases hq.2 (Nat.gcd q a) (Nat.gcd_dvd_left _ _) with e | e
    · exact e
    · exact absurd (e ▸ Nat.gcd_dvd_right q a) hc
  exact hg.dvd_of_dvd_mul_left h
theorem prime_eq {q p : Nat} (hq : Prime q) (h2 : 2 ≤ p) (hp : p ≤ q) (h : q ∣ p) : q = p := Nat.le_antisymm (Nat.le_of_dvd (by omega) h) hp
theorem pull_prime {p q : Nat} (hq : Prime q) (hp : p ≤ q) (n : Nat) (h : q ∣ n) : q ∈ (pull p n).1 ∨ q ∣ (pull p n).2 := by
  induction n using Nat.strongRecOn with
  | ind n ih =>
    by_cases hc : 2 ≤ p ∧ 0 < n ∧ n % p = 0
    · rw [pull_yes hc.1 hc.2.1 hc.2.2]
      have e : n = p * (n / p) := (Nat.mul_div_cancel' (Nat.dvd_of_mod_eq_zero hc.2.2)).symm
      rw [e] at h
      rcases Prime.dvd_mul hq h with h | h
      · exact Or.inl (List.mem_cons.2 (Or.inl (prime_eq hq hc.1 hp h)))
      · rcases ih _ (Nat.div_lt_self hc.2.1 hc.1) h with h | h
        · exact Or.inl (List.mem_cons_of_mem _ h)
        · exact Or.inr h
    · rw [show pull p n = ([], n) by rw [pull, dif_neg hc]]
      exact Or.inr h
theorem pull_left {p : Nat} (h2 : 2 ≤ p) (n : Nat) (h0 : 0 < n) : (pull p n).2 % p ≠ 0 := by
  induction n using Nat.strongRecOn with
  | ind n ih =>
    by_cases hc : n % p = 0
    · rw [pull_yes h2 h0 hc]
      exact ih _ (Nat.div_lt_self h0 h2) (Nat.div_pos (Nat.le_of_dvd h0 (Nat.dvd_of_mod_eq_zero hc)) (by omega))
    · rw [pull_no hc]; exact hc
theorem facs_prime {q : Nat} (hq : Prime q) : ∀ (k p n : Nat), 1048577 - p = k → 2 ≤ p → 0 < n → q ∣ n → (∀ r, Prime r → r ∣ n → p ≤ r) → q ∈ (facs p n).1 ∨ q ∣ (facs p n).2
  | 0, p, n, hk, h2, h0, h, hl => by rw [facs_out (by omega)]; exact Or.inr h
  | k + 1, p, n, hk, h2, h0, h, hl => by
    by_cases hc : p ≤ 1048576 ∧ p * p ≤ n
    · rw [facs_in hc.1 hc.2]
      obtain ⟨a1, a2, -, -⟩ := pull_all p n h0
      rcases pull_prime hq (hl q hq h) n h with h | h
      · exact Or.inl (List.mem_append.2 (Or.inl h))
      · rcases facs_prime hq k (p + 1) (pull p n).2 (by omega) (by omega) a1 h (fun r hr hd => by
          have := hl r hr (Nat.dvd_trans hd a2)
          rcases Nat.lt_or_ge p r with h' | h'
          · exact h'
          · have e : r = p := by omega
            subst e
            exact absurd (Nat.mod_eq_zero_of_dvd hd) (pull_left h2 n h0)) with h | h
        · exact Or.inl (List.mem_append.2 (Or.inr h))
        · exact Or.inr h
    · rw [facs_out hc]; exact Or.inr h
/-- what is left has no factor up to its root -/
theorem facs_left : ∀ (k p n : Nat), 1048577 - p = k → 2 ≤ p → 0 < n → n < 1048576 → (∀ r, Prime r → r ∣ n → p ≤ r) → (facs p n).2 = 1 ∨ Prime (facs p n).2
  | 0, p, n, hk, h2, h0, hn, hl => by
    rw [facs_out (by omega)]
    rcases Nat.lt_or_ge n 2 with h | h
    · left; show n = 1; omega
    · obtain ⟨r, hr, hd⟩ := has_prime n h
      have := hl r hr hd
      have := Nat.le_of_dvd h0 hd
      omega
  | k + 1, p, n, hk, h2, h0, hn, hl => by
    by_cases hc : p ≤ 1048576 ∧ p * p ≤ n
    · rw [facs_in hc.1 hc.2]
      obtain ⟨a1, a2, -, -⟩ := pull_all p n h0
      have a3 := Nat.le_of_dvd h0 a2
      exact facs_left k (p + 1) (pull p n).2 (by omega) (by omega) a1 (by omega) (fun r hr hd => by
          have := hl r hr (Nat.dvd_trans hd a2)
          rcases Nat.lt_or_ge p r with h' | h'
          · exact h'
          · have e : r = p := by omega
            subst e
            exact absurd (Nat.mod_eq_zero_of_dvd hd) (pull_left h2 n h0))
    · rw [facs_out hc]
      show n = 1 ∨ Prime n
      rcases Nat.lt_or_ge n 2 with h | h
      · left; omega
      right
      apply Classical.byContradiction
      intro hp
      obtain ⟨d, m, hd, hm, hdm⟩ := low_prime h hp
      have h3 := hl d hd ⟨m, hm⟩
      have h4 : p * p ≤ d * d := Nat.mul_le_mul h3 h3
      have h5 : d * d ≤ n := by rw [hm]; exact Nat.mul_le_mul_left d hdm
      have h6 : p ≤ p * p := Nat.le_mul_of_pos_left p (by omega)
      exact hc ⟨by omega, by omega⟩
/-- numbers below 2^20 are factored, and each of their primes is listed -/
theorem facN_full {n : Nat} (h0 : 0 < n) (hn : n < 1048576) : ∃ l, facN n = some l ∧ ∀ q, Prime q → q ∣ n → q ∈ l := by
  have hl : ∀ r, Prime r → r ∣ n → 2 ≤ r := fun r hr _ => hr.1
  have hleft := facs_left _ 2 n rfl (by omega) h0 hn hl
  have hdv := (facs_all _ 2 n rfl h0).2.1
  have hle := Nat.le_of_dvd h0 hdv
  by_cases h1 : (facs 2 n).2 = 1
  · refine ⟨_, facN_one h1, fun q hq hd => ?_⟩
    rcases facs_prime hq _ 2 n rfl (by omega) h0 hd hl with h | h
    · exact h
    · rw [h1] at h
      have := Nat.le_of_dvd (by omega) h
      have := hq.1
      omega
  · have hp : Prime (facs 2 n).2 := hleft.resolve_left h1
    refine ⟨_, facN_more h1 ((isP_iff (by omega)).2 hp), fun q hq hd => ?_⟩
    rcases facs_prime hq _ 2 n rfl (by omega) h0 hd hl with h | h
    · exact List.mem_append.2 (Or.inl h)
    · rcases hp.2 q h with e | e
      · have := hq.1; omega
      · exact List.mem_append.2 (Or.inr (by rw [e]; exact List.mem_singleton.2 rfl))
/-- Fermat's theorem for every prime -/
theorem fermat2 {p a : Nat} (hp : Prime p) (ha : a % p ≠ 0) : a ^ (p - 1) % p = 1 := by
  rcases Nat.mod_two_eq_zero_or_one p with h | h
  · rcases hp.2 2 (Nat.dvd_of_mod_eq_zero h) with e | e
    · omega
    · subst e
      rw [show 2 - 1 = 1 by rfl, Nat.pow_one]; omega
  · exact fermat hp h ha
/-- t is the order of s modulo p -/
def Ord (p s t : Nat) : Prop := 1 ≤ t ∧ s ^ t % p = 1 ∧ ∀ j, 1 ≤ j → j < t → s ^ j % p ≠ 1
theorem Ord.dvd {p s t e : Nat} (hp : 2 ≤ p) (h : Ord p s t) (he : s ^ e % p = 1) : t ∣ e := by
  apply Nat.dvd_of_mod_eq_zero
  have hr : s ^ (e % t) % p = 1 := by
    have : s ^ e % p = s ^ (e % t) % p := by
      conv => lhs; rw [← Nat.div_add_mod e t, Nat.pow_add, Nat.pow_mul, Nat.mul_mod, Nat.pow_mod, h.2.1, Nat.one_pow, Nat.mod_eq_of_lt (show 1 < p by omega), Nat.one_mul, Nat.mod_mod]
    rw [← this]; exact he
  rcases Nat.eq_zero_or_pos (e % t) with h' | h'
  · exact h'
  · exact absurd hr (h.2.2 _ h' (Nat.mod_lt _ (by have := h.1; omega)))
theorem Ord.ex {p s : Nat} : ∀ d m, m = d + 1 → s ^ m % p = 1 → ∃ t, Ord p s t ∧ t ≤ m := by
  intro d
  induction d using Nat.strongRecOn with
  | ind d ih =>
    intro m hm h
    by_cases hc : ∃ j, 1 ≤ j ∧ j < m ∧ s ^ j % p = 1
    · obtain ⟨j, h1, h2, h3⟩ := hc
      obtain ⟨t, ht, hl⟩ := ih (j - 1) (by omega) j (by omega) h3
      exact ⟨t, ht, by omega⟩
    · exact ⟨m, ⟨by omega, h, fun j h1 h2 h3 => hc ⟨j, h1, h2, h3⟩⟩, Nat.le_refl m⟩
/-- no power by a factor is 1: the order is the full one -/
theorem rok_full {p s t : Nat} {l : List Nat} (hp : Prime p) (hl : ∀ q, Prime q → q ∣ p - 1 → q ∈ l) (h2 : ∀ f ∈ l, 2 ≤ f ∧ f ∣ p - 1) (ht : Ord p s t) (hd : t ∣ p - 1) : rok p l s = true ↔ t = p - 1 := by
  have hp2 := hp.1
  unfold rok
  rw [List.all_eq_true]
  obtain ⟨c, hc⟩ := hd
  have ht1 := ht.1
  constructor
  · intro h
    apply Classical.byContradiction
    intro hn
    have hc2 : 2 ≤ c := by
      apply Classical.byContradiction
      intro h'
      have : c = 0 ∨ c = 1 := by omega
      rcases this with rfl | rfl
      · rw [Nat.mul_zero] at hc; omega
      · rw [Nat.mul_one] at hc; exact hn hc.symm
    obtain ⟨q, hq, c2, hqc⟩ := has_prime c hc2
    have hq0 := hq.1
    have hm := h q (hl q hq ⟨t * c2, by rw [hc, hqc]; grind⟩)
    have he : (p - 1) / q = t * c2 := by
      rw [hc, hqc, show t * (q * c2) = q * (t * c2) by grind, Nat.mul_div_cancel_left _ (by omega)]
    rw [he, Nat.pow_mul, Nat.pow_mod, ht.2.1, Nat.one_pow, Nat.mod_eq_of_lt (by omega)] at hm
    simp at hm
  · intro h f hf
    obtain ⟨f2, fd⟩ := h2 f hf
    have hle := Nat.le_of_dvd (by omega) fd
    have h1 : 1 ≤ (p - 1) / f := Nat.div_pos hle (by omega)
    have h3 : (p - 1) / f < t := by rw [h]; exact Nat.div_lt_self (by omega) f2
    have := ht.2.2 _ h1 h3
    simpa using this
/-- the powers of r by a and by the other factor, for all a up to 64, as the kernel can compute them -/
def chk (p r : Nat) : Nat → Bool
  | 0 => true
  | a + 1 => ((p - 1) % (a + 1) != 0 || ((a + 1 == p - 1 || pmF 13 r (a + 1) p 1 % p != 1) && (a == 0 || pmF 13 r ((p - 1) / (a + 1)) p 1 % p != 1))) && chk p r a
theorem chk_spec {p r : Nat} (hp : p < 4200) : ∀ n, chk p r n = true → ∀ a, 1 ≤ a → a ≤ n → a < 4200 → (p - 1) % a = 0 → (a = p - 1 ∨ r ^ a % p ≠ 1) ∧ (a = 1 ∨ r ^ ((p - 1) / a) % p ≠ 1)
  | 0, h => by intro a h1 h2; omega
  | n + 1, h => by
    intro a h1 h2 h4 h3
    unfold chk at h
    obtain ⟨ha, hb⟩ := Bool.and_eq_true_iff.mp h
    by_cases hc : a = n + 1
    · subst hc
      rcases (Bool.or_eq_true _ _).mp ha with ha | ha
      · rw [h3] at ha; simp at ha
      obtain ⟨hx, hy⟩ := Bool.and_eq_true_iff.mp ha
      have e1 : (n + 1) < 2 ^ 13 := by omega
      have e2 : (p - 1) / (n + 1) < 2 ^ 13 := Nat.lt_of_le_of_lt (Nat.div_le_self _ _) (by omega)
      rw [pmF_eq 13 r _ p 1 e1, Nat.one_mul] at hx
      rw [pmF_eq 13 r _ p 1 e2, Nat.one_mul] at hy
      constructor
      · rcases (Bool.or_eq_true _ _).mp hx with h | h
        · left; exact eq_of_beq h
        · right; simpa using h
      · rcases (Bool.or_eq_true _ _).mp hy with h | h
        · left; have := eq_of_beq h; omega
        · right; simpa using h
    · exact chk_spec hp n hb a h1 (by omega) h4 h3
/-- a number of the list, but not p itself, divides p -/
def comp (p : Nat) (l : List Nat) : Bool := l.any fun d => p % d == 0 && p != d
def lows : List Nat := [2, 3, 5, 7, 11, 13, 17, 19, 23, 29, 31, 37, 41, 43, 47, 53, 59, 61]
/-- some number of the next ones is a root -/
def findr (p : Nat) : Nat → Nat → Bool
  | 0, _ => false
  | f + 1, r => (Nat.blt r p && chk p r 64) || findr p f (r + 1)
theorem findr_spec {p : Nat} : ∀ f r, 1 ≤ r → findr p f r = true → ∃ s, 1 ≤ s ∧ s < p ∧ chk p s 64 = true
  | 0, r, h1, h => by cases h
  | f + 1, r, h1, h => by
    unfold findr at h
    rcases (Bool.or_eq_true _ _).mp h with h | h
    · obtain ⟨hx, hy⟩ := Bool.and_eq_true_iff.mp h
      exact ⟨r, h1, by simpa [Nat.blt_eq] using hx, hy⟩
    · exact findr_spec f (r + 1) (by omega) h
def allR : Nat → Nat → Bool
  | 0, _ => true
  | f + 1, p => (comp p lows || findr p 40 1) && allR f (p + 1)
theorem allR_spec : ∀ f p0, allR f p0 = true → ∀ p, p0 ≤ p → p < p0 + f → comp p lows = true ∨ findr p 40 1 = true
  | 0, p0, h => by intro p h1 h2; omega
  | f + 1, p0, h => by
    intro p h1 h2
    unfold allR at h
    obtain ⟨ha, hb⟩ := Bool.and_eq_true_iff.mp h
    by_cases hc : p = p0
    · subst hc; exact (Bool.or_eq_true _ _).mp ha
    · exact allR_spec f (p0 + 1) hb p (by omega) (by omega)
theorem roots_a : allR 998 2 = true := by kernel_rfl
theorem roots_b : allR 1000 1000 = true := by kernel_rfl
theorem roots_c : allR 1000 2000 = true := by kernel_rfl
theorem roots_d : allR 1101 3000 = true := by kernel_rfl
theorem root_ex {p : Nat} (hp : Prime p) (h : p ≤ 4100) : ∃ s, 1 ≤ s ∧ s < p ∧ ∀ f, 2 ≤ f → f ∣ p - 1 → s ^ ((p - 1) / f) % p ≠ 1 := by
  have hp2 := hp.1
  have key : comp p lows = true ∨ findr p 40 1 = true := by
    rcases Nat.lt_or_ge p 1000 with h | h
    · exact allR_spec 998 2 roots_a p (by omega) (by omega)
    · rcases Nat.lt_or_ge p 2000 with h | h
      · exact allR_spec 1000 1000 roots_b p (by omega) (by omega)
      · rcases Nat.lt_or_ge p 3000 with h | h
        · exact allR_spec 1000 2000 roots_c p (by omega) (by omega)
        · exact allR_spec 1101 3000 roots_d p (by omega) (by omega)
  rcases key with hc | hc
  · exfalso
    obtain ⟨d, hd, h1⟩ := List.any_eq_true.mp hc
    obtain ⟨h2, h3⟩ := Bool.and_eq_true_iff.mp h1
    have hlow : ∀ d ∈ lows, d ≠ 1 := by decide
    rcases hp.2 d (Nat.dvd_of_mod_eq_zero (eq_of_beq h2)) with e | e
    · exact hlow d hd e
    · subst e; simp at h3
  · obtain ⟨s, h1, h2, h3⟩ := findr_spec 40 1 (by omega) hc
    refine ⟨s, h1, h2, fun f hf hd => ?_⟩
    obtain ⟨e, he⟩ := hd
    have he0 : e ≠ 0 := by rintro rfl; rw [Nat.mul_zero] at he; omega
    have hq : (p - 1) / f = e := by rw [he, Nat.mul_div_cancel_left _ (by omega)]
    rw [hq]
    rcases Nat.lt_or_ge 64 e with h4 | h4
    · have hf64 : f ≤ 64 := by
        apply Classical.byContradiction
        intro hc
        have : 65 * 65 ≤ f * e := Nat.mul_le_mul (by omega) (by omega)
        omega
      have := (chk_spec (by omega) 64 h3 f (by omega) hf64 (by omega) (Nat.mod_eq_zero_of_dvd ⟨e, he⟩)).2
      rw [hq] at this
      exact this.resolve_left (by omega)
    · have := (chk_spec (by omega) 64 h3 e (by omega) h4 (by omega) (Nat.mod_eq_zero_of_dvd ⟨f, by rw [he, Nat.mul_comm]⟩)).1
      refine this.resolve_left ?_
      intro h5
      have : 2 * e ≤ f * e := Nat.mul_le_mul_right e hf
      omega
/-- the least primitive root of a prime up to 4,100: it is below the prime; the orders of the numbers up to it -/
theorem roots {p r : Nat} {l : List Nat} (hP : isP p = true) (hp : p ≤ 4100) (hf : facN (p - 1) = some l) (hr : RootR p l r) : r < p ∧ ∀ s, 1 ≤ s → s ≤ r → ∃ t, Ord p s t ∧ t ≤ p - 1 ∧ (t = p - 1 ↔ s = r) := by
  have hpr : Prime p := (isP_iff (by omega)).1 hP
  have hp2 := hpr.1
  obtain ⟨l', hl', hall⟩ := facN_full (n := p - 1) (by omega) (by omega)
  obtain rfl : l' = l := by rw [hl'] at hf; exact Option.some.inj hf
  have hmem := (facN_all (by omega) (by omega) hf).2
  have hrp : r < p := by
    obtain ⟨s, h1, h2, h3⟩ := root_ex hpr hp
    have hs : rok p l' s = true := by
      unfold rok
      rw [List.all_eq_true]
      intro f hf
      obtain ⟨a, b, -⟩ := hmem f hf
      simpa using h3 f a b
    apply Classical.byContradiction
    intro hc
    have := hr.2.2.2 s h1 (by omega)
    rw [hs] at this
    cases this
  refine ⟨hrp, fun s h1 h2 => ?_⟩
  have hsp : s % p ≠ 0 := by rw [Nat.mod_eq_of_lt (by omega)]; omega
  have hfer := fermat2 hpr hsp
  obtain ⟨t, ht, hle⟩ := Ord.ex (p := p) (s := s) (p - 1 - 1) (p - 1) (by omega) hfer
  refine ⟨t, ht, hle, ?_⟩
  rw [← rok_full hpr hall (fun f hf => ⟨(hmem f hf).1, (hmem f hf).2.1⟩) ht (ht.dvd hp2 hfer)]
  constructor
  · intro h
    apply Classical.byContradiction
    intro hc
    have := hr.2.2.2 s h1 (by omega)
    rw [h] at this
    cases this
  · intro h; rw [h]; exact hr.2.2.1
end Pri
end Go.Proofs.YtinlfogpbologaaDoor
