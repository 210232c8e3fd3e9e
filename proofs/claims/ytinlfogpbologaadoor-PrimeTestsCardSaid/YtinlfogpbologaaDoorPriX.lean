/- The test for primes is right below 2^20: a number passes it exactly if it is a prime. Plain. -/
import Derived.Test.YtinlfogpbologaaDoorPriH
import Derived.Test.YtinlfogpbologaaDoorQuad
namespace Go.Proofs.YtinlfogpbologaaDoor
set_option linter.unusedVariables false
namespace Pri
open QuadMath (Prime)
theorem mod_one_sub {x n : Nat} (hn : 2 ≤ n) (h : x % n = 1) : n ∣ x - 1 := by
  apply Nat.dvd_of_mod_eq_zero
  exact Nat.sub_mod_eq_zero_of_mod_eq (by rw [h, Nat.mod_eq_of_lt (by omega)])
theorem pred_sq {n : Nat} (hn : 2 ≤ n) : (n - 1) * (n - 1) % n = 1 := by
  obtain ⟨k, rfl⟩ : ∃ k, n = k + 2 := ⟨n - 2, by omega⟩
  have : (k + 2 - 1) * (k + 2 - 1) = 1 + (k + 2) * k := by
    rw [show k + 2 - 1 = k + 1 by omega]; grind
  rw [this, Nat.add_mul_mod_self_left, Nat.mod_eq_of_lt (by omega)]
theorem fermat {p a : Nat} (hp : Prime p) (ho : p % 2 = 1) (ha : a % p ≠ 0) : a ^ (p - 1) % p = 1 := by
  have h2 := hp.1
  have hlt : a % p < p := Nat.mod_lt _ (by omega)
  have e := QuadMath.euler hp ho hlt
  have hg : Nat.Coprime (a % p) p := hp.cop (by omega) hlt
  rw [(QuadMath.J_eq (a % p) p ho).1 hg] at e
  have hy : (a % p) ^ ((p - 1) / 2) % p = 1 ∨ (a % p) ^ ((p - 1) / 2) % p = p - 1 := by
    rcases QuadMath.G_cases (a % p) p with h | h
    · left; rw [h, Int.emod_eq_of_lt (by omega) (by omega)] at e; omega
    · right; rw [h, show (-1 : Int) % (p : Int) = (-1 + (p : Int)) % (p : Int) by rw [Int.add_emod_right], Int.emod_eq_of_lt (by omega) (by omega)] at e; omega
  have hs : a ^ (p - 1) % p = ((a % p) ^ ((p - 1) / 2) % p) * ((a % p) ^ ((p - 1) / 2) % p) % p := by
    rw [← Nat.mul_mod, ← Nat.pow_add, show (p - 1) / 2 + (p - 1) / 2 = p - 1 by omega, ← Nat.pow_mod]
  rw [hs]
  rcases hy with h | h <;> rw [h]
  · rw [Nat.one_mul, Nat.mod_eq_of_lt (by omega)]
  · exact pred_sq h2
theorem sqrt_one {p x : Nat} (hp : Prime p) (hx : x < p) (h : x * x % p = 1) : x = 1 ∨ x = p - 1 := by
  have h2 := hp.1
  have h0 : x ≠ 0 := by rintro rfl; simp at h
  by_cases h1 : x = 1
  · exact Or.inl h1
  right
  have hd := mod_one_sub h2 h
  have he : x * x - 1 = (x - 1) * (x + 1) := by
    obtain ⟨k, rfl⟩ : ∃ k, x = k + 1 := ⟨x - 1, by omega⟩
    rw [show k + 1 - 1 = k by omega, show (k + 1) * (k + 1) = k * (k + 1 + 1) + 1 by grind]; omega
  rw [he] at hd
  have hc : Nat.Coprime (x - 1) p := hp.cop (by omega) (by omega)
  have := Nat.le_of_dvd (by omega) ((Nat.Coprime.symm hc).dvd_of_dvd_mul_left hd)
  omega
theorem sq_pow (x n k : Nat) : (x * x % n) ^ 2 ^ k % n = x ^ 2 ^ (k + 1) % n := by
  rw [← Nat.pow_mod, show x * x = x ^ 2 by rw [Nat.pow_two], ← Nat.pow_mul, show 2 * 2 ^ k = 2 ^ (k + 1) by rw [Nat.pow_succ, Nat.mul_comm]]
theorem chain {p : Nat} (hp : Prime p) : ∀ k x, x < p → x ^ 2 ^ k % p = 1 → x = 1 ∨ x = p - 1 ∨ hits p (k - 1) x = true
  | 0, x, hx, h => by rw [Nat.pow_zero, Nat.pow_one, Nat.mod_eq_of_lt hx] at h; exact Or.inl h
  | 1, x, hx, h => by
    rw [Nat.pow_one, Nat.pow_two] at h
    rcases sqrt_one hp hx h with e | e
    · exact Or.inl e
    · exact Or.inr (Or.inl e)
  | k + 2, x, hx, h => by
    have hy : x * x % p < p := Nat.mod_lt _ (by omega)
    rcases chain hp (k + 1) (x * x % p) hy (by rw [sq_pow]; exact h) with e | e | e
    · rcases sqrt_one hp hx e with e | e
      · exact Or.inl e
      · exact Or.inr (Or.inl e)
    · right; right
      show hits p (k + 1) x = true
      unfold hits; rw [e]; simp
    · right; right
      show hits p (k + 1) x = true
      unfold hits
      rw [show hits p k (x * x % p) = true from e, Bool.or_true]
theorem strong_prime {p a : Nat} (hp : Prime p) (ho : p % 2 = 1) (h64 : p < 2 ^ 64) (ha : a % p ≠ 0) : strong p a = true := by
  have h2 := hp.1
  obtain ⟨t1, -⟩ := tz_spec (n := p - 1) (by omega) (by omega)
  have hx : a ^ od (p - 1) % p < p := Nat.mod_lt _ (by omega)
  have hf : (a ^ od (p - 1) % p) ^ 2 ^ tz (p - 1) % p = 1 := by
    rw [← Nat.pow_mod, ← Nat.pow_mul, ← t1]; exact fermat hp ho ha
  unfold strong
  rcases chain hp _ _ hx hf with e | e | e
  · rw [e]; rfl
  · rw [e]; simp
  · rw [e]; simp
theorem sieve_some {n : Nat} {b : Bool} : ∀ {l : List Nat}, sieve n l = some b → ∃ q, q ∈ l ∧ n % q = 0 ∧ b = (n == q)
  | [], h => by cases h
  | p :: l, h => by
    unfold sieve at h
    split at h
    · next hp => cases h; exact ⟨p, List.mem_cons_self, hp, rfl⟩
    · obtain ⟨q, hq, h1, h2⟩ := sieve_some h
      exact ⟨q, List.mem_cons_of_mem _ hq, h1, h2⟩
theorem bases_small : ∀ q ∈ bases, 2 ≤ q ∧ q ≤ 37 := by decide
theorem bases_prime {q : Nat} (h : q ∈ bases) : Prime q := by
  refine ⟨(bases_small q h).1, fun d hd => ?_⟩
  have key : ∀ q ∈ bases, ∀ d, d ≤ 37 → q % d = 0 → d = 1 ∨ d = q := by decide
  have := Nat.le_of_dvd (by have := bases_small q h; omega) hd
  exact key q h d (by have := bases_small q h; omega) (Nat.mod_eq_zero_of_dvd hd)
theorem isP_prime {p : Nat} (hp : Prime p) (h64 : p < 2 ^ 64) : isP p = true := by
  have h2 := hp.1
  cases hs : sieve p bases with
  | some b =>
    obtain ⟨q, hq, h1, h3⟩ := sieve_some hs
    rw [isP_some h2 hs, h3]
    rcases hp.2 q (Nat.dvd_of_mod_eq_zero h1) with e | e
    · have := bases_small q hq; omega
    · rw [e]; simp
  | none =>
    obtain ⟨hb, ho⟩ := sieve_big h2 hs
    rw [isP_none h2 hs, List.all_eq_true]
    intro a ha
    have := bases_small a ha
    exact strong_prime hp ho h64 (by rw [Nat.mod_eq_of_lt (by omega)]; omega)
theorem hits_pow {n : Nat} (hn : 2 ≤ n) : ∀ j x, hits n j x = true → x ^ 2 ^ (j + 1) % n = 1
  | 0, x, h => by simp [hits] at h
  | j + 1, x, h => by
    unfold hits at h
    rw [← sq_pow]
    rcases (Bool.or_eq_true _ _).mp h with e | e
    · rw [eq_of_beq e, ← sq_pow, pred_sq hn, Nat.one_pow, Nat.mod_eq_of_lt (by omega)]
    · exact hits_pow hn j _ e
theorem strong_fermat {n a : Nat} (hn : 3 ≤ n) (ho : n % 2 = 1) (h64 : n < 2 ^ 64) (h : strong n a = true) : a ^ (n - 1) % n = 1 := by
  obtain ⟨t1, -⟩ := tz_spec (n := n - 1) (by omega) (by omega)
  have tp := tz_pos (n := n - 1) (by omega) (by omega) (by omega)
  have hx : a ^ (n - 1) % n = (a ^ od (n - 1) % n) ^ 2 ^ tz (n - 1) % n := by
    rw [← Nat.pow_mod, ← Nat.pow_mul, ← t1]
  rw [hx]
  obtain ⟨s, hs⟩ : ∃ s, tz (n - 1) = s + 1 := ⟨tz (n - 1) - 1, by omega⟩
  unfold strong at h
  rcases (Bool.or_eq_true _ _).mp h with e | e
  · rw [eq_of_beq e, Nat.one_pow, Nat.mod_eq_of_lt (by omega)]
  rcases (Bool.or_eq_true _ _).mp e with e | e
  · rw [eq_of_beq e, hs, ← sq_pow, pred_sq (by omega), Nat.one_pow, Nat.mod_eq_of_lt (by omega)]
  · rw [hs] at e ⊢
    exact hits_pow (by omega) s _ e
theorem has_prime : ∀ n, 2 ≤ n → ∃ d, Prime d ∧ d ∣ n := by
  intro n
  induction n using Nat.strongRecOn with
  | _ n ih =>
    intro h2
    by_cases hp : Prime n
    · exact ⟨n, hp, Nat.dvd_refl n⟩
    have : ∃ d, d ∣ n ∧ d ≠ 1 ∧ d ≠ n := by
      apply Classical.byContradiction
      intro hc
      refine hp ⟨h2, fun d hd => ?_⟩
      apply Classical.byContradiction
      intro hn
      exact hc ⟨d, hd, fun e => hn (Or.inl e), fun e => hn (Or.inr e)⟩
    obtain ⟨d, hd, h1, hn⟩ := this
    have hle := Nat.le_of_dvd (by omega) hd
    have h0 : d ≠ 0 := by rintro rfl; have := Nat.eq_zero_of_zero_dvd hd; omega
    obtain ⟨q, hq, hqd⟩ := ih d (by omega) (by omega)
    exact ⟨q, hq, Nat.dvd_trans hqd hd⟩
theorem low_prime {n : Nat} (h2 : 2 ≤ n) (hp : ¬ Prime n) : ∃ d m, Prime d ∧ n = d * m ∧ d ≤ m := by
  obtain ⟨d, hd, m, hm⟩ := has_prime n h2
  by_cases h : d ≤ m
  · exact ⟨d, m, hd, hm, h⟩
  have hm2 : 2 ≤ m := by
    rcases Nat.lt_or_ge m 2 with h' | h'
    · have : m = 0 ∨ m = 1 := by omega
      rcases this with rfl | rfl
      · omega
      · rw [Nat.mul_one] at hm; exact absurd (hm ▸ hd) hp
    · exact h'
  obtain ⟨q, hq, c, hc⟩ := has_prime m hm2
  refine ⟨q, d * c, hq, by rw [hm, hc]; grind, ?_⟩
  have hc0 : c ≠ 0 := by rintro rfl; rw [Nat.mul_zero] at hc; omega
  have hqm : q ≤ m := Nat.le_of_dvd (by omega) ⟨c, hc⟩
  exact Nat.le_trans (by omega : q ≤ d) (Nat.le_mul_of_pos_right d (by omega))
/-- the strong test, as the kernel can compute it -/
def sF (n a : Nat) : Bool := pmF 20 a (od (n - 1)) n 1 % n == 1 || (pmF 20 a (od (n - 1)) n 1 % n == n - 1 || hits n (tz (n - 1) - 1) (pmF 20 a (od (n - 1)) n 1 % n))
theorem sF_eq {n a : Nat} (h : n < 1048576) : sF n a = strong n a := by
  have hod : od (n - 1) < 2 ^ 20 := Nat.lt_of_le_of_lt (Nat.div_le_self _ _) (by omega)
  unfold sF strong
  rw [pmF_eq 20 a _ n 1 hod, Nat.one_mul]
/-- the order of 2 modulo d -/
def per (d : Nat) : Nat → Nat → Nat → Nat
  | 0, _, _ => 0
  | f + 1, x, i => if x = 1 then i else per d f (x * 2 % d) (i + 1)
theorem per_spec (d : Nat) : ∀ f x i, x = 2 ^ i % d → (∀ j, 1 ≤ j → j < i → 2 ^ j % d ≠ 1) → per d f x i ≠ 0 → 2 ^ per d f x i % d = 1 ∧ ∀ j, 1 ≤ j → j < per d f x i → 2 ^ j % d ≠ 1
  | 0, x, i, hx, hj, h => absurd rfl h
  | f + 1, x, i, hx, hj, h => by
    unfold per at h ⊢
    by_cases h1 : x = 1
    · rw [if_pos h1]; exact ⟨by rw [← hx]; exact h1, hj⟩
    · rw [if_neg h1] at h ⊢
      exact per_spec d f (x * 2 % d) (i + 1) (by rw [hx, Nat.pow_succ, Nat.mod_mul_mod]) (fun j j1 j2 => by
        by_cases hji : j = i
        · rw [hji, ← hx]; exact h1
        · exact hj j j1 (by omega)) h
theorem per_dvd {d t e : Nat} (hd : 2 ≤ d) (h1 : 2 ^ t % d = 1) (h2 : ∀ j, 1 ≤ j → j < t → 2 ^ j % d ≠ 1) (ht : t ≠ 0) (he : 2 ^ e % d = 1) : t ∣ e := by
  apply Nat.dvd_of_mod_eq_zero
  have hr : 2 ^ (e % t) % d = 1 := by
    have : 2 ^ e % d = 2 ^ (e % t) % d := by
      conv => lhs; rw [← Nat.div_add_mod e t, Nat.pow_add, Nat.pow_mul, Nat.mul_mod, Nat.pow_mod, h1, Nat.one_pow, Nat.mod_eq_of_lt (show 1 < d by omega), Nat.one_mul, Nat.mod_mod]
    rw [← this]; exact he
  rcases Nat.eq_zero_or_pos (e % t) with h | h
  · exact h
  · exact absurd hr (h2 _ h (Nat.mod_lt _ (by omega)))
/-- no number d m with m = m0, m0 + t, .. passes for 2 and 3 -/
def okD (d t : Nat) : Nat → Nat → Bool
  | 0, _ => false
  | f + 1, m => Nat.ble 1048576 (d * m) || ((Nat.blt m d || !(sF (d * m) 2 && sF (d * m) 3)) && okD d t f (m + t))
theorem okD_spec (d t : Nat) (hd : 1 ≤ d) : ∀ f m, okD d t f m = true → ∀ j, d * (m + j * t) < 1048576 → d ≤ m + j * t → (sF (d * (m + j * t)) 2 && sF (d * (m + j * t)) 3) = false
  | 0, m, h => by simp [okD] at h
  | f + 1, m, h => by
    intro j hj hm
    unfold okD at h
    rcases (Bool.or_eq_true _ _).mp h with h | h
    · have := Nat.le_of_ble_eq_true h
      have : d * m ≤ d * (m + j * t) := Nat.mul_le_mul_left d (Nat.le_add_right _ _)
      omega
    obtain ⟨h1, h2⟩ := Bool.and_eq_true_iff.mp h
    cases j with
    | zero =>
      rw [Nat.zero_mul, Nat.add_zero] at hj hm ⊢
      rcases (Bool.or_eq_true _ _).mp h1 with h1 | h1
      · have : m < d := by simpa [Nat.blt_eq] using h1
        omega
      · rcases Bool.eq_false_or_eq_true (sF (d * m) 2 && sF (d * m) 3) with e | e
        · rw [e] at h1; cases h1
        · exact e
    | succ j =>
      have e : m + (j + 1) * t = m + t + j * t := by rw [Nat.add_mul, Nat.one_mul]; omega
      rw [e] at hj hm ⊢
      exact okD_spec d t hd f (m + t) h2 j hj hm
def allD : Nat → Nat → Bool
  | 0, _ => true
  | f + 1, d => (match sieve d bases with
    | some _ => true
    | none => !(per d d (2 % d) 1 == 0) && okD d (per d d (2 % d) 1) 3000 1) && allD f (d + 1)
theorem allD_spec : ∀ f d0, allD f d0 = true → ∀ d, d0 ≤ d → d < d0 + f → sieve d bases = none → (per d d (2 % d) 1 ≠ 0) ∧ okD d (per d d (2 % d) 1) 3000 1 = true
  | 0, d0, h => by intro d h1 h2; omega
  | f + 1, d0, h => by
    intro d h1 h2 hs
    unfold allD at h
    obtain ⟨ha, hb⟩ := Bool.and_eq_true_iff.mp h
    by_cases hd : d = d0
    · subst hd
      rw [hs] at ha
      obtain ⟨hx, hy⟩ := Bool.and_eq_true_iff.mp ha
      exact ⟨by simpa using hx, hy⟩
    · exact allD_spec f (d0 + 1) hb d (by omega) (by omega) hs
theorem all_a : allD 62 38 = true := by kernel_rfl
theorem all_b : allD 200 100 = true := by kernel_rfl
theorem all_c : allD 724 300 = true := by kernel_rfl
theorem sieve_of_dvd {n d : Nat} (h : d ∣ n) (hd : 37 < d) (hs : sieve n bases = none) : sieve d bases = none := by
  cases hc : sieve d bases with
  | none => rfl
  | some b =>
    obtain ⟨q, hq, h1, -⟩ := sieve_some hc
    exact absurd (Nat.mod_eq_zero_of_dvd (Nat.dvd_trans (Nat.dvd_of_mod_eq_zero h1) h)) (sieve_none hs q hq)
theorem isP_comp {n : Nat} (h2 : 2 ≤ n) (h : n < 1048576) (hp : ¬ Prime n) : isP n = false := by
  cases hs : sieve n bases with
  | some b =>
    obtain ⟨q, hq, h1, h3⟩ := sieve_some hs
    rw [isP_some h2 hs, h3]
    have : n ≠ q := by rintro rfl; exact hp (bases_prime hq)
    simpa using this
  | none =>
    obtain ⟨hb, ho⟩ := sieve_big h2 hs
    cases hP : isP n with
    | false => rfl
    | true =>
      exfalso
      rw [isP_none h2 hs, List.all_eq_true] at hP
      obtain ⟨d, m, hd, hm, hdm⟩ := low_prime h2 hp
      have hdv : d ∣ n := ⟨m, hm⟩
      have h37 : 37 < d := by
        apply Classical.byContradiction
        intro hc
        have key : ∀ d, d ≤ 37 → 2 ≤ d → ∃ q ∈ bases, d % q = 0 := by decide
        obtain ⟨q, hq, h1⟩ := key d (by omega) hd.1
        exact absurd (Nat.mod_eq_zero_of_dvd (Nat.dvd_trans (Nat.dvd_of_mod_eq_zero h1) hdv)) (sieve_none hs q hq)
      have hd1024 : d < 1024 := by
        apply Classical.byContradiction
        intro hc
        have : 1024 * 1024 ≤ d * m := Nat.mul_le_mul (by omega) (by omega)
        omega
      have hds := sieve_of_dvd hdv h37 hs
      have hdo := (sieve_big (by omega) hds).2
      have hok : per d d (2 % d) 1 ≠ 0 ∧ okD d (per d d (2 % d) 1) 3000 1 = true := by
        rcases Nat.lt_or_ge d 100 with h | h
        · exact allD_spec 62 38 all_a d (by omega) (by omega) hds
        · rcases Nat.lt_or_ge d 300 with h | h
          · exact allD_spec 200 100 all_b d (by omega) (by omega) hds
          · exact allD_spec 724 300 all_c d (by omega) (by omega) hds
      obtain ⟨o1, o2⟩ := per_spec d d (2 % d) 1 (by rw [Nat.pow_one]) (fun j j1 j2 => by omega) hok.1
      have f2 := strong_fermat (by omega) ho (by omega) (hP 2 (by decide))
      have g2 : 2 ^ (n - 1) % d = 1 := by
        have := congrArg (· % d) f2
        simp only [Nat.mod_mod_of_dvd _ hdv] at this
        rw [this, Nat.mod_eq_of_lt (by omega)]
      have hfd := fermat (a := 2) hd hdo (by rw [Nat.mod_eq_of_lt (by omega)]; omega)
      have g3 : 2 ^ (m - 1) % d = 1 := by
        have e : n - 1 = (d - 1) * m + (m - 1) := by
          rw [Nat.sub_mul, Nat.one_mul, ← hm]
          have : m ≤ n := by rw [hm]; exact Nat.le_mul_of_pos_left m (by omega)
          omega
        rw [e, Nat.pow_add, Nat.pow_mul, Nat.mul_mod, Nat.pow_mod, hfd, Nat.one_pow, Nat.mod_eq_of_lt (show 1 < d by omega), Nat.one_mul, Nat.mod_mod] at g2
        exact g2
      obtain ⟨j, hj⟩ := per_dvd (by omega) o1 o2 hok.1 g3
      have hmj : m = 1 + j * per d d (2 % d) 1 := by rw [Nat.mul_comm, ← hj]; omega
      have := okD_spec d _ (by omega) 3000 1 hok.2 j (by rw [← hmj, ← hm]; exact h) (by rw [← hmj]; exact hdm)
      rw [← hmj, ← hm, sF_eq h, sF_eq h, hP 2 (by decide), hP 3 (by decide)] at this
      cases this
theorem isP_iff {n : Nat} (h : n < 1048576) : isP n = true ↔ Prime n := by
  constructor
  · intro hP
    apply Classical.byContradiction
    intro hp
    have h2 : 2 ≤ n := by
      apply Classical.byContradiction
      intro hc
      unfold isP at hP; rw [if_pos (by omega)] at hP; cases hP
    rw [isP_comp h2 h hp] at hP
    cases hP
  · intro hp
    exact isP_prime hp (by omega)
end Pri
end Go.Proofs.YtinlfogpbologaaDoor
