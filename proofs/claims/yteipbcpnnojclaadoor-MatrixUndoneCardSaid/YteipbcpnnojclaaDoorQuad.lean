/- Plain numbers for the Jacobi symbol: Gauss's lemma, reciprocity, Euler's criterion. No program in sight. -/
import Derived.Test.YteipbcpnnojclaaDoorWordMath
namespace Go.Proofs.YteipbcpnnojclaaDoor.QuadMath
open WordMath
set_option linter.unusedVariables false
/-! ### finite sums and products over 1..n -/
def sumTo (f : Nat → Nat) : Nat → Nat
  | 0 => 0
  | n + 1 => sumTo f n + f (n + 1)
def prodTo (f : Nat → Int) : Nat → Int
  | 0 => 1
  | n + 1 => prodTo f n * f (n + 1)

theorem sumTo_congr {f g : Nat → Nat} : ∀ (n : Nat), (∀ k, 1 ≤ k → k ≤ n → f k = g k) → sumTo f n = sumTo g n
  | 0, _ => rfl
  | n + 1, h => by
    have := sumTo_congr n (fun k h1 h2 => h k h1 (by omega))
    have := h (n + 1) (by omega) (by omega)
    simp only [sumTo]; omega
theorem prodTo_congr {f g : Nat → Int} : ∀ (n : Nat), (∀ k, 1 ≤ k → k ≤ n → f k = g k) → prodTo f n = prodTo g n
  | 0, _ => rfl
  | n + 1, h => by
    simp only [prodTo]
    rw [prodTo_congr n (fun k h1 h2 => h k h1 (by omega)), h (n + 1) (by omega) (by omega)]
theorem sumTo_add (f g : Nat → Nat) : ∀ n, sumTo (fun k => f k + g k) n = sumTo f n + sumTo g n
  | 0 => rfl
  | n + 1 => by have := sumTo_add f g n; simp only [sumTo]; omega
theorem sumTo_zero : ∀ n, sumTo (fun _ => 0) n = 0
  | 0 => rfl
  | n + 1 => by have := sumTo_zero n; simp only [sumTo]; omega
theorem sumTo_one : ∀ n, sumTo (fun _ => 1) n = n
  | 0 => rfl
  | n + 1 => by have := sumTo_one n; simp only [sumTo]; omega
theorem sumTo_swap (f : Nat → Nat → Nat) (m : Nat) : ∀ n, sumTo (fun k => sumTo (f k) m) n = sumTo (fun j => sumTo (fun k => f k j) n) m
  | 0 => by simp only [sumTo]; exact (sumTo_zero m).symm
  | n + 1 => by
    simp only [sumTo]
    rw [sumTo_swap f m n, ← sumTo_add]
theorem prodTo_mul (f g : Nat → Int) : ∀ n, prodTo (fun k => f k * g k) n = prodTo f n * prodTo g n
  | 0 => rfl
  | n + 1 => by simp only [prodTo]; rw [prodTo_mul f g n]; grind
theorem prodTo_const (c : Int) : ∀ n, prodTo (fun _ => c) n = c ^ n
  | 0 => (Int.pow_zero c).symm
  | n + 1 => by simp only [prodTo]; rw [prodTo_const c n, Int.pow_succ]

/-! ### over a permutation of 1..n -/
def lsum (f : Nat → Nat) (l : List Nat) : Nat := l.foldr (fun k s => f k + s) 0
def lprod (f : Nat → Int) (l : List Nat) : Int := l.foldr (fun k s => f k * s) 1
theorem lsum_perm (f : Nat → Nat) {l m : List Nat} (h : l.Perm m) : lsum f l = lsum f m := by
  induction h with
  | nil => rfl
  | cons x _ ih => simp only [lsum, List.foldr_cons] at *; omega
  | swap x y l => simp only [lsum, List.foldr_cons]; omega
  | trans _ _ h1 h2 => exact h1.trans h2
theorem lprod_perm (f : Nat → Int) {l m : List Nat} (h : l.Perm m) : lprod f l = lprod f m := by
  induction h with
  | nil => rfl
  | cons x _ ih => simp only [lprod, List.foldr_cons] at *; rw [ih]
  | swap x y l => simp only [lprod, List.foldr_cons]; grind
  | trans _ _ h1 h2 => exact h1.trans h2
def upto (n : Nat) : List Nat := (List.range n).map (· + 1)
theorem upto_succ (n : Nat) : upto (n + 1) = upto n ++ [n + 1] := by simp [upto, List.range_succ]
theorem mem_upto {n k : Nat} : k ∈ upto n ↔ 1 ≤ k ∧ k ≤ n := by
  simp only [upto, List.mem_map, List.mem_range]
  constructor
  · rintro ⟨a, h, rfl⟩; omega
  · intro h; exact ⟨k - 1, by omega, by omega⟩
theorem nodup_upto (n : Nat) : (upto n).Nodup := by
  unfold upto
  exact List.pairwise_map.2 (List.nodup_range.imp (fun {a b} h e => h (by omega)))
theorem lsum_append (f : Nat → Nat) (l : List Nat) (a : Nat) : lsum f (l ++ [a]) = lsum f l + f a := by
  induction l with
  | nil => simp [lsum]
  | cons x l ih => simp only [lsum, List.cons_append, List.foldr_cons] at *; omega
theorem lprod_append (f : Nat → Int) (l : List Nat) (a : Nat) : lprod f (l ++ [a]) = lprod f l * f a := by
  induction l with
  | nil => simp [lprod]
  | cons x l ih => simp only [lprod, List.cons_append, List.foldr_cons] at *; rw [ih]; grind
theorem lsum_map (f : Nat → Nat) (g : Nat → Nat) (l : List Nat) : lsum f (l.map g) = lsum (fun k => f (g k)) l := by
  induction l with
  | nil => rfl
  | cons x l ih => simp only [lsum, List.map_cons, List.foldr_cons] at *; omega
theorem lprod_map (f : Nat → Int) (g : Nat → Nat) (l : List Nat) : lprod f (l.map g) = lprod (fun k => f (g k)) l := by
  induction l with
  | nil => rfl
  | cons x l ih => simp only [lprod, List.map_cons, List.foldr_cons] at *; rw [ih]
theorem lsum_upto (f : Nat → Nat) : ∀ n, lsum f (upto n) = sumTo f n
  | 0 => rfl
  | n + 1 => by rw [upto_succ, lsum_append, lsum_upto f n]; rfl
theorem lprod_upto (f : Nat → Int) : ∀ n, lprod f (upto n) = prodTo f n
  | 0 => rfl
  | n + 1 => by rw [upto_succ, lprod_append, lprod_upto f n]; rfl
theorem perm_of_subset : ∀ (l m : List Nat), l.Nodup → (∀ x, x ∈ l → x ∈ m) → m.length ≤ l.length → l.Perm m
  | [], m, _, _, h => by
    have : m = [] := List.length_eq_zero_iff.1 (by simpa using h)
    rw [this]
  | x :: l, m, hn, hs, h => by
    have hx : x ∈ m := hs x (by simp)
    have hp := List.perm_cons_erase hx
    have hl : m.length = (m.erase x).length + 1 := by simpa using hp.length_eq
    have hn' := List.nodup_cons.1 hn
    refine (List.Perm.cons x (perm_of_subset l (m.erase x) hn'.2 (fun y hy => ?_) ?_)).trans hp.symm
    · refine (List.mem_erase_of_ne ?_).2 (hs y (by simp [hy]))
      intro e; subst e; exact hn'.1 hy
    · simp at h; omega
theorem map_perm {f : Nat → Nat} {n : Nat} (h1 : ∀ k, 1 ≤ k → k ≤ n → 1 ≤ f k ∧ f k ≤ n) (h2 : ∀ k j, 1 ≤ k → k ≤ n → 1 ≤ j → j ≤ n → f k = f j → k = j) :
    ((upto n).map f).Perm (upto n) := by
  refine perm_of_subset _ _ ?_ ?_ (by simp)
  · unfold List.Nodup
    rw [List.pairwise_map]
    refine List.Pairwise.imp_of_mem ?_ (nodup_upto n)
    intro a b ha hb hab e
    exact hab (h2 a b (mem_upto.1 ha).1 (mem_upto.1 ha).2 (mem_upto.1 hb).1 (mem_upto.1 hb).2 e)
  · intro x hx
    obtain ⟨k, hk, rfl⟩ := List.mem_map.1 hx
    exact mem_upto.2 (h1 k (mem_upto.1 hk).1 (mem_upto.1 hk).2)
theorem sumTo_perm {f : Nat → Nat} {n : Nat} (h1 : ∀ k, 1 ≤ k → k ≤ n → 1 ≤ f k ∧ f k ≤ n) (h2 : ∀ k j, 1 ≤ k → k ≤ n → 1 ≤ j → j ≤ n → f k = f j → k = j) (g : Nat → Nat) :
    sumTo (fun k => g (f k)) n = sumTo g n := by
  rw [← lsum_upto, ← lsum_upto, ← lsum_perm g (map_perm h1 h2), lsum_map]
theorem prodTo_perm {f : Nat → Nat} {n : Nat} (h1 : ∀ k, 1 ≤ k → k ≤ n → 1 ≤ f k ∧ f k ≤ n) (h2 : ∀ k j, 1 ≤ k → k ≤ n → 1 ≤ j → j ≤ n → f k = f j → k = j) (g : Nat → Int) :
    prodTo (fun k => g (f k)) n = prodTo g n := by
  rw [← lprod_upto, ← lprod_upto, ← lprod_perm g (map_perm h1 h2), lprod_map]

/-! ### Gauss's sign -/
/-- the sign and the size of a remainder r modulo an odd n -/
def sg (r n : Nat) : Int := if 2 * r < n then 1 else -1
def ab (r n : Nat) : Nat := if 2 * r < n then r else n - r
def G (a n : Nat) : Int := prodTo (fun k => sg (a * k % n) n) ((n - 1) / 2)

theorem sg_sq (r n : Nat) : sg r n * sg r n = 1 := by unfold sg; split <;> rfl
theorem sg_cases (r n : Nat) : sg r n = 1 ∨ sg r n = -1 := by unfold sg; split <;> simp
theorem dvd_sub_sg {r n : Nat} (h : r < n) : (n : Int) ∣ (r : Int) - sg r n * (ab r n : Nat) := by
  unfold sg ab
  split
  · exact ⟨0, by omega⟩
  · exact ⟨1, by omega⟩
theorem cop_ne {a n k : Nat} (hg : Nat.Coprime a n) (h1 : 1 ≤ k) (h2 : k < n) : a * k % n ≠ 0 := by
  intro h
  have hd : n ∣ a * k := Nat.dvd_of_mod_eq_zero h
  have := Nat.le_of_dvd (by omega) ((Nat.Coprime.symm hg).dvd_of_dvd_mul_left hd)
  omega
theorem ab_range {a n k : Nat} (ho : n % 2 = 1) (hg : Nat.Coprime a n) (h1 : 1 ≤ k) (h2 : k ≤ (n - 1) / 2) : 1 ≤ ab (a * k % n) n ∧ ab (a * k % n) n ≤ (n - 1) / 2 := by
  have h3 := cop_ne hg h1 (show k < n by omega)
  have h4 : a * k % n < n := Nat.mod_lt _ (by omega)
  unfold ab; split <;> omega
/-- a remainder with a sign and a size is this one -/
theorem sg_uniq {n s : Nat} {r : Nat} {e : Int} (hs1 : 1 ≤ s) (hs2 : s ≤ (n - 1) / 2) (he : e = 1 ∨ e = -1) (hr : r < n) (hd : (n : Int) ∣ (r : Int) - e * (s : Nat)) : sg r n = e ∧ ab r n = s := by
  obtain ⟨c, hc⟩ := hd
  rcases he with rfl | rfl
  · have : c = 0 := by
      have h1 : -(n : Int) < n * c := by omega
      have h2 : (n : Int) * c < n := by omega
      have a1 : -1 < c := by
        apply Int.lt_of_not_ge; intro h
        have := Int.mul_le_mul_of_nonneg_left h (show (0 : Int) ≤ n by omega)
        omega
      have a2 : c < 1 := by
        apply Int.lt_of_not_ge; intro h
        have := Int.mul_le_mul_of_nonneg_left h (show (0 : Int) ≤ n by omega)
        omega
      omega
    subst this
    have : r = s := by omega
    subst this
    unfold sg ab
    rw [if_pos (by omega), if_pos (by omega)]; exact ⟨rfl, rfl⟩
  · have : c = 1 := by
      have h1 : (0 : Int) < n * c := by omega
      have h2 : (n : Int) * c < 2 * n := by omega
      have a1 : 0 < c := by
        apply Int.lt_of_not_ge; intro h
        have := Int.mul_le_mul_of_nonneg_left h (show (0 : Int) ≤ n by omega)
        omega
      have a2 : c < 2 := by
        apply Int.lt_of_not_ge; intro h
        have := Int.mul_le_mul_of_nonneg_left h (show (0 : Int) ≤ n by omega)
        omega
      omega
    subst this
    have : r = n - s := by omega
    subst this
    unfold sg ab
    rw [if_neg (by omega), if_neg (by omega)]; exact ⟨rfl, by omega⟩
theorem mod_eq (x n : Nat) : ((x % n : Nat) : Int) = (x : Int) - n * ((x / n : Nat) : Int) := by
  have := Nat.div_add_mod x n
  have h2 : ((n * (x / n) + x % n : Nat) : Int) = (x : Int) := by rw [this]
  simp only [Int.natCast_add, Int.natCast_mul] at h2; omega
theorem ab_inj {a n : Nat} (ho : n % 2 = 1) (hg : Nat.Coprime a n) (k j : Nat) (hk1 : 1 ≤ k) (hk2 : k ≤ (n - 1) / 2) (hj1 : 1 ≤ j) (hj2 : j ≤ (n - 1) / 2) (h : ab (a * k % n) n = ab (a * j % n) n) : k = j := by
  have hk := @dvd_sub_sg (a * k % n) n (Nat.mod_lt _ (by omega))
  have hj := @dvd_sub_sg (a * j % n) n (Nat.mod_lt _ (by omega))
  rw [h] at hk
  rw [mod_eq] at hk hj
  simp only [Int.natCast_mul] at hk hj
  generalize ((ab (a * j % n) n : Nat) : Int) = t at *
  generalize ((a * k / n : Nat) : Int) = u at *
  generalize ((a * j / n : Nat) : Int) = v at *
  obtain ⟨c, hc⟩ := hk
  obtain ⟨d, hd⟩ := hj
  -- a (k - j) or a (k + j) is divisible by n
  have key : ∀ x : Nat, 1 ≤ x → x < n → ¬ (n : Int) ∣ (a : Int) * x := by
    intro x h1 h2 h3
    have h4 : n ∣ a * x := by exact_mod_cast h3
    exact cop_ne hg h1 h2 (Nat.mod_eq_zero_of_dvd h4)
  rcases sg_cases (a * k % n) n with e1 | e1 <;> rcases sg_cases (a * j % n) n with e2 | e2 <;> rw [e1] at hc <;> rw [e2] at hd
  · rcases Nat.lt_trichotomy k j with hl | hl | hl
    · exact absurd ⟨v + d - u - c, by have : ((j - k : Nat) : Int) = (j : Int) - k := by omega
                                      rw [this]; grind⟩ (key (j - k) (by omega) (by omega))
    · exact hl
    · exact absurd ⟨u + c - v - d, by have : ((k - j : Nat) : Int) = (k : Int) - j := by omega
                                      rw [this]; grind⟩ (key (k - j) (by omega) (by omega))
  · exact absurd ⟨u + c + v + d, by have : ((k + j : Nat) : Int) = (k : Int) + j := by omega
                                    rw [this]; grind⟩ (key (k + j) (by omega) (by omega))
  · exact absurd ⟨u + c + v + d, by have : ((k + j : Nat) : Int) = (k : Int) + j := by omega
                                    rw [this]; grind⟩ (key (k + j) (by omega) (by omega))
  · rcases Nat.lt_trichotomy k j with hl | hl | hl
    · exact absurd ⟨v + d - u - c, by have : ((j - k : Nat) : Int) = (j : Int) - k := by omega
                                      rw [this]; grind⟩ (key (j - k) (by omega) (by omega))
    · exact hl
    · exact absurd ⟨u + c - v - d, by have : ((k - j : Nat) : Int) = (k : Int) - j := by omega
                                      rw [this]; grind⟩ (key (k - j) (by omega) (by omega))
theorem G_cases (a n : Nat) : G a n = 1 ∨ G a n = -1 := by
  unfold G
  generalize (n - 1) / 2 = h
  induction h with
  | zero => exact Or.inl rfl
  | succ k ih =>
    simp only [prodTo]
    rcases ih with ih | ih <;> rcases sg_cases (a * (k + 1) % n) n with e | e <;> rw [ih, e] <;> simp
theorem G_mod (a n : Nat) : G (a % n) n = G a n := by
  unfold G
  apply prodTo_congr
  intro k _ _
  rw [Nat.mod_mul_mod]
theorem G_mul {a b n : Nat} (ho : n % 2 = 1) (ha : Nat.Coprime a n) (hb : Nat.Coprime b n) : G (a * b) n = G a n * G b n := by
  have h : ∀ k, 1 ≤ k → k ≤ (n - 1) / 2 → sg (a * b * k % n) n = sg (b * k % n) n * sg (a * ab (b * k % n) n % n) n := by
    intro k h1 h2
    have r := ab_range ho hb h1 h2
    have r2 := ab_range ho ha r.1 r.2
    have d1 := @dvd_sub_sg (b * k % n) n (Nat.mod_lt _ (by omega))
    have d2 := @dvd_sub_sg (a * ab (b * k % n) n % n) n (Nat.mod_lt _ (by omega))
    refine (sg_uniq (s := ab (a * ab (b * k % n) n % n) n) r2.1 r2.2 ?_ (Nat.mod_lt _ (by omega)) ?_).1
    · rcases sg_cases (b * k % n) n with e1 | e1 <;> rcases sg_cases (a * ab (b * k % n) n % n) n with e2 | e2 <;> rw [e1, e2] <;> simp
    · generalize ab (a * ab (b * k % n) n % n) n = t at *
      generalize sg (a * ab (b * k % n) n % n) n = e at *
      generalize ab (b * k % n) n = s at *
      generalize sg (b * k % n) n = f at *
      rw [mod_eq] at d1 d2 ⊢
      obtain ⟨c, hc⟩ := d1
      obtain ⟨d, hd⟩ := d2
      simp only [Int.natCast_mul] at *
      refine ⟨a * (c + ((b * k / n : Nat) : Int)) + f * (d + ((a * s / n : Nat) : Int)) - ((a * b * k / n : Nat) : Int), ?_⟩
      generalize ((a * b * k / n : Nat) : Int) = x at *
      generalize ((a * s / n : Nat) : Int) = y at *
      generalize ((b * k / n : Nat) : Int) = z at *
      grind
  unfold G
  rw [prodTo_congr _ h, prodTo_mul, Int.mul_comm]
  congr 1
  exact prodTo_perm (f := fun k => ab (b * k % n) n) (fun k h1 h2 => ab_range ho hb h1 h2) (fun k j a1 a2 a3 a4 e => ab_inj ho hb k j a1 a2 a3 a4 e) (fun s => sg (a * s % n) n)
/-! ### the factor 2 -/
theorem G_two_run (n : Nat) : ∀ m, prodTo (fun k => if 4 * k < n then (1 : Int) else -1) m = (if m ≤ (n - 1) / 4 then 1 else (-1) ^ (m - (n - 1) / 4))
  | 0 => by simp [prodTo]
  | m + 1 => by
    simp only [prodTo]
    rw [G_two_run n m]
    by_cases h : m + 1 ≤ (n - 1) / 4
    · rw [if_pos (by omega), if_pos (by omega), if_pos h]; rfl
    · rw [if_neg h]
      by_cases h2 : m ≤ (n - 1) / 4
      · rw [if_pos h2, if_neg (by omega), show m + 1 - (n - 1) / 4 = 1 from by omega]; rfl
      · rw [if_neg h2, if_neg (by omega), show m + 1 - (n - 1) / 4 = (m - (n - 1) / 4) + 1 from by omega, Int.pow_succ]
theorem neg_pow (k : Nat) : (-1 : Int) ^ k = if k % 2 = 0 then 1 else -1 := by
  induction k with
  | zero => rfl
  | succ k ih => rw [Int.pow_succ, ih]; split <;> split <;> first | rfl | omega
theorem G_two {n : Nat} (ho : n % 2 = 1) : G 2 n = two n := by
  unfold G
  rw [prodTo_congr (g := fun k => if 4 * k < n then (1 : Int) else -1) _ (fun k h1 h2 => ?_), G_two_run]
  · unfold two
    rw [neg_pow]
    repeat' split
    all_goals first | rfl | omega
  · have : 2 * k % n = 2 * k := Nat.mod_eq_of_lt (by omega)
    unfold sg; rw [this]
    split <;> split <;> first | rfl | omega

/-! ### reciprocity -/
/-- how many remainders are beyond the middle -/
def mu (a n : Nat) : Nat := sumTo (fun k => if 2 * (a * k % n) < n then 0 else 1) ((n - 1) / 2)
theorem G_mu (a n : Nat) : G a n = (-1) ^ mu a n := by
  unfold G mu
  generalize (n - 1) / 2 = h
  induction h with
  | zero => rfl
  | succ k ih =>
    simp only [prodTo, sumTo]
    rw [ih, Int.pow_add]
    congr 1
    unfold sg; split <;> rfl
theorem sumTo_par {f g : Nat → Nat} : ∀ (n : Nat), (∀ k, 1 ≤ k → k ≤ n → f k % 2 = g k % 2) → sumTo f n % 2 = sumTo g n % 2
  | 0, _ => rfl
  | n + 1, h => by
    have := sumTo_par n (fun k h1 h2 => h k h1 (by omega))
    have := h (n + 1) (by omega) (by omega)
    simp only [sumTo]; omega
def fl (a n : Nat) : Nat := sumTo (fun k => a * k / n) ((n - 1) / 2)
theorem mu_fl {a n : Nat} (ha : a % 2 = 1) (ho : n % 2 = 1) (hg : Nat.Coprime a n) : mu a n % 2 = fl a n % 2 := by
  have h1 : sumTo (fun k => k) ((n - 1) / 2) % 2 = sumTo (fun k => a * k / n + (ab (a * k % n) n + if 2 * (a * k % n) < n then 0 else 1)) ((n - 1) / 2) % 2 := by
    apply sumTo_par
    intro k _ _
    have e := Nat.div_add_mod (a * k) n
    have hr : a * k % n < n := Nat.mod_lt _ (by omega)
    have e1 : a * k % 2 = k % 2 := by rw [Nat.mul_mod, ha]; simp
    have e2 : n * (a * k / n) % 2 = a * k / n % 2 := by rw [Nat.mul_mod, ho]; simp
    unfold ab
    generalize a * k = x at *
    generalize n * (x / n) = z at *
    split <;> omega
  rw [sumTo_add, sumTo_add] at h1
  have h2 := sumTo_perm (f := fun k => ab (a * k % n) n) (fun k h1 h2 => ab_range ho hg h1 h2) (fun k j a1 a2 a3 a4 e => ab_inj ho hg k j a1 a2 a3 a4 e) (fun s => s)
  rw [h2] at h1
  unfold mu fl
  omega
theorem count_le (d : Nat) : ∀ m, sumTo (fun j => if j ≤ d then 1 else 0) m = min d m
  | 0 => by simp [sumTo]
  | m + 1 => by
    simp only [sumTo]; rw [count_le d m]
    split <;> omega
theorem fl_count {a n : Nat} (ha : a % 2 = 1) (ho : n % 2 = 1) : fl a n = sumTo (fun k => sumTo (fun j => if n * j ≤ a * k then 1 else 0) ((a - 1) / 2)) ((n - 1) / 2) := by
  unfold fl
  apply sumTo_congr
  intro k h1 h2
  have hle : a * k / n ≤ (a - 1) / 2 := by
    have h3 : 2 * k < n := by omega
    have h4 : a * (2 * k) < a * n := Nat.mul_lt_mul_of_pos_left h3 (by omega)
    have h5 : a * k / n * n ≤ a * k := Nat.div_mul_le_self _ _
    have h6 : 2 * (a * k / n) < a := by
      apply Nat.lt_of_mul_lt_mul_right (a := n)
      rw [Nat.mul_assoc]
      rw [← Nat.mul_assoc, Nat.mul_comm a 2, Nat.mul_assoc] at h4
      omega
    omega
  have hc := count_le (a * k / n) ((a - 1) / 2)
  rw [Nat.min_eq_left hle] at hc
  rw [← hc]
  apply sumTo_congr
  intro j _ _
  have : j ≤ a * k / n ↔ n * j ≤ a * k := by
    rw [Nat.le_div_iff_mul_le (by omega), Nat.mul_comm j n]
  by_cases hj : j ≤ a * k / n
  · rw [if_pos hj, if_pos (this.1 hj)]
  · rw [if_neg hj, if_neg (fun e => hj (this.2 e))]
theorem fl_both {a n : Nat} (ha : a % 2 = 1) (ho : n % 2 = 1) (hg : Nat.Coprime a n) : fl a n + fl n a = (a - 1) / 2 * ((n - 1) / 2) := by
  rw [fl_count ha ho, fl_count ho ha, sumTo_swap, ← sumTo_add]
  rw [sumTo_congr (g := fun _ => (n - 1) / 2)]
  · have : ∀ c m, sumTo (fun _ => c) m = m * c := by
      intro c m
      induction m with
      | zero => simp [sumTo]
      | succ m ih => simp only [sumTo]; rw [ih, Nat.succ_mul]
    exact this _ _
  · intro j h1 h2
    rw [← sumTo_add]
    rw [sumTo_congr (g := fun _ => 1), sumTo_one]
    intro k h3 h4
    have hne : n * j ≠ a * k := by
      intro e
      have : n ∣ a * k := ⟨j, e.symm⟩
      have := Nat.le_of_dvd (by omega) ((Nat.Coprime.symm hg).dvd_of_dvd_mul_left this)
      omega
    split <;> split <;> omega
theorem G_swap {a n : Nat} (ha : a % 2 = 1) (ho : n % 2 = 1) (hg : Nat.Coprime a n) : G a n = swap a n * G n a := by
  have h1 := mu_fl ha ho hg
  have h2 := mu_fl ho ha hg.symm
  have h3 := fl_both ha ho hg
  rw [G_mu, G_mu, neg_pow, neg_pow]
  have h4 : (mu a n + mu n a) % 2 = (a - 1) / 2 * ((n - 1) / 2) % 2 := by omega
  rw [Nat.mul_mod] at h4
  unfold swap
  rcases Nat.mod_two_eq_zero_or_one ((a - 1) / 2) with e1 | e1 <;> rcases Nat.mod_two_eq_zero_or_one ((n - 1) / 2) with e2 | e2 <;> rw [e1, e2] at h4 <;> simp at h4
  all_goals
    repeat' split
    all_goals first | rfl | omega
theorem cop_two {n : Nat} (ho : n % 2 = 1) : Nat.Coprime 2 n := by
  have h1 : Nat.gcd 2 n ∣ 2 := Nat.gcd_dvd_left _ _
  have h2 : Nat.gcd 2 n ∣ n := Nat.gcd_dvd_right _ _
  have h3 := Nat.le_of_dvd (by omega) h1
  have h4 : Nat.gcd 2 n ≠ 2 := by intro e; rw [e] at h2; omega
  have h5 : Nat.gcd 2 n ≠ 0 := by intro e; rw [e] at h1; omega
  show Nat.gcd 2 n = 1
  omega
theorem J_eq (a : Nat) : ∀ n, n % 2 = 1 → (Nat.gcd a n = 1 → J a n = G a n) ∧ (Nat.gcd a n ≠ 1 → J a n = 0) := by
  induction a using Nat.strongRecOn with
  | _ a ih =>
    intro n ho
    by_cases h0 : a = 0
    · subst h0
      rw [J_zero, Nat.gcd_zero_left]
      by_cases h1 : n = 1
      · subst h1; exact ⟨fun _ => rfl, fun h => absurd rfl h⟩
      · exact ⟨fun h => absurd h h1, fun _ => if_neg h1⟩
    · by_cases h2 : a % 2 = 0
      · obtain ⟨i1, i2⟩ := ih (a / 2) (by omega) n ho
        rw [J_even a n h0 h2]
        have he : a = 2 * (a / 2) := by omega
        have hgc : Nat.gcd a n = Nat.gcd (a / 2) n := by
          conv => lhs; rw [he]
          exact Nat.Coprime.gcd_mul_left_cancel _ (cop_two ho)
        rw [hgc]
        refine ⟨fun hg => ?_, fun hg => ?_⟩
        · rw [i1 hg]
          conv => rhs; rw [he]
          rw [G_mul ho (cop_two ho) hg, G_two ho]
        · rw [i2 hg, Int.mul_zero]
      · have ha : a % 2 = 1 := by omega
        obtain ⟨i1, i2⟩ := ih (n % a) (Nat.mod_lt _ (by omega)) a ha
        rw [J_odd a n ha]
        have hgc : Nat.gcd (n % a) a = Nat.gcd a n := (Nat.gcd_rec a n).symm
        rw [hgc] at i1 i2
        refine ⟨fun hg => ?_, fun hg => ?_⟩
        · rw [i1 hg, G_mod, G_swap ha ho hg]
        · rw [i2 hg, Int.mul_zero]
theorem J_mul {a b n : Nat} (ho : n % 2 = 1) : J (a * b % n) n = J a n * J b n := by
  have hgc : Nat.gcd (a * b % n) n = Nat.gcd (a * b) n := by rw [← Nat.gcd_rec, Nat.gcd_comm]
  obtain ⟨p1, p2⟩ := J_eq (a * b % n) n ho
  obtain ⟨a1, a2⟩ := J_eq a n ho
  obtain ⟨b1, b2⟩ := J_eq b n ho
  rw [hgc] at p1 p2
  by_cases ha : Nat.gcd a n = 1
  · by_cases hb : Nat.gcd b n = 1
    · rw [a1 ha, b1 hb, p1 (Nat.Coprime.mul_left ha hb), G_mod, G_mul ho ha hb]
    · rw [b2 hb, p2 (fun h => hb (Nat.Coprime.coprime_mul_left h)), Int.mul_zero]
  · rw [a2 ha, p2 (fun h => ha (Nat.Coprime.coprime_mul_right h)), Int.zero_mul]
theorem J_zero_iff {a n : Nat} (ho : n % 2 = 1) : J a n = 0 ↔ Nat.gcd a n ≠ 1 := by
  obtain ⟨a1, a2⟩ := J_eq a n ho
  by_cases h : Nat.gcd a n = 1
  · rw [a1 h]; rcases G_cases a n with e | e <;> rw [e] <;> simp [h]
  · rw [a2 h]; simp [h]
/-! ### Euler's criterion -/
theorem prodTo_abs {a n : Nat} (m : Nat) (hm : n ≠ 0) : (n : Int) ∣ prodTo (fun k => ((a * k : Nat) : Int)) m - prodTo (fun k => sg (a * k % n) n * (ab (a * k % n) n : Nat)) m := by
  induction m with
  | zero => exact ⟨0, by simp [prodTo]⟩
  | succ m ih =>
    simp only [prodTo]
    obtain ⟨c, hc⟩ := ih
    obtain ⟨d, hd⟩ := @dvd_sub_sg (a * (m + 1) % n) n (Nat.mod_lt _ (by omega))
    rw [mod_eq] at hd
    generalize prodTo (fun k => ((a * k : Nat) : Int)) m = p at *
    generalize prodTo (fun k => sg (a * k % n) n * (ab (a * k % n) n : Nat)) m = q at *
    generalize sg (a * (m + 1) % n) n * (ab (a * (m + 1) % n) n : Nat) = t at *
    generalize ((a * (m + 1) / n : Nat) : Int) = y at *
    generalize ((a * (m + 1) : Nat) : Int) = x at *
    exact ⟨c * x + q * (d + y), by grind⟩
theorem prodTo_pow (a : Nat) : ∀ m, prodTo (fun k => ((a * k : Nat) : Int)) m = (a : Int) ^ m * prodTo (fun k => (k : Int)) m
  | 0 => by simp [prodTo]
  | m + 1 => by simp only [prodTo]; rw [prodTo_pow a m, Int.pow_succ, Int.natCast_mul]; grind
def fac : Nat → Nat
  | 0 => 1
  | n + 1 => fac n * (n + 1)
theorem prodTo_fac : ∀ m, prodTo (fun k => (k : Int)) m = (fac m : Nat)
  | 0 => rfl
  | m + 1 => by simp only [prodTo, fac]; rw [prodTo_fac m, Int.natCast_mul]
def Prime (n : Nat) : Prop := 2 ≤ n ∧ ∀ d, d ∣ n → d = 1 ∨ d = n
theorem Prime.cop {n k : Nat} (h : Prime n) (h1 : 1 ≤ k) (h2 : k < n) : Nat.Coprime k n := by
  rcases h.2 (Nat.gcd k n) (Nat.gcd_dvd_right _ _) with e | e
  · exact e
  · have := Nat.le_of_dvd (by omega) (Nat.gcd_dvd_left k n); omega
theorem fac_cop {n : Nat} (h : Prime n) : ∀ m, m < n → Nat.Coprime (fac m) n
  | 0, _ => Nat.coprime_one_left n
  | m + 1, hm => by
    simp only [fac]
    exact Nat.Coprime.mul_left (fac_cop h m (by omega)) (h.cop (by omega) hm)
theorem euler {a n : Nat} (hp : Prime n) (ho : n % 2 = 1) (ha : a < n) : ((a ^ ((n - 1) / 2) % n : Nat) : Int) = J a n % n := by
  have h3 : 3 ≤ n := by have := hp.1; omega
  by_cases h0 : a = 0
  · subst h0
    rw [J_zero, if_neg (by omega), Nat.zero_pow (by omega)]; simp
  · have hg : Nat.Coprime a n := hp.cop (by omega) ha
    rw [(J_eq a n ho).1 hg]
    have h1 := @prodTo_abs a n ((n - 1) / 2) (by omega)
    rw [prodTo_pow, prodTo_mul] at h1
    rw [prodTo_perm (f := fun k => ab (a * k % n) n) (fun k h1 h2 => ab_range ho hg h1 h2) (fun k j a1 a2 a3 a4 e => ab_inj ho hg k j a1 a2 a3 a4 e) (fun s => (s : Int)), prodTo_fac] at h1
    have h2 : (n : Int) ∣ ((a : Int) ^ ((n - 1) / 2) - G a n) * (fac ((n - 1) / 2) : Nat) := by
      rw [Int.sub_mul]; exact h1
    have h4 : (n : Int) ∣ (a : Int) ^ ((n - 1) / 2) - G a n := by
      rw [Int.ofNat_dvd_left, Int.natAbs_mul, Int.natAbs_natCast] at h2
      rw [Int.ofNat_dvd_left]
      exact (Nat.Coprime.symm (fac_cop hp _ (by omega))).dvd_of_dvd_mul_right h2
    rw [Int.natCast_emod, Int.natCast_pow]
    exact Int.emod_eq_emod_iff_emod_sub_eq_zero.2 (Int.emod_eq_zero_of_dvd h4)
/-- no odd divisor up to the root: a prime -/
theorem prime_of {n : Nat} (h3 : 3 ≤ n) (ho : n % 2 = 1) (h : ∀ d, 3 ≤ d → d % 2 = 1 → d * d ≤ n → n % d ≠ 0) : Prime n := by
  refine ⟨by omega, ?_⟩
  have key : ∀ d, d ∣ n → d * d ≤ n → d = 1 := by
    intro d hd hq
    have hd0 : d % 2 = 1 := by
      obtain ⟨c, hc⟩ := hd
      rcases Nat.mod_two_eq_zero_or_one d with e | e
      · have : n % 2 = 0 := by rw [hc, Nat.mul_mod, e]; simp
        omega
      · exact e
    by_cases hd3 : 3 ≤ d
    · exact absurd (Nat.mod_eq_zero_of_dvd hd) (h d hd3 hd0 hq)
    · omega
  intro d hd
  obtain ⟨c, hc⟩ := hd
  by_cases hq : d * d ≤ n
  · exact Or.inl (key d ⟨c, hc⟩ hq)
  · right
    have hcd : c < d := by
      apply Nat.lt_of_not_le; intro hl
      exact hq (by rw [hc]; exact Nat.mul_le_mul_left d hl)
    have : c = 1 := key c ⟨d, by rw [hc, Nat.mul_comm]⟩ (by
      rw [hc]; exact Nat.mul_le_mul_right c (Nat.le_of_lt hcd))
    rw [hc, this, Nat.mul_one]
end Go.Proofs.YteipbcpnnojclaaDoor.QuadMath
