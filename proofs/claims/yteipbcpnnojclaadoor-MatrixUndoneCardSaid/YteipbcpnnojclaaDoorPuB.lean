/- Merged: PtM, PtN, PtO. -/
import Derived.Test.YteipbcpnnojclaaDoorPuA
/- The strong test below 2^61, plain: among the roots of x^g = 1 modulo a prime q, h of them, there are at most about h * h / q neighbours (sums over the whole field, counted twice). -/
namespace Go.Proofs.YteipbcpnnojclaaDoor
set_option linter.unusedVariables false
namespace Pt
open QuadMath (Prime)
/-! ### sums below n -/
def sm : Nat → (Nat → Int) → Int
  | 0, _ => 0
  | n + 1, f => sm n f + f n
theorem sm_congr {f g : Nat → Int} : ∀ n, (∀ i, i < n → f i = g i) → sm n f = sm n g
  | 0, _ => rfl
  | n + 1, h => by
    show sm n f + f n = sm n g + g n
    rw [sm_congr n (fun i hi => h i (by omega)), h n (by omega)]
theorem sm_le {f g : Nat → Int} : ∀ n, (∀ i, i < n → f i ≤ g i) → sm n f ≤ sm n g
  | 0, _ => Int.le_refl _
  | n + 1, h => Int.add_le_add (sm_le n (fun i hi => h i (by omega))) (h n (by omega))
theorem sm_add (f g : Nat → Int) : ∀ n, sm n (fun i => f i + g i) = sm n f + sm n g
  | 0 => rfl
  | n + 1 => by
    show sm n (fun i => f i + g i) + (f n + g n) = sm n f + f n + (sm n g + g n)
    rw [sm_add f g n]; omega
theorem sm_mul (c : Int) (f : Nat → Int) : ∀ n, sm n (fun i => c * f i) = c * sm n f
  | 0 => (Int.mul_zero c).symm
  | n + 1 => by
    show sm n (fun i => c * f i) + c * f n = c * (sm n f + f n)
    rw [sm_mul c f n, Int.mul_add]
theorem sm_mul' (c : Int) (f : Nat → Int) (n : Nat) : sm n (fun i => f i * c) = sm n f * c := by
  rw [Int.mul_comm, ← sm_mul]
  exact sm_congr n (fun i _ => Int.mul_comm _ _)
theorem sm_const (c : Int) : ∀ n : Nat, sm n (fun _ => c) = n * c
  | 0 => by simp [sm]
  | n + 1 => by
    show sm n (fun _ => c) + c = ((n + 1 : Nat) : Int) * c
    rw [sm_const c n, Int.natCast_add, Int.add_mul]; simp
theorem sm_nonneg {f : Nat → Int} (n : Nat) (h : ∀ i, i < n → 0 ≤ f i) : 0 ≤ sm n f := by
  have := sm_le (f := fun _ => 0) n h
  rw [sm_const] at this
  omega
theorem sm_swap (f : Nat → Nat → Int) (m : Nat) : ∀ n, sm n (fun i => sm m (f i)) = sm m (fun j => sm n (fun i => f i j))
  | 0 => by
    show 0 = sm m (fun _ => 0)
    rw [sm_const]; simp
  | n + 1 => by
    show sm n (fun i => sm m (f i)) + sm m (f n) = sm m (fun j => sm n (fun i => f i j) + f n j)
    rw [sm_swap f m n, ← sm_add]
theorem sm_sq (a : Nat → Int) (n : Nat) : sm n a * sm n a = sm n (fun w => sm n (fun z => a w * a z)) := by
  rw [← sm_mul']
  exact sm_congr n (fun i _ => by rw [sm_mul])
theorem sm_at (c : Int) (a : Nat) : ∀ n, sm n (fun i => if i = a then c else 0) = if a < n then c else 0
  | 0 => by simp [sm]
  | n + 1 => by
    show sm n (fun i => if i = a then c else 0) + (if n = a then c else 0) = _
    rw [sm_at c a n]
    by_cases h : n = a
    · rw [if_pos h, if_neg (by omega), if_pos (by omega)]; omega
    · rw [if_neg h]
      by_cases h2 : a < n
      · rw [if_pos h2, if_pos (by omega)]; omega
      · rw [if_neg h2, if_neg (by omega)]; omega
theorem sm_uniq {P : Nat → Prop} [DecidablePred P] : ∀ n, (∀ i j, i < n → j < n → P i → P j → i = j) → sm n (fun i => if P i then 1 else 0) ≤ 1
  | 0, _ => by simp [sm]
  | n + 1, h => by
    show sm n (fun i => if P i then 1 else 0) + (if P n then 1 else 0) ≤ 1
    by_cases hn : P n
    · have : sm n (fun i => if P i then (1 : Int) else 0) = 0 := by
        rw [sm_congr n (g := fun _ => 0) (fun i hi => if_neg (fun hp => by have := h i n (by omega) (by omega) hp hn; omega)), sm_const]; simp
      rw [this, if_pos hn]; omega
    · rw [if_neg hn]
      have := sm_uniq n (fun i j hi hj => h i j (by omega) (by omega))
      omega
/-- an injection of the places -/
theorem sm_inj {q : Nat} {σ : Nat → Nat} {f : Nat → Int} (h0 : ∀ y, 0 ≤ f y) (hs : ∀ c, c < q → σ c < q) (hi : ∀ c d, c < q → d < q → σ c = σ d → c = d) :
    sm q (fun c => f (σ c)) ≤ sm q f := by
  have e : sm q (fun c => f (σ c)) = sm q (fun c => sm q (fun y => f y * (if y = σ c then 1 else 0))) := by
    refine sm_congr q (fun c hc => ?_)
    rw [sm_congr q (g := fun y => if y = σ c then f (σ c) else 0) (fun y _ => by
      by_cases h : y = σ c
      · rw [if_pos h, if_pos h, h, Int.mul_one]
      · rw [if_neg h, if_neg h, Int.mul_zero]), sm_at, if_pos (hs c hc)]
  rw [e, sm_swap]
  refine sm_le q (fun y _ => ?_)
  rw [sm_mul]
  have := sm_uniq (P := fun c => y = σ c) q (fun i j h1 h2 e1 e2 => hi i j h1 h2 (by rw [← e1, ← e2]))
  have h2 := Int.mul_le_mul_of_nonneg_left this (h0 y)
  omega
/-! ### roots -/
def chi (q g x : Nat) : Int := if x ^ g % q = 1 then 1 else 0
theorem chi_cases (q g x : Nat) : chi q g x = 0 ∨ chi q g x = 1 := by unfold chi; split <;> simp
theorem chi_nonneg (q g x : Nat) : 0 ≤ chi q g x := by rcases chi_cases q g x with h | h <;> omega
theorem chi_sq (q g x : Nat) : chi q g x * chi q g x = chi q g x := by rcases chi_cases q g x with h | h <;> rw [h] <;> rfl
theorem chi_one {q g x : Nat} : chi q g x = 1 ↔ x ^ g % q = 1 := by
  unfold chi; split <;> simp_all
def hh (q g : Nat) : Int := sm q (chi q g)
/-- how many roots w make s + c w a root -/
def rr (q g c s : Nat) : Int := sm q (fun w => chi q g w * chi q g ((s + c * w) % q))
/-- how many roots have a root as their neighbour -/
def nb (q g : Nat) : Int := sm q (fun x => chi q g x * chi q g ((1 + x) % q))
theorem aff_inj {q D y c d : Nat} (hq : Prime q) (hD : ¬ q ∣ D) (hc : c < q) (hd : d < q) (h : (y + c * D) % q = (y + d * D) % q) : c = d := by
  have key : ∀ c d, c ≤ d → c < q → d < q → (y + c * D) % q = (y + d * D) % q → c = d := by
    intro c d hle hc hd h
    have h1 := Nat.sub_mod_eq_zero_of_mod_eq h.symm
    rw [Nat.add_sub_add_left, ← Nat.sub_mul] at h1
    rcases prime_dvd_mul hq (Nat.dvd_of_mod_eq_zero h1) with h2 | h2
    · have := Nat.eq_zero_of_dvd_of_lt h2 (by omega)
      omega
    · exact absurd h2 hD
  rcases Nat.le_total c d with hle | hle
  · exact key c d hle hc hd h
  · exact (key d c hle hd hc h.symm).symm
theorem one_not {q : Nat} (hq : Prime q) : ¬ q ∣ 1 := fun h => by have := Nat.le_of_dvd (by omega) h; have := hq.1; omega
theorem shift_le {q g : Nat} (hq : Prime q) (k : Nat) {f : Nat → Int} (h0 : ∀ y, 0 ≤ f y) : sm q (fun s => f ((s + k) % q)) ≤ sm q f := by
  have h2 := hq.1
  refine sm_inj (σ := fun s => (s + k) % q) h0 (fun c _ => Nat.mod_lt _ (by omega)) (fun c d hc hd h => ?_)
  refine aff_inj (D := 1) (y := k) hq (one_not hq) hc hd ?_
  rw [Nat.mul_one, Nat.mul_one, Nat.add_comm k, Nat.add_comm k]; exact h
theorem shift_ge {q g : Nat} (hq : Prime q) (k : Nat) : hh q g ≤ sm q (fun s => chi q g ((s + k) % q)) := by
  have h := shift_le (g := g) hq k (f := fun y => 1 + (-1) * chi q g y) (fun y => by rcases chi_cases q g y with h | h <;> rw [h] <;> decide)
  rw [sm_add, sm_add, sm_mul, sm_mul] at h
  unfold hh
  have e : sm q (chi q g) = sm q (fun i => chi q g i) := rfl
  rw [e]
  omega
theorem hh_nonneg (q g : Nat) : 0 ≤ hh q g := sm_nonneg q (fun i _ => chi_nonneg q g i)
theorem rr_first {q g : Nat} (hq : Prime q) (c : Nat) : hh q g * hh q g ≤ sm q (fun s => rr q g c s) := by
  unfold rr
  rw [sm_swap, show hh q g * hh q g = sm q (fun w => chi q g w * hh q g) by rw [sm_mul']; rfl]
  refine sm_le q (fun w _ => ?_)
  rw [sm_mul]
  exact Int.mul_le_mul_of_nonneg_left (shift_ge hq (c * w)) (chi_nonneg q g w)
/-- two roots w and z -/
theorem two_le {q g : Nat} (hq : Prime q) {w z : Nat} (hw : w < q) (hz : z < q) :
    sm q (fun c => sm q (fun s => chi q g ((s + c * w) % q) * chi q g ((s + c * z) % q))) ≤ hh q g * hh q g + (if z = w then (q : Int) * hh q g - hh q g * hh q g else 0) := by
  have h2 := hq.1
  by_cases h : z = w
  · subst h
    rw [if_pos rfl, show hh q g * hh q g + ((q : Int) * hh q g - hh q g * hh q g) = (q : Int) * hh q g by omega, ← sm_const]
    refine sm_le q (fun c _ => ?_)
    rw [sm_congr q (fun s _ => chi_sq q g ((s + c * z) % q))]
    exact shift_le (g := g) hq (c * z) (chi_nonneg q g)
  · rw [if_neg h, Int.add_zero]
    have h1 : ∀ c, c < q → sm q (fun s => chi q g ((s + c * w) % q) * chi q g ((s + c * z) % q)) ≤ sm q (fun y => chi q g y * chi q g ((y + c * (q - w + z)) % q)) := by
      intro c _
      refine Int.le_trans (Int.le_of_eq (sm_congr q (fun s _ => ?_))) (shift_le (g := g) hq (c * w) (f := fun y => chi q g y * chi q g ((y + c * (q - w + z)) % q)) (fun y => Int.mul_nonneg (chi_nonneg q g _) (chi_nonneg q g _)))
      show _ = chi q g ((s + c * w) % q) * chi q g (((s + c * w) % q + c * (q - w + z)) % q)
      rw [Nat.mod_add_mod, show s + c * w + c * (q - w + z) = s + c * z + c * q by
        obtain ⟨k, rfl⟩ := Nat.le.dest (Nat.le_of_lt hw)
        rw [Nat.add_sub_cancel_left]; grind, Nat.add_mul_mod_self_right]
    refine Int.le_trans (sm_le q h1) ?_
    rw [sm_swap, show hh q g * hh q g = sm q (fun y => chi q g y * hh q g) by rw [sm_mul']; rfl]
    refine sm_le q (fun y _ => ?_)
    rw [sm_mul]
    refine Int.mul_le_mul_of_nonneg_left ?_ (chi_nonneg q g y)
    refine sm_inj (σ := fun c => (y + c * (q - w + z)) % q) (chi_nonneg q g) (fun c _ => Nat.mod_lt _ (by omega)) (fun c d hc hd e => aff_inj hq ?_ hc hd e)
    rintro ⟨k, hk⟩
    rcases k with _ | _ | k
    · omega
    · omega
    · have : q * (k + 1 + 1) = q * k + q + q := by grind
      omega
theorem sm_swap4 (F : Nat → Nat → Nat → Nat → Int) (n : Nat) :
    sm n (fun c => sm n (fun s => sm n (fun w => sm n (fun z => F c s w z)))) = sm n (fun w => sm n (fun z => sm n (fun c => sm n (fun s => F c s w z)))) := by
  rw [sm_congr n (fun c _ => sm_swap (fun s w => sm n (fun z => F c s w z)) n n), sm_swap]
  refine sm_congr n (fun w _ => ?_)
  rw [sm_congr n (fun c _ => sm_swap (fun s z => F c s w z) n n), sm_swap]
theorem rr_second {q g : Nat} (hq : Prime q) :
    sm q (fun c => sm q (fun s => rr q g c s * rr q g c s)) ≤ hh q g * hh q g * (hh q g * hh q g) + hh q g * ((q : Int) * hh q g - hh q g * hh q g) := by
  unfold rr
  rw [sm_congr q (fun c _ => sm_congr q (fun s _ => sm_sq (fun w => chi q g w * chi q g ((s + c * w) % q)) q)), sm_swap4]
  have h1 : ∀ w, w < q → sm q (fun z => sm q (fun c => sm q (fun s => chi q g w * chi q g ((s + c * w) % q) * (chi q g z * chi q g ((s + c * z) % q))))) ≤
      chi q g w * (hh q g * (hh q g * hh q g) + chi q g w * ((q : Int) * hh q g - hh q g * hh q g)) := by
    intro w hw
    have h2 : ∀ z, z < q → sm q (fun c => sm q (fun s => chi q g w * chi q g ((s + c * w) % q) * (chi q g z * chi q g ((s + c * z) % q)))) ≤
        chi q g w * (chi q g z * (hh q g * hh q g) + (if z = w then chi q g w * ((q : Int) * hh q g - hh q g * hh q g) else 0)) := by
      intro z hz
      have e : sm q (fun c => sm q (fun s => chi q g w * chi q g ((s + c * w) % q) * (chi q g z * chi q g ((s + c * z) % q)))) =
          chi q g w * (chi q g z * sm q (fun c => sm q (fun s => chi q g ((s + c * w) % q) * chi q g ((s + c * z) % q)))) := by
        rw [← sm_mul, ← sm_mul]
        refine sm_congr q (fun c _ => ?_)
        rw [← sm_mul, ← sm_mul]
        refine sm_congr q (fun s _ => ?_)
        grind
      rw [e]
      refine Int.mul_le_mul_of_nonneg_left ?_ (chi_nonneg q g w)
      refine Int.le_trans (Int.mul_le_mul_of_nonneg_left (two_le hq hw hz) (chi_nonneg q g z)) (Int.le_of_eq ?_)
      by_cases h : z = w
      · subst h
        rw [if_pos rfl, if_pos rfl, Int.mul_add]
      · rw [if_neg h, if_neg h, Int.mul_add, Int.mul_zero]
    refine Int.le_trans (sm_le q h2) (Int.le_of_eq ?_)
    rw [sm_mul, sm_add, sm_mul', sm_at, if_pos hw]
    rfl
  refine Int.le_trans (sm_le q h1) (Int.le_of_eq ?_)
  rw [sm_congr q (g := fun w => chi q g w * (hh q g * (hh q g * hh q g) + ((q : Int) * hh q g - hh q g * hh q g))) (fun w _ => by
    have := chi_sq q g w
    rw [Int.mul_add, Int.mul_add, ← Int.mul_assoc (chi q g w) (chi q g w), this]), sm_mul']
  show hh q g * _ = _
  rw [Int.mul_add]
  grind
/-! ### neighbours -/
theorem root_mul {q g x y : Nat} (hq : 1 < q) (hx : x ^ g % q = 1) (hy : y ^ g % q = 1) : (x * y) ^ g % q = 1 := by
  rw [Nat.mul_pow, Nat.mul_mod, hx, hy, Nat.one_mul, Nat.mod_eq_of_lt hq]
theorem root_pow {q g x : Nat} (hq : 1 < q) (k : Nat) (hx : x ^ g % q = 1) : (x ^ k) ^ g % q = 1 := by
  rw [← Nat.pow_mul, Nat.mul_comm, Nat.pow_mul, Nat.pow_mod, hx, Nat.one_pow, Nat.mod_eq_of_lt hq]
theorem root_mod {q g x : Nat} : (x % q) ^ g % q = x ^ g % q := (Nat.pow_mod x g q).symm
theorem root_not {q g x : Nat} (hq : Prime q) (hg : 0 < g) (hx : x ^ g % q = 1) : ¬ q ∣ x := by
  rintro ⟨k, rfl⟩
  rw [Nat.mul_pow, show g = g - 1 + 1 by omega, Nat.pow_succ, Nat.mul_comm _ q, Nat.mul_assoc, Nat.mul_mod_right] at hx
  cases hx
theorem nb_le {q g c s : Nat} (hq : Prime q) (hg : 0 < g) (hc : c ^ g % q = 1) (hs : s ^ g % q = 1) : nb q g ≤ rr q g c s := by
  have h2 := hq.1
  have hu : (s * c ^ (g - 1)) ^ g % q = 1 := root_mul hq.1 hs (root_pow hq.1 _ hc)
  refine Int.le_trans (sm_le q (f := fun x => chi q g x * chi q g ((1 + x) % q)) (g := fun x => chi q g (x * (s * c ^ (g - 1)) % q) * chi q g ((s + c * (x * (s * c ^ (g - 1)) % q)) % q)) (fun x _ => ?_))
    (sm_inj (σ := fun x => x * (s * c ^ (g - 1)) % q) (f := fun w => chi q g w * chi q g ((s + c * w) % q)) (fun y => Int.mul_nonneg (chi_nonneg q g _) (chi_nonneg q g _)) (fun x _ => Nat.mod_lt _ (by omega)) (fun x y hx hy e => aff_inj (y := 0) hq (root_not hq hg hu) hx hy (by rw [Nat.zero_add, Nat.zero_add]; exact e)))
  rcases chi_cases q g x with h | h
  · rw [h, Int.zero_mul]; exact Int.mul_nonneg (chi_nonneg q g _) (chi_nonneg q g _)
  rcases chi_cases q g ((1 + x) % q) with h3 | h3
  · rw [h3, Int.mul_zero]; exact Int.mul_nonneg (chi_nonneg q g _) (chi_nonneg q g _)
  have e1 : chi q g (x * (s * c ^ (g - 1)) % q) = 1 := by
    rw [chi_one, root_mod]; exact root_mul hq.1 (chi_one.1 h) hu
  have e2 : chi q g ((s + c * (x * (s * c ^ (g - 1)) % q)) % q) = 1 := by
    have e3 : (s + c * (x * (s * c ^ (g - 1)) % q)) % q = s * (1 + x) % q := by
      have e4 : c * (x * (s * c ^ (g - 1))) = x * s * c ^ g := by
        obtain ⟨k, rfl⟩ : ∃ k, g = k + 1 := ⟨g - 1, by omega⟩
        rw [Nat.add_sub_cancel, Nat.pow_succ]; grind
      rw [Nat.add_mod, Nat.mul_mod_mod, e4, Nat.mul_mod, hc, Nat.mul_one, Nat.mod_mod, ← Nat.add_mod, Nat.mul_add, Nat.mul_one, Nat.mul_comm x s]
    rw [e3, chi_one, root_mod]
    exact root_mul hq.1 hs (by rw [← root_mod]; exact chi_one.1 h3)
  rw [h, h3, e1, e2]; decide
/-- the bound -/
theorem nb_bound {q g : Nat} (hq : Prime q) (hg : 0 < g) (h0 : 0 < hh q g) (hN : hh q g * hh q g ≤ (q : Int) * nb q g) :
    ((q : Int) * nb q g - hh q g * hh q g) * ((q : Int) * nb q g - hh q g * hh q g) ≤ (q : Int) * q * ((q : Int) - hh q g) := by
  have M1 : (q : Int) * (hh q g * hh q g) ≤ sm q (fun c => sm q (fun s => rr q g c s)) := by
    rw [← sm_const]; exact sm_le q (fun c _ => rr_first hq c)
  have M2 := rr_second (g := g) hq
  -- from above
  have V : sm q (fun c => sm q (fun s => ((q : Int) * rr q g c s - hh q g * hh q g) * ((q : Int) * rr q g c s - hh q g * hh q g))) =
      (q : Int) * q * sm q (fun c => sm q (fun s => rr q g c s * rr q g c s)) + (-2 * q * (hh q g * hh q g)) * sm q (fun c => sm q (fun s => rr q g c s)) + (q : Int) * ((q : Int) * (hh q g * hh q g * (hh q g * hh q g))) := by
    have e : ∀ c s, ((q : Int) * rr q g c s - hh q g * hh q g) * ((q : Int) * rr q g c s - hh q g * hh q g) = (q : Int) * q * (rr q g c s * rr q g c s) + ((-2 * q * (hh q g * hh q g)) * rr q g c s + hh q g * hh q g * (hh q g * hh q g)) := by
      intro c s
      generalize rr q g c s = r
      generalize hh q g = h
      generalize (q : Int) = Q
      grind
    rw [sm_congr q (fun c _ => sm_congr q (fun s _ => e c s))]
    rw [sm_congr q (g := fun c => (q : Int) * q * sm q (fun s => rr q g c s * rr q g c s) + ((-2 * q * (hh q g * hh q g)) * sm q (fun s => rr q g c s) + (q : Int) * (hh q g * hh q g * (hh q g * hh q g)))) (fun c _ => by rw [sm_add, sm_add, sm_mul, sm_mul, sm_const])]
    rw [sm_add, sm_add, sm_mul, sm_mul, sm_const, Int.add_assoc]
  -- from below
  have L : hh q g * (hh q g * (((q : Int) * nb q g - hh q g * hh q g) * ((q : Int) * nb q g - hh q g * hh q g))) ≤
      sm q (fun c => sm q (fun s => ((q : Int) * rr q g c s - hh q g * hh q g) * ((q : Int) * rr q g c s - hh q g * hh q g))) := by
    have sqn : ∀ x : Int, 0 ≤ x * x := fun x => by
      rcases Int.le_total 0 x with h | h
      · exact Int.mul_nonneg h h
      · exact Int.mul_nonneg_of_nonpos_of_nonpos h h
    rw [show hh q g * (hh q g * (((q : Int) * nb q g - hh q g * hh q g) * ((q : Int) * nb q g - hh q g * hh q g))) = sm q (fun c => chi q g c * (hh q g * (((q : Int) * nb q g - hh q g * hh q g) * ((q : Int) * nb q g - hh q g * hh q g)))) by rw [sm_mul']; rfl]
    refine sm_le q (fun c _ => ?_)
    rcases chi_cases q g c with h | h
    · rw [h, Int.zero_mul]; exact sm_nonneg q (fun s _ => sqn _)
    rw [h, Int.one_mul, show hh q g * (((q : Int) * nb q g - hh q g * hh q g) * ((q : Int) * nb q g - hh q g * hh q g)) = sm q (fun c => chi q g c * (((q : Int) * nb q g - hh q g * hh q g) * ((q : Int) * nb q g - hh q g * hh q g))) by rw [sm_mul']; rfl]
    refine sm_le q (fun s _ => ?_)
    rcases chi_cases q g s with h' | h'
    · rw [h', Int.zero_mul]; exact sqn _
    rw [h', Int.one_mul]
    have := nb_le hq hg (chi_one.1 h) (chi_one.1 h')
    have h3 : (q : Int) * nb q g ≤ (q : Int) * rr q g c s := Int.mul_le_mul_of_nonneg_left this (by omega)
    exact Int.mul_le_mul (by omega) (by omega) (by omega) (by omega)
  rw [V] at L
  generalize sm q (fun c => sm q (fun s => rr q g c s)) = A at *
  generalize sm q (fun c => sm q (fun s => rr q g c s * rr q g c s)) = B at *
  have hQ : (0 : Int) ≤ (q : Int) := by omega
  generalize hX : ((q : Int) * nb q g - hh q g * hh q g) * ((q : Int) * nb q g - hh q g * hh q g) = X at *
  generalize hh q g = h at *
  generalize (q : Int) = Q at *
  have e1 : Q * Q * B ≤ Q * Q * (h * h * (h * h) + h * (Q * h - h * h)) := Int.mul_le_mul_of_nonneg_left M2 (Int.mul_nonneg hQ hQ)
  have e2 : 2 * Q * (h * h) * (Q * (h * h)) ≤ 2 * Q * (h * h) * A := Int.mul_le_mul_of_nonneg_left M1 (Int.mul_nonneg (by omega) (Int.mul_nonneg (by omega) (by omega)))
  have e3 : -2 * Q * (h * h) * A = - (2 * Q * (h * h) * A) := by grind
  have e4 : h * (h * X) ≤ h * (h * (Q * Q * (Q - h))) := by
    have : Q * Q * (h * h * (h * h) + h * (Q * h - h * h)) - 2 * Q * (h * h) * (Q * (h * h)) + Q * (Q * (h * h * (h * h))) = h * (h * (Q * Q * (Q - h))) := by grind
    omega
  exact Int.le_of_mul_le_mul_left (Int.le_of_mul_le_mul_left e4 h0) h0
/-! ### a list of neighbours -/
theorem sm_list {f : Nat → Int} {q : Nat} (h0 : ∀ y, 0 ≤ f y) : ∀ X : List Nat, X.Nodup → (∀ x ∈ X, x < q ∧ 1 ≤ f x) → (X.length : Int) ≤ sm q f
  | [], _, _ => by simpa using sm_nonneg q (fun i _ => h0 i)
  | x :: X, hN, hX => by
    have hx := hX x (by simp)
    have hN' := List.nodup_cons.1 hN
    have ih := sm_list (f := fun y => f y - (if y = x then f x else 0)) (q := q) (fun y => by
      by_cases h : y = x
      · subst h; rw [if_pos rfl]; omega
      · rw [if_neg h]; have := h0 y; omega) X hN'.2 (fun y hy => by
      have hne : y ≠ x := fun e => hN'.1 (e ▸ hy)
      have := hX y (by simp [hy])
      rw [if_neg hne]; omega)
    have e : sm q (fun y => f y - (if y = x then f x else 0)) = sm q f - f x := by
      have h1 := sm_add (fun y => f y - (if y = x then f x else 0)) (fun y => if y = x then f x else 0) q
      rw [sm_at, if_pos hx.1, sm_congr q (g := f) (fun y _ => by omega)] at h1
      omega
    rw [e] at ih
    rw [List.length_cons]
    omega
/-- a list of roots and a list of neighbours: the sizes -/
theorem hh_le {q g : Nat} (hq : Prime q) (hg : 0 < g) : hh q g ≤ g := by
  have h1 : ∀ n, n ≤ q → sm n (chi q g) = (((List.range n).filter (fun x => decide (x ^ g % q = 1))).length : Int) := by
    intro n
    induction n with
    | zero => intro _; rfl
    | succ n ih =>
      intro hn
      show sm n (chi q g) + chi q g n = _
      rw [ih (by omega), List.range_succ, List.filter_append, List.length_append]
      unfold chi
      by_cases h : n ^ g % q = 1 <;> simp [h]
  unfold hh
  rw [h1 q (Nat.le_refl _)]
  have := unity_le hq hg ((List.range q).filter (fun x => decide (x ^ g % q = 1))) (List.nodup_range.filter _) (fun x hx => by
    obtain ⟨h1, h2⟩ := List.mem_filter.1 hx
    exact ⟨List.mem_range.1 h1, of_decide_eq_true h2⟩)
  omega
theorem hh_pos {q g : Nat} (hq : Prime q) : 0 < hh q g := by
  have h2 := hq.1
  have := sm_list (f := chi q g) (q := q) (chi_nonneg q g) [1] (by simp) (fun x hx => by
    have : x = 1 := by simpa using hx
    subst this
    refine ⟨by omega, ?_⟩
    have : chi q g 1 = 1 := chi_one.2 (by rw [Nat.one_pow, Nat.mod_eq_of_lt (by omega)])
    omega)
  have e : hh q g = sm q (chi q g) := rfl
  rw [e]
  simp at this
  omega
theorem nb_list {q g : Nat} (X : List Nat) (hN : X.Nodup) (hX : ∀ x ∈ X, x < q ∧ x ^ g % q = 1 ∧ (1 + x) ^ g % q = 1) : (X.length : Int) ≤ nb q g := by
  refine sm_list (fun y => Int.mul_nonneg (chi_nonneg q g _) (chi_nonneg q g _)) X hN (fun x hx => ?_)
  obtain ⟨h1, h2, h3⟩ := hX x hx
  rw [chi_one.2 h2, chi_one.2 (show ((1 + x) % q) ^ g % q = 1 by rw [root_mod]; exact h3)]
  exact ⟨h1, by decide⟩
/-- what a list of N neighbours says of g: N q <= g g + q sqrt q -/
theorem nb_main {q g : Nat} (hq : Prime q) (hg : 0 < g) (X : List Nat) (hN : X.Nodup) (hX : ∀ x ∈ X, x < q ∧ x ^ g % q = 1 ∧ (1 + x) ^ g % q = 1)
    {R : Nat} (hR : q ≤ R * R) : q * X.length ≤ g * g + q * R := by
  apply Classical.byContradiction
  intro hlt
  have h1 := nb_list X hN hX
  have h2 := hh_le hq hg
  have h3 := hh_pos (g := g) hq
  have h4 : hh q g * hh q g ≤ (g : Int) * g := Int.mul_le_mul h2 h2 (by omega) (by omega)
  have h5 : (q : Int) * X.length ≤ (q : Int) * nb q g := Int.mul_le_mul_of_nonneg_left h1 (by omega)
  have h6 : (g : Int) * g + (q : Int) * R < (q : Int) * X.length := by
    have : ((g * g + q * R : Nat) : Int) < ((q * X.length : Nat) : Int) := Int.ofNat_lt.2 (by omega)
    simpa using this
  have hQR : (0 : Int) ≤ (q : Int) * R := Int.mul_nonneg (by omega) (by omega)
  have h7 := nb_bound hq hg h3 (by omega)
  have h8 : (q : Int) * R < (q : Int) * nb q g - hh q g * hh q g := by omega
  have h9 : (q : Int) * R * ((q : Int) * R) ≤ ((q : Int) * nb q g - hh q g * hh q g) * ((q : Int) * nb q g - hh q g * hh q g) := Int.mul_le_mul (by omega) (by omega) hQR (by omega)
  have h10 : (q : Int) ≤ (R : Int) * R := by
    have : (q : Int) ≤ ((R * R : Nat) : Int) := Int.ofNat_le.2 hR
    simpa using this
  have q0 : (0 : Int) < (q : Int) := by have := hq.1; omega
  have h11 : (q : Int) * q * q ≤ (q : Int) * R * ((q : Int) * R) := by
    have : (q : Int) * R * ((q : Int) * R) = (q : Int) * q * ((R : Int) * R) := by grind
    rw [this]
    exact Int.mul_le_mul_of_nonneg_left h10 (Int.mul_nonneg (by omega) (by omega))
  have h12 : (q : Int) * q * ((q : Int) - hh q g) < (q : Int) * q * q := Int.mul_lt_mul_of_pos_left (by omega) (Int.mul_pos q0 q0)
  omega
end Pt
end Go.Proofs.YteipbcpnnojclaaDoor

/- The strong test below 2^61, plain: smooth numbers a + b = c give neighbours among the roots; how many there are; what that says of an order. -/
namespace Go.Proofs.YteipbcpnnojclaaDoor
set_option linter.unusedVariables false
set_option maxRecDepth 1000000
namespace Pt
open QuadMath (Prime)
/-! ### fractions of sums -/
structure Sol (q g Y : Nat) (t : Nat × Nat) : Prop where
  a0 : 0 < t.1
  b0 : 0 < t.2
  cop : Nat.gcd t.1 t.2 = 1
  le : t.1 + t.2 ≤ Y
  ra : t.1 ^ g % q = 1
  rb : t.2 ^ g % q = 1
  rc : (t.1 + t.2) ^ g % q = 1
theorem mod_cancel {q x y f : Nat} (h : (x + f) % q = (y + f) % q) : x % q = y % q := by
  have key : ∀ x y, x ≤ y → (x + f) % q = (y + f) % q → x % q = y % q := by
    intro x y hle h
    have h1 := Nat.sub_mod_eq_zero_of_mod_eq h.symm
    rw [Nat.add_sub_add_right] at h1
    obtain ⟨k, hk⟩ := Nat.dvd_of_mod_eq_zero h1
    rw [show y = x + q * k by omega, Nat.add_mul_mod_self_left]
  rcases Nat.le_total x y with hle | hle
  · exact key x y hle h
  · exact (key y x hle h.symm).symm
theorem fr_lt {q g u v : Nat} (hq : 1 < q) : fr q g u v < q := Nat.mod_lt _ (by omega)
theorem frx_root {q g u v : Nat} (hq : 1 < q) (hu : u ^ g % q = 1) (hv : v ^ g % q = 1) : (fr q g u v) ^ g % q = 1 := by
  unfold fr
  rw [root_mod]; exact root_mul hq hu (root_pow hq _ hv)
theorem frx_pos {q g u v : Nat} (hq : 1 < q) (hg : 0 < g) (hu : u ^ g % q = 1) (hv : v ^ g % q = 1) : 0 < fr q g u v := by
  refine Nat.pos_of_ne_zero (fun h => ?_)
  have := frx_root hq hu hv
  rw [h, Nat.zero_pow hg, Nat.zero_mod] at this; cases this
theorem frx_inj {q g u v u' v' : Nat} (hq : 1 < q) (hg : 0 < g) (hv : v ^ g % q = 1) (hv' : v' ^ g % q = 1) (h : fr q g u v = fr q g u' v') (l1 : u * v' < q) (l2 : u' * v < q) : u * v' = u' * v := by
  have a := cross (u := u) (u' := u') hq hg hv hv'
  have b := cross (u := u') (u' := u) hq hg hv' hv
  rw [h, Nat.mul_comm v v', b, Nat.mod_eq_of_lt l1, Nat.mod_eq_of_lt l2] at a
  exact a.symm
theorem frx_neg {q g u v u' v' : Nat} (hq : 1 < q) (hg : 0 < g) (hv : v ^ g % q = 1) (hv' : v' ^ g % q = 1) (h : fr q g u v + fr q g u' v' = q) (l : u * v' + u' * v < q) : u * v' + u' * v = 0 := by
  have a := cross (u := u) (u' := u') hq hg hv hv'
  have b := cross (u := u') (u' := u) hq hg hv' hv
  rw [Nat.mul_comm v' v] at b
  have : (fr q g u v * (v * v') + fr q g u' v' * (v * v')) % q = 0 := by
    rw [← Nat.add_mul, h, Nat.mul_mod_right]
  rw [Nat.add_mod, a, b, ← Nat.add_mod, Nat.mod_eq_of_lt l] at this
  exact this
/-- 1 + a/b = (a + b)/b -/
theorem fr_add {q g a b : Nat} (hq : 1 < q) (hg : 0 < g) (hb : b ^ g % q = 1) : (1 + fr q g a b) % q = fr q g (a + b) b := by
  have e : b * b ^ (g - 1) = b ^ g := by rw [Nat.mul_comm, ← Nat.pow_succ]; congr 1; omega
  show (1 + a * b ^ (g - 1) % q) % q = (a + b) * b ^ (g - 1) % q
  rw [Nat.add_mod_mod, Nat.add_mul, e, Nat.add_comm, Nat.add_mod _ (b ^ g), hb, Nat.mod_add_mod]
/-- a/c + b/c = 1 -/
theorem fr_sum {q g a b : Nat} (hq : 1 < q) (hg : 0 < g) (hc : (a + b) ^ g % q = 1) : (fr q g b (a + b) + fr q g a (a + b)) % q = 1 := by
  have e : (a + b) * (a + b) ^ (g - 1) = (a + b) ^ g := by rw [Nat.mul_comm, ← Nat.pow_succ]; congr 1; omega
  show (b * (a + b) ^ (g - 1) % q + a * (a + b) ^ (g - 1) % q) % q = 1
  rw [← Nat.add_mod, ← Nat.add_mul, Nat.add_comm b, e, hc]
/-- the neighbour below a residue -/
theorem next_neg {q f y : Nat} (hf : f ≤ q) (h : (y + f) % q = 1 % q) : (1 + (q - f)) % q = y % q := by
  refine mod_cancel (f := f) ?_
  rw [h, show 1 + (q - f) + f = 1 + q by omega, Nat.add_mod_right]
def near (q g : Nat) (T : List (Nat × Nat)) : List Nat :=
  T.map (fun t => fr q g t.1 t.2) ++ (T.map (fun t => q - fr q g t.1 (t.1 + t.2)) ++ T.map (fun t => q - fr q g (t.1 + t.2) t.2))
theorem lt_of_mul {a b c d Y q : Nat} (h1 : a ≤ c) (h2 : b ≤ d) (h3 : c ≤ Y) (h4 : d ≤ Y) (hY : Y * Y < q) : a * b < q :=
  Nat.lt_of_le_of_lt (Nat.mul_le_mul (Nat.le_trans h1 h3) (Nat.le_trans h2 h4)) hY
theorem near_ok {q g Y : Nat} {T : List (Nat × Nat)} (hq : 1 < q) (hg : 0 < g) (he : g % 2 = 0) (hY : Y * Y < q) (hN : T.Nodup) (hT : ∀ t ∈ T, Sol q g Y t) :
    (near q g T).Nodup ∧ (near q g T).length = 3 * T.length ∧ ∀ x ∈ near q g T, x < q ∧ x ^ g % q = 1 ∧ (1 + x) ^ g % q = 1 := by
  refine ⟨?_, by simp [near]; omega, ?_⟩
  · have gc : ∀ t : Nat × Nat, Nat.gcd t.1 t.2 = 1 → Nat.gcd t.1 (t.1 + t.2) = 1 ∧ Nat.gcd (t.1 + t.2) t.2 = 1 := fun t h => by
      constructor
      · rw [Nat.gcd_self_add_right]; exact h
      · rw [Nat.gcd_add_self_left]; exact h
    have sub : ∀ x y : Nat, x < q → y < q → q - x = q - y → x = y := fun x y h1 h2 h3 => by omega
    refine List.nodup_append.2 ⟨?_, List.nodup_append.2 ⟨?_, ?_, ?_⟩, ?_⟩
    · refine List.pairwise_map.2 (hN.imp_of_mem (fun {s t} hs ht hne h => hne ?_))
      have S := hT s hs; have T' := hT t ht
      have := frx_inj hq hg S.rb T'.rb h (lt_of_mul (Nat.le_refl _) (Nat.le_refl _) (by have := S.le; omega) (by have := T'.le; omega) hY) (lt_of_mul (Nat.le_refl _) (Nat.le_refl _) (by have := T'.le; omega) (by have := S.le; omega) hY)
      obtain ⟨e1, e2⟩ := frac_eq S.b0 this S.cop T'.cop
      exact Prod.ext e1 e2
    · refine List.pairwise_map.2 (hN.imp_of_mem (fun {s t} hs ht hne h => hne ?_))
      have S := hT s hs; have T' := hT t ht
      have h := sub _ _ (fr_lt hq) (fr_lt hq) h
      have := frx_inj hq hg S.rc T'.rc h (lt_of_mul (Nat.le_refl _) (Nat.le_refl _) (by have := S.le; omega) (by have := T'.le; omega) hY) (lt_of_mul (Nat.le_refl _) (Nat.le_refl _) (by have := T'.le; omega) (by have := S.le; omega) hY)
      obtain ⟨e1, e2⟩ := frac_eq (by have := S.b0; omega) this (gc s S.cop).1 (gc t T'.cop).1
      exact Prod.ext e1 (by omega)
    · refine List.pairwise_map.2 (hN.imp_of_mem (fun {s t} hs ht hne h => hne ?_))
      have S := hT s hs; have T' := hT t ht
      have h := sub _ _ (fr_lt hq) (fr_lt hq) h
      have := frx_inj hq hg S.rb T'.rb h (lt_of_mul (Nat.le_refl _) (Nat.le_refl _) (by have := S.le; omega) (by have := T'.le; omega) hY) (lt_of_mul (Nat.le_refl _) (Nat.le_refl _) (by have := T'.le; omega) (by have := S.le; omega) hY)
      obtain ⟨e1, e2⟩ := frac_eq S.b0 this (gc s S.cop).2 (gc t T'.cop).2
      exact Prod.ext (by omega) e2
    · intro a ha b hb hab
      obtain ⟨s, hs, rfl⟩ := List.mem_map.1 ha
      obtain ⟨t, ht, rfl⟩ := List.mem_map.1 hb
      have S := hT s hs; have T' := hT t ht
      have h := sub _ _ (fr_lt hq) (fr_lt hq) hab
      have := frx_inj hq hg S.rc T'.rb h (lt_of_mul (Nat.le_refl _) (Nat.le_refl _) (by have := S.le; omega) (by have := T'.le; omega) hY) (lt_of_mul (Nat.le_refl _) (Nat.le_refl _) (by have := T'.le; omega) (by have := S.le; omega) hY)
      have s0 := S.b0; have t0 := T'.a0; have s1 := S.a0
      have h1 : s.1 * t.2 ≤ s.1 * (t.1 + t.2) := Nat.mul_le_mul_left _ (by omega)
      have h2 : s.1 * (t.1 + t.2) < (s.1 + s.2) * (t.1 + t.2) := Nat.mul_lt_mul_of_pos_right (by omega) (by omega)
      have h3 : (s.1 + s.2) * (t.1 + t.2) = (t.1 + t.2) * (s.1 + s.2) := Nat.mul_comm _ _
      omega
    · intro a ha b hb hab
      obtain ⟨s, hs, rfl⟩ := List.mem_map.1 ha
      have S := hT s hs
      have s0 := S.b0; have s1 := S.a0
      rcases List.mem_append.1 hb with hb | hb
      · obtain ⟨t, ht, rfl⟩ := List.mem_map.1 hb
        have T' := hT t ht
        have t0 := T'.a0; have t1 := T'.b0
        have l : s.1 * (t.1 + t.2) + t.1 * s.2 < q := by
          have h1 : t.1 * s.2 ≤ s.2 * (t.1 + t.2) := by rw [Nat.mul_comm]; exact Nat.mul_le_mul_left _ (by omega)
          have h2 : (s.1 + s.2) * (t.1 + t.2) < q := lt_of_mul (Nat.le_refl _) (Nat.le_refl _) S.le T'.le hY
          rw [Nat.add_mul] at h2; omega
        have f1 : fr q g s.1 s.2 < q := fr_lt hq
        have f2 : fr q g t.1 (t.1 + t.2) < q := fr_lt hq
        have := frx_neg hq hg S.rb T'.rc (by omega) l
        have := Nat.mul_pos s1 (show 0 < t.1 + t.2 by omega)
        omega
      · obtain ⟨t, ht, rfl⟩ := List.mem_map.1 hb
        have T' := hT t ht
        have t0 := T'.a0; have t1 := T'.b0
        have l : s.1 * t.2 + (t.1 + t.2) * s.2 < q := by
          have h1 : s.1 * t.2 ≤ s.1 * (t.1 + t.2) := Nat.mul_le_mul_left _ (by omega)
          have h2 : (s.1 + s.2) * (t.1 + t.2) < q := lt_of_mul (Nat.le_refl _) (Nat.le_refl _) S.le T'.le hY
          rw [Nat.add_mul] at h2
          rw [Nat.mul_comm (t.1 + t.2)]; omega
        have f1 : fr q g s.1 s.2 < q := fr_lt hq
        have f2 : fr q g (t.1 + t.2) t.2 < q := fr_lt hq
        have := frx_neg hq hg S.rb T'.rb (by omega) l
        have := Nat.mul_pos s1 t1
        omega
  · intro x hx
    rcases List.mem_append.1 hx with h | h
    · obtain ⟨t, ht, rfl⟩ := List.mem_map.1 h
      have S := hT t ht
      refine ⟨fr_lt hq, frx_root hq S.ra S.rb, ?_⟩
      rw [← root_mod, fr_add hq hg S.rb]
      exact frx_root hq S.rc S.rb
    rcases List.mem_append.1 h with h | h
    · obtain ⟨t, ht, rfl⟩ := List.mem_map.1 h
      have S := hT t ht
      have l : fr q g t.1 (t.1 + t.2) < q := fr_lt hq
      have l0 := frx_pos hq hg S.ra S.rc
      refine ⟨by omega, neg_root he l (frx_root hq S.ra S.rc), ?_⟩
      rw [← root_mod, next_neg (Nat.le_of_lt l) (by rw [fr_sum hq hg S.rc, Nat.mod_eq_of_lt hq]), root_mod]
      exact frx_root hq S.rb S.rc
    · obtain ⟨t, ht, rfl⟩ := List.mem_map.1 h
      have S := hT t ht
      have l : fr q g (t.1 + t.2) t.2 < q := fr_lt hq
      have l' : fr q g t.1 t.2 < q := fr_lt hq
      have l0 := frx_pos hq hg S.rc S.rb
      refine ⟨by omega, neg_root he l (frx_root hq S.rc S.rb), ?_⟩
      rw [← root_mod, next_neg (y := q - fr q g t.1 t.2) (Nat.le_of_lt l) (by
        rw [← fr_add hq hg S.rb, Nat.add_mod_mod, show q - fr q g t.1 t.2 + (1 + fr q g t.1 t.2) = 1 + q by omega, Nat.add_mod_right]), root_mod]
      exact neg_root he l' (frx_root hq S.ra S.rb)
/-! ### the kernel counts them -/
def PK : Nat := 0x71c385a50225a2969c26906f6cc42c0c41669f876424a0b3b9b64bdde939381c3029ad22f187eac6cc166783bb231c61eec4b59daf5cb6ff6d4d4175254ae30d1268cbb37c501ce3c10dc0b2d1507d55f85814bb75dab0819a0000
noncomputable def smk (n : Nat) : Bool := Nat.beq (Nat.mod PK n) 0
noncomputable def bld (f : Nat → Bool) (d : Nat) : Nat → Nat := Nat.rec (fun o => Bool.rec 0 1 (f o)) (fun d ih o => Nat.lor (ih o) (Nat.shiftLeft (ih (Nat.add o (Nat.pow 2 d))) (Nat.pow 2 d))) d
noncomputable def Bm : Nat := bld smk 18 0
noncomputable def Rm : Nat := bld (fun j => smk (Nat.sub 262144 j)) 18 0
def nmD (p L : Nat) : Nat := Nat.mul (Nat.sub (Nat.pow 2 p) 2) (Nat.div (Nat.sub (Nat.pow 2 (Nat.mul p L)) 1) (Nat.sub (Nat.pow 2 p) 1))
def NM2 : Nat := nmD 2 131073
def NM3 : Nat := nmD 3 87382
def NM5 : Nat := nmD 5 52429
def NM7 : Nat := nmD 7 37450
def NM11 : Nat := nmD 11 23832
def NM13 : Nat := nmD 13 20165
def NM17 : Nat := nmD 17 15421
def NM19 : Nat := nmD 19 13798
def NM23 : Nat := nmD 23 11398
def NM29 : Nat := nmD 29 9040
def NM31 : Nat := nmD 31 8457
def NM37 : Nat := nmD 37 7085
noncomputable def ml (p N c x : Nat) : Nat := Bool.rec x (Nat.land x N) (Nat.beq (Nat.mod c p) 0)
noncomputable def W (c : Nat) : Nat := (ml 37 NM37 c (ml 31 NM31 c (ml 29 NM29 c (ml 23 NM23 c (ml 19 NM19 c (ml 17 NM17 c (ml 13 NM13 c (ml 11 NM11 c (ml 7 NM7 c (ml 5 NM5 c (ml 3 NM3 c (ml 2 NM2 c (Nat.land (Nat.mod Bm (Nat.pow 2 (Nat.div (Nat.add c 1) 2))) (Nat.shiftRight Rm (Nat.sub 262144 c)))))))))))))))
noncomputable def pop (K2 : Nat) (fuel : Nat) : Nat → Nat := Nat.rec (fun _ => 0) (fun _ ih x => Bool.rec (Nat.add 1 (ih (Nat.sub x (Nat.gcd x K2)))) 0 (Nat.beq x 0)) fuel
noncomputable def popd (K d : Nat) : Nat → Nat := Nat.rec (fun x => pop (Nat.pow 2 K) K (Nat.mod x (Nat.pow 2 K))) (fun d ih x => Bool.rec (Nat.add (ih (Nat.mod x (Nat.pow 2 (Nat.shiftLeft K d)))) (ih (Nat.shiftRight x (Nat.shiftLeft K d)))) 0 (Nat.beq x 0)) d
noncomputable def seg (c0 n : Nat) : Nat := Nat.rec 0 (fun i acc => Nat.add (Bool.rec 0 (popd 4096 6 (W (Nat.add c0 i))) (smk (Nat.add c0 i))) acc) n
noncomputable def chk : List (Nat × Nat) → Nat → Nat → Bool := List.rec (fun _ _ => true) (fun t _ ih Y N => Bool.rec false (ih t.1 t.2) (Nat.ble t.2 (Nat.add N (seg (Nat.add Y 1) (Nat.sub t.1 Y)))))
/-- for sums up to the first number there are at least so many pairs -/
def tabN : List (Nat × Nat) := [(20, 63), (21, 69), (22, 74), (23, 85), (24, 89), (25, 99), (26, 105), (27, 114), (28, 120), (29, 134), (30, 138), (32, 161), (33, 171), (34, 179), (36, 197), (37, 215), (38, 224), (40, 244), (42, 249), (43, 249), (45, 267), (47, 276), (49, 299), (51, 319), (53, 328), (55, 349), (57, 371), (59, 381), (62, 393), (64, 415), (67, 437), (70, 466), (72, 470), (75, 490), (78, 523), (82, 546), (85, 568), (88, 593), (92, 626), (96, 668), (99, 690), (103, 703), (108, 723), (112, 751), (116, 788), (121, 861), (126, 904), (131, 923), (136, 977), (142, 984), (147, 1057), (153, 1105), (159, 1144), (166, 1197), (172, 1261), (179, 1298), (187, 1387), (194, 1418), (202, 1447), (210, 1550), (218, 1588), (227, 1659), (236, 1699), (246, 1764), (255, 1874), (266, 1972), (276, 2032), (287, 2083), (299, 2225), (311, 2263), (323, 2374), (336, 2444), (350, 2579), (364, 2709), (378, 2823), (394, 2917), (409, 3073), (426, 3138), (443, 3268), (460, 3344), (479, 3424), (498, 3609), (518, 3718), (539, 3905), (560, 4032), (583, 4140), (606, 4298), (630, 4499), (656, 4617), (682, 4782), (709, 4912), (738, 5132), (767, 5235), (798, 5369), (830, 5465), (863, 5784), (897, 5971), (933, 6164), (971, 6372), (1010, 6519), (1050, 6691), (1092, 6943), (1136, 7092), (1181, 7255), (1228, 7475), (1278, 7610), (1329, 7772), (1382, 8064), (1437, 8198), (1495, 8428), (1555, 8616), (1617, 8831), (1681, 8973), (1749, 9185), (1819, 9393), (1891, 9618), (1967, 9765), (2046, 9983), (2128, 10233), (2213, 10487), (2301, 10703), (2393, 10900), (2489, 11133), (2589, 11385), (2692, 11600), (2800, 11885), (2912, 12212), (3028, 12410), (3150, 12657), (3276, 12962), (3407, 13227), (3543, 13448), (3685, 13700), (3832, 14016), (3985, 14372), (4145, 14598), (4311, 14952), (4483, 15301), (4662, 15554), (4849, 15926), (5043, 16265), (5245, 16550), (5455, 16823), (5673, 17142), (5900, 17510), (6136, 17800), (6381, 18149), (6636, 18490), (6902, 19038), (7178, 19336), (7465, 19644), (7764, 20037), (8074, 20388), (8397, 20796), (8733, 21120), (9083, 21452), (9446, 21924), (9824, 22269), (10217, 22675), (10625, 23020), (11050, 23525), (11492, 23869), (11952, 24273), (12430, 24721), (12927, 25120), (13445, 25489), (13982, 25835), (14542, 26283), (15123, 26718), (15728, 27174), (16358, 27595), (17012, 28051), (17692, 28457), (18400, 28920), (19136, 29296), (19902, 29852), (20698, 30293), (21526, 30649), (22387, 31032), (23282, 31449), (24213, 31837), (25182, 32332), (26189, 32807), (27237, 33287), (28326, 33649), (29459, 34107), (30638, 34546), (31863, 35065), (33138, 35418), (34463, 35911), (35842, 36341), (37276, 36689), (38767, 37065), (40317, 37422), (41930, 37931), (43607, 38312), (45352, 38697), (47166, 39134), (49052, 39555), (51014, 40048), (53055, 40368), (55177, 40827), (57384, 41126), (59680, 41556), (62067, 41955), (64550, 42443), (67132, 42852), (69817, 43268), (72610, 43640), (75514, 44139), (78535, 44583), (81676, 44960), (84943, 45397), (88341, 45797), (91875, 46250), (95550, 46630), (99372, 47015), (103347, 47441), (107480, 47841), (111780, 48265), (116251, 48644), (120901, 49205), (125737, 49626), (130766, 50067), (135997, 50457), (141437, 50878), (147095, 51276), (152978, 51683), (159097, 52134), (165461, 52545), (172080, 53057), (178963, 53455), (186122, 53911), (193567, 54277), (201309, 54664), (209362, 55110), (217736, 55544), (226446, 55915), (235503, 56330), (244924, 56725), (254721, 57142), (262143, 57392)]
theorem tabN_ok : chk tabN 0 0 = true := by decide +kernel
end Pt
end Go.Proofs.YteipbcpnnojclaaDoor

/- The strong test below 2^61, plain: the kernel's count of smooth sums is right; the bound of an order by it. -/
namespace Go.Proofs.YteipbcpnnojclaaDoor
set_option linter.unusedVariables false
set_option maxRecDepth 1000000
namespace Pt
open QuadMath (Prime)
/-! ### bits -/
theorem bld_bit {f : Nat → Bool} : ∀ d o i, (bld f d o).testBit i = true → i < 2 ^ d ∧ f (o + i) = true
  | 0, o, i, h => by
    have e : bld f 0 o = (Bool.rec 0 1 (f o) : Nat) := rfl
    rw [e] at h
    cases hf : f o with
    | false => rw [hf] at h; simp at h
    | true =>
      rw [hf] at h
      have h1 : (1 : Nat).testBit i = true := h
      have h0 : i = 0 := by
        apply Classical.byContradiction
        intro hi
        rw [Nat.testBit_lt_two_pow (Nat.one_lt_two_pow hi)] at h1; cases h1
      subst h0
      exact ⟨by decide, by rw [Nat.add_zero]; exact hf⟩
  | d + 1, o, i, h => by
    have e : bld f (d + 1) o = (bld f d o ||| bld f d (o + 2 ^ d) <<< 2 ^ d) := rfl
    rw [e, Nat.testBit_or] at h
    rcases (Bool.or_eq_true _ _).mp h with h | h
    · obtain ⟨h1, h2⟩ := bld_bit d o i h
      exact ⟨Nat.lt_trans h1 (Nat.pow_lt_pow_right (by decide) (by omega)), h2⟩
    · rw [Nat.testBit_shiftLeft] at h
      obtain ⟨h1, h2⟩ := (Bool.and_eq_true _ _).mp h
      have h1 := of_decide_eq_true h1
      obtain ⟨h3, h4⟩ := bld_bit d (o + 2 ^ d) (i - 2 ^ d) h2
      refine ⟨by rw [Nat.pow_succ]; omega, ?_⟩
      rw [show o + i = o + 2 ^ d + (i - 2 ^ d) by omega]; exact h4
theorem rep_bit {a c L i : Nat} (ha : 0 < a) (hc : c < 2 ^ a) (h : (c * reps a L).testBit i = true) : c.testBit (i % a) = true := by
  by_cases hi : i < a * L
  · rw [testBit_rep ha hc L i hi] at h; exact h
  · exfalso
    have h1 := reps_mul a L
    have h2 : c * reps a L ≤ (2 ^ a - 1) * reps a L := Nat.mul_le_mul_right _ (by omega)
    rw [Nat.mul_comm] at h1
    have h3 : 2 ^ (a * L) ≤ 2 ^ i := Nat.pow_le_pow_right (by decide) (by omega)
    rw [Nat.testBit_lt_two_pow (by omega)] at h; cases h
theorem nm_bit {p L i : Nat} (hp : 0 < p) (h : (Nat.mul (2 ^ p - 2) (reps p L)).testBit i = true) : i % p ≠ 0 := by
  intro h0
  have h1 := rep_bit (c := 2 ^ p - 2) hp (by have : 0 < 2 ^ p := Nat.pow_pos (by decide); omega) h
  rw [h0] at h1
  obtain ⟨k, rfl⟩ : ∃ k, p = k + 1 := ⟨p - 1, by omega⟩
  rw [Nat.testBit_zero, Nat.pow_succ, show 2 ^ k * 2 - 2 = 2 * (2 ^ k - 1) by omega, Nat.mul_mod_right] at h1
  cases h1
theorem ml_bit {p N c x i : Nat} (h : (ml p N c x).testBit i = true) : x.testBit i = true ∧ (c % p = 0 → N.testBit i = true) := by
  have e : ml p N c x = (Bool.rec x (x &&& N) (Nat.beq (c % p) 0) : Nat) := rfl
  rw [e] at h
  cases hb : Nat.beq (c % p) 0 with
  | false =>
    rw [hb] at h
    refine ⟨h, fun h0 => ?_⟩
    rw [h0] at hb; cases hb
  | true =>
    rw [hb] at h
    have h1 : (x &&& N).testBit i = true := h
    rw [Nat.testBit_and] at h1
    obtain ⟨h2, h3⟩ := (Bool.and_eq_true _ _).mp h1
    exact ⟨h2, fun _ => h3⟩
theorem nmD_bit {p L i : Nat} (hp : 0 < p) (h : (nmD p L).testBit i = true) : i % p ≠ 0 := by
  have e : nmD p L = Nat.mul (2 ^ p - 2) (reps p L) := congrArg (Nat.mul (2 ^ p - 2)) (reps_eq hp L)
  rw [e] at h
  exact nm_bit hp h
theorem nm2 (i : Nat) (h : NM2.testBit i = true) : i % 2 ≠ 0 := by
  unfold NM2 at h
  exact nmD_bit (by decide) h
theorem nm3 (i : Nat) (h : NM3.testBit i = true) : i % 3 ≠ 0 := by
  unfold NM3 at h
  exact nmD_bit (by decide) h
theorem nm5 (i : Nat) (h : NM5.testBit i = true) : i % 5 ≠ 0 := by
  unfold NM5 at h
  exact nmD_bit (by decide) h
theorem nm7 (i : Nat) (h : NM7.testBit i = true) : i % 7 ≠ 0 := by
  unfold NM7 at h
  exact nmD_bit (by decide) h
theorem nm11 (i : Nat) (h : NM11.testBit i = true) : i % 11 ≠ 0 := by
  unfold NM11 at h
  exact nmD_bit (by decide) h
theorem nm13 (i : Nat) (h : NM13.testBit i = true) : i % 13 ≠ 0 := by
  unfold NM13 at h
  exact nmD_bit (by decide) h
theorem nm17 (i : Nat) (h : NM17.testBit i = true) : i % 17 ≠ 0 := by
  unfold NM17 at h
  exact nmD_bit (by decide) h
theorem nm19 (i : Nat) (h : NM19.testBit i = true) : i % 19 ≠ 0 := by
  unfold NM19 at h
  exact nmD_bit (by decide) h
theorem nm23 (i : Nat) (h : NM23.testBit i = true) : i % 23 ≠ 0 := by
  unfold NM23 at h
  exact nmD_bit (by decide) h
theorem nm29 (i : Nat) (h : NM29.testBit i = true) : i % 29 ≠ 0 := by
  unfold NM29 at h
  exact nmD_bit (by decide) h
theorem nm31 (i : Nat) (h : NM31.testBit i = true) : i % 31 ≠ 0 := by
  unfold NM31 at h
  exact nmD_bit (by decide) h
theorem nm37 (i : Nat) (h : NM37.testBit i = true) : i % 37 ≠ 0 := by
  unfold NM37 at h
  exact nmD_bit (by decide) h
/-! ### smooth numbers -/
theorem smk_pos {n : Nat} (h : smk n = true) : 0 < n := by
  refine Nat.pos_of_ne_zero (fun e => ?_)
  subst e
  have : PK % 0 = 0 := Nat.eq_of_beq_eq_true h
  rw [Nat.mod_zero] at this
  exact absurd this (by decide +kernel)
def prim : Nat := 7420738134810
theorem pk_eq : PK = prim ^ 17 := by decide +kernel
theorem prim_eq : prim = 2 * (3 * (5 * (7 * (11 * (13 * (17 * (19 * (23 * (29 * (31 * 37)))))))))) := by decide +kernel
theorem prime_eq {r a : Nat} (hr : Prime r) (ha : a ∈ Pri.bases) (h : r ∣ a) : r = a := by
  rcases (bases_prime a ha).2 r h with e | e
  · have := hr.1; omega
  · exact e
theorem prim_bases {r : Nat} (hr : Prime r) (h : r ∣ prim) : r ∈ Pri.bases := by
  rw [prim_eq] at h
  have key : ∀ a, a ∈ Pri.bases → r ∣ a → r ∈ Pri.bases := fun a ha hd => prime_eq hr ha hd ▸ ha
  rcases prime_dvd_mul hr h with h | h
  · exact key 2 (by decide) h
  rcases prime_dvd_mul hr h with h | h
  · exact key 3 (by decide) h
  rcases prime_dvd_mul hr h with h | h
  · exact key 5 (by decide) h
  rcases prime_dvd_mul hr h with h | h
  · exact key 7 (by decide) h
  rcases prime_dvd_mul hr h with h | h
  · exact key 11 (by decide) h
  rcases prime_dvd_mul hr h with h | h
  · exact key 13 (by decide) h
  rcases prime_dvd_mul hr h with h | h
  · exact key 17 (by decide) h
  rcases prime_dvd_mul hr h with h | h
  · exact key 19 (by decide) h
  rcases prime_dvd_mul hr h with h | h
  · exact key 23 (by decide) h
  rcases prime_dvd_mul hr h with h | h
  · exact key 29 (by decide) h
  rcases prime_dvd_mul hr h with h | h
  · exact key 31 (by decide) h
  exact key 37 (by decide) h
theorem smk_smooth {n : Nat} (h : smk n = true) : Smooth Pri.bases n := by
  refine ⟨smk_pos h, fun r hr hd => ?_⟩
  have h1 : PK % n = 0 := Nat.eq_of_beq_eq_true h
  have h2 : r ∣ PK := Nat.dvd_trans hd (Nat.dvd_of_mod_eq_zero h1)
  rw [pk_eq] at h2
  exact prim_bases hr (prime_dvd_pow hr h2)
/-- what the bit a of W c says -/
theorem w_bit {c a : Nat} (hc : c ≤ 262144) (h : (W c).testBit a = true) : 0 < a ∧ a < c - a ∧ smk a = true ∧ smk (c - a) = true ∧ ∀ p ∈ Pri.bases, c % p = 0 → a % p ≠ 0 := by
  unfold W at h
  obtain ⟨h, n37⟩ := ml_bit h
  obtain ⟨h, n31⟩ := ml_bit h
  obtain ⟨h, n29⟩ := ml_bit h
  obtain ⟨h, n23⟩ := ml_bit h
  obtain ⟨h, n19⟩ := ml_bit h
  obtain ⟨h, n17⟩ := ml_bit h
  obtain ⟨h, n13⟩ := ml_bit h
  obtain ⟨h, n11⟩ := ml_bit h
  obtain ⟨h, n7⟩ := ml_bit h
  obtain ⟨h, n5⟩ := ml_bit h
  obtain ⟨h, n3⟩ := ml_bit h
  obtain ⟨h, n2⟩ := ml_bit h
  have h1 : ((Bm % 2 ^ ((c + 1) / 2)) &&& (Rm >>> (262144 - c))).testBit a = true := h
  rw [Nat.testBit_and, Nat.testBit_mod_two_pow, Nat.testBit_shiftRight] at h1
  obtain ⟨h2, h3⟩ := (Bool.and_eq_true _ _).mp h1
  obtain ⟨h4, h5⟩ := (Bool.and_eq_true _ _).mp h2
  have h4 := of_decide_eq_true h4
  obtain ⟨-, h6⟩ := bld_bit 18 0 a h5
  obtain ⟨-, h7⟩ := bld_bit 18 0 _ h3
  rw [Nat.zero_add] at h6 h7
  have h8 : smk (262144 - (262144 - c + a)) = true := h7
  rw [show 262144 - (262144 - c + a) = c - a by omega] at h8
  have a0 := smk_pos h6
  have b0 := smk_pos h8
  refine ⟨a0, by omega, h6, h8, ?_⟩
  have hb : ∀ p, p ∈ Pri.bases → p = 2 ∨ p = 3 ∨ p = 5 ∨ p = 7 ∨ p = 11 ∨ p = 13 ∨ p = 17 ∨ p = 19 ∨ p = 23 ∨ p = 29 ∨ p = 31 ∨ p = 37 := by
    intro p hp
    simpa [Pri.bases] using hp
  intro p hp
  rcases hb p hp with e | e | e | e | e | e | e | e | e | e | e | e <;> subst e
  · exact fun h0 => nm2 a (n2 h0)
  · exact fun h0 => nm3 a (n3 h0)
  · exact fun h0 => nm5 a (n5 h0)
  · exact fun h0 => nm7 a (n7 h0)
  · exact fun h0 => nm11 a (n11 h0)
  · exact fun h0 => nm13 a (n13 h0)
  · exact fun h0 => nm17 a (n17 h0)
  · exact fun h0 => nm19 a (n19 h0)
  · exact fun h0 => nm23 a (n23 h0)
  · exact fun h0 => nm29 a (n29 h0)
  · exact fun h0 => nm31 a (n31 h0)
  · exact fun h0 => nm37 a (n37 h0)
theorem cop_of {a c : Nat} (ha : smk a = true) (h : ∀ p ∈ Pri.bases, c % p = 0 → a % p ≠ 0) : Nat.gcd a c = 1 := by
  apply Classical.byContradiction
  intro hne
  have a0 := smk_pos ha
  have : 0 < Nat.gcd a c := Nat.gcd_pos_of_pos_left _ a0
  obtain ⟨r, hr, hd⟩ := has_prime (Nat.gcd a c) (by omega)
  have h1 := Nat.dvd_trans hd (Nat.gcd_dvd_left a c)
  have h2 := Nat.dvd_trans hd (Nat.gcd_dvd_right a c)
  exact h r ((smk_smooth ha).2 r hr h1) (Nat.mod_eq_zero_of_dvd h2) (Nat.mod_eq_zero_of_dvd h1)
/-! ### the number of bits -/
theorem clear_low (v y : Nat) : (2 ^ v * (2 * y)).testBit v = false ∧ ∀ i, (2 ^ v * (2 * y)).testBit i = true → (2 ^ v * (2 * y + 1)).testBit i = true := by
  constructor
  · rw [Nat.testBit_two_pow_mul, Nat.sub_self, Nat.testBit_zero, Nat.mul_mod_right]; simp
  · intro i h
    rw [Nat.testBit_two_pow_mul] at h ⊢
    obtain ⟨h1, h2⟩ := (Bool.and_eq_true _ _).mp h
    refine (Bool.and_eq_true _ _).mpr ⟨h1, ?_⟩
    rcases hi : i - v with _ | j
    · rw [hi, Nat.testBit_zero, Nat.mul_mod_right] at h2; simp at h2
    · rw [hi, Nat.testBit_succ] at h2
      rw [Nat.testBit_succ, show (2 * y + 1) / 2 = y by omega]
      rwa [show 2 * y / 2 = y by omega] at h2
theorem pop_ok {K : Nat} : ∀ fuel x, x < 2 ^ K → ∃ L : List Nat, L.Nodup ∧ L.length = pop (2 ^ K) fuel x ∧ ∀ i ∈ L, x.testBit i = true
  | 0, x, _ => ⟨[], List.nodup_nil, rfl, fun i hi => by cases hi⟩
  | fuel + 1, x, hx => by
    have e : pop (2 ^ K) (fuel + 1) x = (Bool.rec (1 + pop (2 ^ K) fuel (x - Nat.gcd x (2 ^ K))) 0 (Nat.beq x 0) : Nat) := rfl
    rw [e]
    cases hb : Nat.beq x 0 with
    | true => exact ⟨[], List.nodup_nil, rfl, fun i hi => by cases hi⟩
    | false =>
      have h0 : x ≠ 0 := fun h => by rw [h] at hb; cases hb
      obtain ⟨v, y, hv, hxe, hg⟩ := low_bit (by omega) hx
      obtain ⟨L, l1, l2, l3⟩ := pop_ok (K := K) fuel (x - 2 ^ v) (Nat.lt_of_le_of_lt (Nat.sub_le _ _) hx)
      have e2 : x - 2 ^ v = 2 ^ v * (2 * y) := by rw [hxe, Nat.mul_add, Nat.mul_one, Nat.add_sub_cancel]
      obtain ⟨c1, c2⟩ := clear_low v y
      rw [e2] at l3
      refine ⟨v :: L, List.nodup_cons.2 ⟨fun hm => ?_, l1⟩, ?_, ?_⟩
      · rw [l3 v hm] at c1; cases c1
      · show L.length + 1 = 1 + pop (2 ^ K) fuel (x - Nat.gcd x (2 ^ K))
        rw [hg, l2, Nat.add_comm]
      · intro i hi
        rw [hxe]
        rcases List.mem_cons.1 hi with h | h
        · subst h
          rw [Nat.testBit_two_pow_mul, Nat.sub_self, Nat.testBit_zero, show (2 * y + 1) % 2 = 1 by omega]; simp
        · exact c2 i (l3 i h)
theorem popd_ok {K : Nat} : ∀ d x, ∃ L : List Nat, L.Nodup ∧ L.length = popd K d x ∧ ∀ i ∈ L, x.testBit i = true
  | 0, x => by
    obtain ⟨L, l1, l2, l3⟩ := pop_ok (K := K) K (x % 2 ^ K) (Nat.mod_lt _ (Nat.pow_pos (by decide)))
    refine ⟨L, l1, l2, fun i hi => ?_⟩
    have := l3 i hi
    rw [Nat.testBit_mod_two_pow] at this
    exact ((Bool.and_eq_true _ _).mp this).2
  | d + 1, x => by
    generalize hh : Nat.shiftLeft K d = h
    have e : popd K (d + 1) x = (Bool.rec (popd K d (x % 2 ^ h) + popd K d (x >>> h)) 0 (Nat.beq x 0) : Nat) := by
      rw [← hh]; rfl
    rw [e]
    cases hb : Nat.beq x 0 with
    | true => exact ⟨[], List.nodup_nil, rfl, fun i hi => by cases hi⟩
    | false =>
      obtain ⟨L, l1, l2, l3⟩ := popd_ok (K := K) d (x % 2 ^ h)
      obtain ⟨L', l1', l2', l3'⟩ := popd_ok (K := K) d (x >>> h)
      refine ⟨L ++ L'.map (· + h), List.nodup_append.2 ⟨l1, List.pairwise_map.2 (l1'.imp (fun {a b} hab h2 => hab (by omega))), ?_⟩, ?_, ?_⟩
      · intro a ha b hb2 hab
        have h1 := l3 a ha
        rw [Nat.testBit_mod_two_pow] at h1
        have := of_decide_eq_true ((Bool.and_eq_true _ _).mp h1).1
        obtain ⟨j, _, hj⟩ := List.mem_map.1 hb2
        omega
      · rw [List.length_append, List.length_map, l2, l2']
      · intro i hi
        rcases List.mem_append.1 hi with hi | hi
        · have := l3 i hi
          rw [Nat.testBit_mod_two_pow] at this
          exact ((Bool.and_eq_true _ _).mp this).2
        · obtain ⟨j, hj, rfl⟩ := List.mem_map.1 hi
          have := l3' j hj
          rw [Nat.testBit_shiftRight, Nat.add_comm] at this
          exact this
/-! ### all pairs -/
structure Pr (t : Nat × Nat) : Prop where
  a0 : 0 < t.1
  lt : t.1 < t.2
  cop : Nat.gcd t.1 t.2 = 1
  sa : smk t.1 = true
  sb : smk t.2 = true
  sc : smk (t.1 + t.2) = true
theorem seg_ok {c0 : Nat} : ∀ n, c0 + n ≤ 262144 + 1 → ∃ T : List (Nat × Nat), T.Nodup ∧ T.length = seg c0 n ∧ ∀ t ∈ T, Pr t ∧ c0 ≤ t.1 + t.2 ∧ t.1 + t.2 < c0 + n
  | 0, _ => ⟨[], List.nodup_nil, rfl, fun t ht => by cases ht⟩
  | n + 1, hn => by
    obtain ⟨T, t1, t2, t3⟩ := seg_ok (c0 := c0) n (by omega)
    have e : seg c0 (n + 1) = (Bool.rec 0 (popd 4096 6 (W (c0 + n))) (smk (c0 + n)) : Nat) + seg c0 n := rfl
    rw [e]
    cases hs : smk (c0 + n) with
    | false => exact ⟨T, t1, by rw [t2]; show seg c0 n = 0 + seg c0 n; omega, fun t ht => by
        obtain ⟨a, b, c⟩ := t3 t ht
        exact ⟨a, b, by omega⟩⟩
    | true =>
      obtain ⟨L, l1, l2, l3⟩ := popd_ok (K := 4096) 6 (W (c0 + n))
      have l4 := fun a ha => w_bit (c := c0 + n) (a := a) (by omega) (l3 a ha)
      refine ⟨L.map (fun a => (a, c0 + n - a)) ++ T, List.nodup_append.2 ⟨List.pairwise_map.2 (l1.imp (fun {a b} hab h2 => hab (Prod.ext_iff.1 h2).1)), t1, ?_⟩, ?_, ?_⟩
      · intro s hs2 t ht hst
        obtain ⟨a, ha, rfl⟩ := List.mem_map.1 hs2
        have := (t3 t ht).2.2
        rw [← hst] at this
        have := l4 a ha
        have h5 : a + (c0 + n - a) < c0 + n := this.elim (fun _ _ => by assumption)
        omega
      · rw [List.length_append, List.length_map, l2, t2]
      · intro t ht
        rcases List.mem_append.1 ht with ht | ht
        · obtain ⟨a, ha, rfl⟩ := List.mem_map.1 ht
          obtain ⟨b1, b2, b3, b4, b5⟩ := l4 a ha
          have e3 : a + (c0 + n - a) = c0 + n := by omega
          refine ⟨⟨b1, b2, ?_, b3, b4, by show smk (a + (c0 + n - a)) = true; rw [e3]; exact hs⟩, by show c0 ≤ a + (c0 + n - a); omega, by show a + (c0 + n - a) < c0 + (n + 1); omega⟩
          have := cop_of b3 b5
          have h6 : Nat.gcd a (a + (c0 + n - a)) = 1 := by rw [e3]; exact this
          rw [Nat.gcd_self_add_right] at h6
          exact h6
        · obtain ⟨a, b, c⟩ := t3 t ht
          exact ⟨a, b, by omega⟩
def asc : List (Nat × Nat) → Nat → Bool
  | [], _ => true
  | t :: l, Y => Nat.ble Y t.1 && asc l t.1
theorem chk_ok : ∀ (l : List (Nat × Nat)) Y N, chk l Y N = true → asc l Y = true → (∀ t ∈ l, t.1 ≤ 262144) → (∃ T : List (Nat × Nat), T.Nodup ∧ N ≤ T.length ∧ ∀ t ∈ T, Pr t ∧ t.1 + t.2 ≤ Y) → Y ≤ 262144 →
    ∀ r ∈ l, ∃ T : List (Nat × Nat), T.Nodup ∧ r.2 ≤ T.length ∧ ∀ t ∈ T, Pr t ∧ t.1 + t.2 ≤ r.1
  | [], _, _, _, _, _, _, _, r, hr => by cases hr
  | (Y', N') :: l, Y, N, h, ha, hl, hT, hY, r, hr => by
    have e : chk ((Y', N') :: l) Y N = (Bool.rec false (chk l Y' N') (Nat.ble N' (N + seg (Y + 1) (Y' - Y))) : Bool) := rfl
    rw [e] at h
    cases hb : Nat.ble N' (N + seg (Y + 1) (Y' - Y)) with
    | false => rw [hb] at h; cases h
    | true =>
      rw [hb] at h
      have h1 := Nat.le_of_ble_eq_true hb
      have hY' : Y' ≤ 262144 := hl (Y', N') (by simp)
      have key : ∃ T : List (Nat × Nat), T.Nodup ∧ N' ≤ T.length ∧ ∀ t ∈ T, Pr t ∧ t.1 + t.2 ≤ Y' := by
        obtain ⟨T, t1, t2, t3⟩ := hT
        obtain ⟨S, s1, s2, s3⟩ := seg_ok (c0 := Y + 1) (Y' - Y) (by omega)
        have hle := Nat.le_of_ble_eq_true ((Bool.and_eq_true _ _).mp ha).1
        have hle : Y ≤ Y' := hle
        · refine ⟨S ++ T, List.nodup_append.2 ⟨s1, t1, ?_⟩, by rw [List.length_append]; omega, ?_⟩
          · intro a ha b hb2 hab
            have := (s3 a ha).2.1
            have := (t3 b hb2).2
            rw [hab] at *
            omega
          · intro t ht
            rcases List.mem_append.1 ht with ht | ht
            · obtain ⟨a, b, c⟩ := s3 t ht
              exact ⟨a, by omega⟩
            · obtain ⟨a, b⟩ := t3 t ht
              exact ⟨a, by omega⟩
      rcases List.mem_cons.1 hr with h2 | h2
      · rw [h2]; exact key
      · exact chk_ok l Y' N' h ((Bool.and_eq_true _ _).mp ha).2 (fun t ht => hl t (by simp [ht])) key hY' r h2
/-- at a prime: N neighbours times six -/
theorem near_tab {q g Y N R : Nat} (hq : Prime q) (hg : 0 < g) (he : g % 2 = 0) (hb : ∀ a ∈ Pri.bases, a ^ g % q = 1) (ht : (Y, N) ∈ tabN) (hY : Y * Y < q) (hR : q ≤ R * R) :
    q * (6 * N) ≤ g * g + q * R := by
  obtain ⟨T, t1, t2, t3⟩ := chk_ok tabN 0 0 tabN_ok (by decide +kernel) (by decide +kernel) ⟨[], List.nodup_nil, Nat.le_refl _, fun t ht => by cases ht⟩ (by decide) _ ht
  have sm := fun u (h : smk u = true) => smooth_pow hq.1 hb u (smk_smooth h)
  have S : ∀ t ∈ T ++ T.map (fun t => (t.2, t.1)), Sol q g Y t := by
    intro t ht
    rcases List.mem_append.1 ht with h | h
    · obtain ⟨p, l⟩ := t3 t h
      have := p.a0; have := p.lt
      exact ⟨p.a0, by omega, p.cop, l, sm _ p.sa, sm _ p.sb, sm _ p.sc⟩
    · obtain ⟨u, hu, rfl⟩ := List.mem_map.1 h
      obtain ⟨p, l⟩ := t3 u hu
      have h1 := p.a0; have h2 := p.lt
      have l' : u.1 + u.2 ≤ Y := l
      exact ⟨by show 0 < u.2; omega, h1, by rw [Nat.gcd_comm]; exact p.cop, by show u.2 + u.1 ≤ Y; omega, sm _ p.sb, sm _ p.sa, by show (u.2 + u.1) ^ g % q = 1; rw [Nat.add_comm]; exact sm _ p.sc⟩
  have hN : (T ++ T.map (fun t => (t.2, t.1))).Nodup := by
    have hS : (T.map (fun t => (t.2, t.1))).Nodup := List.pairwise_map.2 (t1.imp (fun {a b} hab h2 => hab (Prod.ext (Prod.ext_iff.1 h2).2 (Prod.ext_iff.1 h2).1)))
    refine List.nodup_append.2 ⟨t1, hS, ?_⟩
    · intro a ha b hb2 hab
      obtain ⟨u, hu, rfl⟩ := List.mem_map.1 hb2
      have h1 := (t3 a ha).1.lt
      have h2 := (t3 u hu).1.lt
      rw [hab] at h1
      have h1 : u.2 < u.1 := h1
      omega
  obtain ⟨n1, n2, n3⟩ := near_ok hq.1 hg he hY hN S
  have h := nb_main hq hg _ n1 n3 hR
  rw [n2, List.length_append, List.length_map] at h
  have t2' : N ≤ T.length := t2
  have : q * (6 * N) ≤ q * (3 * (T.length + T.length)) := Nat.mul_le_mul_left _ (by omega)
  omega
end Pt
end Go.Proofs.YteipbcpnnojclaaDoor
