/- Products of matrices: associative; the rank of a product is at most both ranks (by counting solutions and images). Plain. -/
import Derived.Test.YteipbcpnnojclaaDoorMgF
namespace Go.Proofs.YteipbcpnnojclaaDoor
set_option linter.unusedVariables false
set_option linter.unusedSimpArgs false
/-! ### sums -/
theorem sumR_swap {f : Nat → Nat → Nat} {m : Nat} : ∀ n, sumR n (fun i => sumR m (fun j => f i j)) = sumR m (fun j => sumR n (fun i => f i j))
  | 0 => (sumR_zero m).symm
  | n + 1 => by
    show sumR n (fun i => sumR m (fun j => f i j)) + sumR m (fun j => f n j) = _
    rw [sumR_swap n, ← sumR_add]; rfl
theorem sumV_add {q : Nat} : ∀ {n : Nat} {f g : List Nat → Nat}, sumV q n (fun x => f x + g x) = sumV q n f + sumV q n g
  | 0, _, _ => rfl
  | n + 1, f, g => by
    rw [sumV, sumV, sumV, ← sumV_add (n := n)]
    exact sumV_ext fun x _ _ => sumR_add q
theorem sumV_const {q c : Nat} : ∀ n, sumV q n (fun _ => c) = q ^ n * c
  | 0 => by rw [sumV, Nat.pow_zero, Nat.one_mul]
  | n + 1 => by
    rw [sumV, sumV_ext (g := fun _ => q * c) (fun x _ _ => sumR_same q), sumV_const n, Nat.pow_succ, Nat.mul_assoc]
theorem sumV_sumR {q k : Nat} {f : List Nat → Nat → Nat} : ∀ {n : Nat}, sumV q n (fun x => sumR k (f x)) = sumR k (fun a => sumV q n (fun x => f x a)) := by
  intro n
  induction k with
  | zero => show sumV q n (fun _ => 0) = 0; rw [sumV_const, Nat.mul_zero]
  | succ k ih =>
    show sumV q n (fun x => sumR k (f x) + f x k) = sumR k _ + sumV q n (fun x => f x k)
    rw [sumV_add, ih]
theorem sumV_swap {q n : Nat} : ∀ {m : Nat} {f : List Nat → List Nat → Nat}, sumV q m (fun b => sumV q n (fun x => f b x)) = sumV q n (fun x => sumV q m (fun b => f b x))
  | 0, _ => rfl
  | m + 1, f => by
    rw [sumV, sumV_ext (g := fun b => sumV q n (fun x => sumR q (fun a => f (a :: b) x))) (fun b _ _ => sumV_sumR.symm), sumV_swap]
    exact sumV_ext fun x _ _ => rfl
theorem sumR_mono {f g : Nat → Nat} : ∀ {k : Nat}, (∀ i, i < k → f i ≤ g i) → sumR k f ≤ sumR k g
  | 0, _ => Nat.le_refl _
  | k + 1, h => Nat.add_le_add (sumR_mono (fun i hi => h i (by omega))) (h k (by omega))
theorem sumV_mono {q : Nat} : ∀ {n : Nat} {f g : List Nat → Nat}, (∀ x, x.length = n → (∀ c ∈ x, c < q) → f x ≤ g x) → sumV q n f ≤ sumV q n g
  | 0, f, g, h => h [] rfl (by simp)
  | n + 1, f, g, h => by
    rw [sumV, sumV]
    refine sumV_mono fun x hx hq => sumR_mono fun a ha => h _ (by rw [List.length_cons, hx]) fun c hc => ?_
    rcases List.mem_cons.1 hc with rfl | hc
    · exact ha
    · exact hq c hc
theorem sumR_get {f : Nat → Nat} : ∀ {k : Nat}, sumR k f ≠ 0 → ∃ i, i < k ∧ f i ≠ 0
  | 0, h => absurd rfl h
  | k + 1, h => by
    by_cases e : f k = 0
    · obtain ⟨i, hi, h2⟩ := sumR_get (k := k) (f := f) (fun e2 => h (by show sumR k f + f k = 0; rw [e2, e]))
      exact ⟨i, by omega, h2⟩
    · exact ⟨k, by omega, e⟩
theorem sumV_get {q : Nat} : ∀ {n : Nat} {f : List Nat → Nat}, sumV q n f ≠ 0 → ∃ x, x.length = n ∧ (∀ c ∈ x, c < q) ∧ f x ≠ 0
  | 0, f, h => ⟨[], rfl, by simp, h⟩
  | n + 1, f, h => by
    rw [sumV] at h
    obtain ⟨x, h1, h2, h3⟩ := sumV_get h
    obtain ⟨a, ha, h4⟩ := sumR_get h3
    exact ⟨a :: x, by rw [List.length_cons, h1], fun c hc => by rcases List.mem_cons.1 hc with rfl | hc; exact ha; exact h2 c hc, h4⟩
theorem le_sumR {f : Nat → Nat} : ∀ {k i : Nat}, i < k → f i ≤ sumR k f
  | k + 1, i, h => by
    show f i ≤ sumR k f + f k
    by_cases e : i = k
    · subst e; omega
    · have := le_sumR (f := f) (show i < k by omega); omega
theorem le_sumV {q : Nat} : ∀ {x : List Nat} {f : List Nat → Nat}, (∀ c ∈ x, c < q) → f x ≤ sumV q x.length f
  | [], f, _ => Nat.le_refl _
  | a :: x, f, h => by
    rw [List.length_cons, sumV]
    refine Nat.le_trans (le_sumR (f := fun a => f (a :: x)) (h a (by simp))) ?_
    exact le_sumV (f := fun x => sumR q (fun a => f (a :: x))) (fun c hc => h c (by simp [hc]))
/-- one vector alone -/
theorem sumV_one {q : Nat} : ∀ {y : List Nat}, (∀ c ∈ y, c < q) → sumV q y.length (fun b => (y == b).toNat) = 1
  | [], _ => rfl
  | a :: y, h => by
    rw [List.length_cons, sumV, ← sumV_one (q := q) (y := y) (fun c hc => h c (by simp [hc]))]
    refine sumV_ext fun b _ _ => ?_
    refine sumR_one (a0 := a) (h a (by simp)) fun c _ => ?_
    by_cases e : c = a
    · subst e; rw [if_pos rfl]; congr 1; rw [Bool.eq_iff_iff, beq_iff_eq, beq_iff_eq]; simp
    · rw [if_neg e]
      have : ((a :: y) == (c :: b)) = false := beq_eq_false_iff_ne.2 (fun h => e (by injection h with h1 _; exact h1.symm))
      rw [this]; rfl
/-! ### products -/
theorem appT_len {q : Nat} {L : List (List Nat)} {x : List Nat} : (appT q L x).length = L.length := tab_len ..
theorem appT_lt {q : Nat} (hq : 0 < q) (L : List (List Nat)) (x : List Nat) : ∀ c ∈ appT q L x, c < q := tab_lt fun i _ => dotN_lt hq _ _ _
theorem appT_getD {q i : Nat} {L : List (List Nat)} {x : List Nat} (h : i < L.length) : (appT q L x).getD i 0 = sumR x.length (fun j => (L.getD i []).getD j 0 * x.getD j 0) % q := by
  unfold appT
  rw [getD_of (tab_get h)]
  exact dotN_sum _
theorem mulT_getD {q n i j : Nat} {L M : List (List Nat)} (hi : i < L.length) (hj : j < n) : ((mulT q n L M).getD i []).getD j 0 = sumR M.length (fun k => (L.getD i []).getD k 0 * (M.getD k []).getD j 0) % q := by
  unfold mulT
  rw [getD_of (l := List.map _ _) (by rw [List.getElem?_map, List.getElem?_range hi]; rfl), getD_of (tab_get hj)]
  unfold mulF
  rw [dotN_sum]
  congr 1
  refine sumR_ext fun k hk => ?_
  unfold colT
  rw [getD_of (tab_get hk)]; rfl
theorem mulL_len {q n : Nat} {L M : List (List Nat)} : (mulT q n L M).length = L.length := by simp [mulT]
theorem mulT_res {q n : Nat} (hq : 0 < q) {L M : List (List Nat)} : ResM q n (mulT q n L M) := by
  intro r hr
  obtain ⟨i, hi, rfl⟩ := List.mem_map.1 hr
  exact ⟨tab_len .., tab_lt fun j _ => dotN_lt hq _ _ _⟩
theorem app_mul {q n : Nat} {A B : List (List Nat)} {x : List Nat} (hx : x.length = n) : appT q (mulT q n A B) x = appT q A (appT q B x) := by
  apply List.ext_getElem?
  intro i
  by_cases h : i < A.length
  · have h1 : i < (appT q (mulT q n A B) x).length := by rw [appT_len, mulL_len]; exact h
    have h2 : i < (appT q A (appT q B x)).length := by rw [appT_len]; exact h
    rw [getE_of (d := 0) h1, getE_of (d := 0) h2, appT_getD (by rw [mulL_len]; exact h), appT_getD h, appT_len, hx]
    congr 1
    rw [sumR_cong (g := fun j => sumR B.length (fun k => (A.getD i []).getD k 0 * ((B.getD k []).getD j 0 * x.getD j 0))) (fun j hj => by
      rw [mulT_getD h hj, Nat.mod_mul_mod, Nat.mul_comm, ← sumR_scale]
      congr 1
      refine sumR_ext fun k _ => ?_
      rw [Nat.mul_comm, Nat.mul_assoc])]
    rw [sumR_swap]
    refine sumR_cong fun k hk => ?_
    rw [sumR_scale, appT_getD hk, Nat.mul_mod_mod, hx]
  · rw [List.getElem?_eq_none (by rw [appT_len, mulL_len]; omega), List.getElem?_eq_none (by rw [appT_len]; omega)]
theorem mul_assoc' {q n m : Nat} {A B C : List (List Nat)} (hC : C.length = n) : mulT q m (mulT q n A B) C = mulT q m A (mulT q m B C) := by
  have hcol : ∀ j, j < m → colT (mulT q m B C) j = appT q B (colT C j) := fun j hj => by
    apply List.ext_getElem?
    intro k
    by_cases h : k < B.length
    · have h1 : k < (colT (mulT q m B C) j).length := by rw [colT_len, mulL_len]; exact h
      have h2 : k < (appT q B (colT C j)).length := by rw [appT_len]; exact h
      rw [getE_of (d := 0) h1, getE_of (d := 0) h2, appT_getD h]
      unfold colT
      rw [getD_of (tab_get (by rw [mulL_len]; exact h))]
      unfold colF
      rw [mulT_getD h hj, tab_len]
      congr 2
      refine sumR_ext fun l hl => ?_
      rw [getD_of (tab_get hl)]
    · rw [List.getElem?_eq_none (by rw [colT_len, mulL_len]; omega), List.getElem?_eq_none (by rw [appT_len]; omega)]
  have hF : ∀ (L M : List (List Nat)) i j, mulF q L M i j = appF q L (colT M j) i := fun L M i j => by
    unfold mulF appF; rw [colT_len]
  unfold mulT
  rw [show ((List.range A.length).map fun i => tab (mulF q A B i) n).length = A.length by simp]
  refine List.map_congr_left fun i hi => ?_
  have hi' := List.mem_range.1 hi
  unfold tab
  refine List.map_congr_left fun j hj => ?_
  have hj' := List.mem_range.1 hj
  have e := app_mul (q := q) (A := A) (B := B) (x := colT C j) (n := n) (by rw [colT_len]; exact hC)
  have e2 : (appT q (mulT q n A B) (colT C j)).getD i 0 = (appT q A (appT q B (colT C j))).getD i 0 := by rw [e]
  unfold appT at e2
  rw [getD_of (tab_get (by rw [mulL_len]; exact hi')), getD_of (tab_get hi')] at e2
  show mulF q (mulT q n A B) C i j = mulF q A (mulT q m B C) i j
  rw [hF, hF, hcol j hj']
  exact e2
/-! ### the pivots of a system are those of its matrix -/
def Agr (n : Nat) (L K : List (List Nat)) : Prop := L.length = K.length ∧ ∀ i, i < L.length → n ≤ (L.getD i []).length ∧ n ≤ (K.getD i []).length ∧ ∀ j, j < n → (L.getD i []).getD j 0 = (K.getD i []).getD j 0
theorem Agr.piv {n : Nat} {L K : List (List Nat)} (h : Agr n L K) (a : Nat) {col : Nat} (hc : col < n) : pivN L a col = pivN K a col := by
  have key : ∀ L : List (List Nat), L.findIdx? (fun r => r.getD col 0 != 0) = (L.map (fun r => r.getD col 0)).findIdx? (· != 0) := fun L => by
    rw [List.findIdx?_map]; rfl
  unfold pivN
  rw [key, key]
  congr 1
  apply List.ext_getElem?
  intro i
  rw [List.getElem?_map, List.getElem?_map, List.getElem?_drop, List.getElem?_drop]
  by_cases hi : a + i < L.length
  · have h2 := (h.2 (a + i) hi).2.2 col hc
    rw [getE_of (d := []) hi, getE_of (d := []) (by rw [← h.1]; exact hi)]
    simp only [Option.map_some]
    rw [h2]
  · rw [List.getElem?_eq_none (by omega), List.getElem?_eq_none (by have := h.1; omega)]
theorem Agr.swap {n : Nat} {L K : List (List Nat)} (h : Agr n L K) {a b : Nat} (ha : a < L.length) (hb : b < L.length) : Agr n (swapL L a b) (swapL K a b) := by
  have hl := h.1
  refine ⟨by rw [swapL_len, swapL_len, hl], fun i hi => ?_⟩
  rw [swapL_len] at hi
  rw [swapL_getD ha hb hi, swapL_getD (by omega) (by omega) (by omega)]
  split
  · exact h.2 a ha
  · split
    · exact h.2 b hb
    · exact h.2 i hi
theorem Agr.elim {q n : Nat} {L K : List (List Nat)} (h : Agr n L K) {row col : Nat} (hr : row < L.length) (hc : col < n) : Agr n (elimL q L row col) (elimL q K row col) := by
  have hl := h.1
  have hp : ∀ j, j < n → (pivR q L row col).getD j 0 = (pivR q K row col).getD j 0 := fun j hj => by
    unfold pivR
    rw [sclN_getD, sclN_getD, (h.2 row hr).2.2 j hj, (h.2 row hr).2.2 col hc]
  refine ⟨by rw [elimL_len, elimL_len, hl], fun i hi => ?_⟩
  rw [elimL_len] at hi
  rw [elimL_getD hi, elimL_getD (by omega)]
  unfold elimR
  split
  · refine ⟨?_, ?_, hp⟩
    · unfold pivR; rw [sclN_len]; exact (h.2 row hr).1
    · unfold pivR; rw [sclN_len]; exact (h.2 row hr).2.1
  · obtain ⟨h1, h2, h3⟩ := h.2 i hi
    refine ⟨by rw [admN_len]; exact h1, by rw [admN_len]; exact h2, fun j hj => ?_⟩
    rw [admN_getD (by omega), admN_getD (by omega), h3 j hj, h3 col hc, hp j hj]
theorem Agr.red {q n : Nat} {L K : List (List Nat)} (h : Agr n L K) : ∀ c, c ≤ n → (redN q L c).2 = (redN q K c).2 ∧ Agr n (redN q L c).1 (redN q K c).1
  | 0, _ => ⟨rfl, h⟩
  | c + 1, hc => by
    obtain ⟨h1, h2⟩ := h.red c (by omega)
    have hp := h2.piv (redN q L c).2.length (show c < n by omega)
    rw [redN, redN]
    cases e : pivN (redN q L c).1 (redN q L c).2.length c with
    | none =>
      rw [redS_none e, redS_none (by rw [← h1, ← hp]; exact e)]
      exact ⟨h1, h2⟩
    | some k =>
      have hk := pivN_some e
      rw [redS_some e, redS_some (k := k) (by rw [← h1, ← hp]; exact e)]
      refine ⟨by rw [h1], ?_⟩
      rw [← h1]
      exact (h2.swap (by omega) hk).elim (by rw [swapL_len]; omega) (by omega)
def rk (q n : Nat) (L : List (List Nat)) : Nat := (redN q L n).2.length
theorem sys_agr {q n : Nat} {L : List (List Nat)} {b : List Nat} (hL : ResM q n L) (hl : b.length = L.length) : Agr n (sysL L b) L := by
  refine ⟨sysL_len, fun i hi => ?_⟩
  rw [sysL_len] at hi
  rw [getD_of (sysL_get hi (by omega)), getD_of (List.getElem?_eq_getElem hi)]
  have h1 := (hL _ (List.getElem_mem hi)).1
  refine ⟨by simp; omega, by omega, fun j hj => ?_⟩
  rw [List.getD_eq_getElem?_getD, List.getD_eq_getElem?_getD, List.getElem?_append_left (by omega)]
theorem rk_sys {q n : Nat} {L : List (List Nat)} {b : List Nat} (hL : ResM q n L) (hl : b.length = L.length) : (redN q (sysL L b) n).2.length = rk q n L := by
  rw [((sys_agr hL hl).red n (Nat.le_refl _)).1]; rfl
theorem rk_le {q n : Nat} (hq : 0 < q) {L : List (List Nat)} (hL : ResM q n L) : rk q n L ≤ L.length ∧ rk q n L ≤ n := (redN_ok hq hL n).few
/-! ### how many vectors are solutions, and how many are images -/
def cnt (q n : Nat) (L : List (List Nat)) (b : List Nat) : Nat := sumV q n (fun x => (appT q L x == b).toNat)
theorem cnt_val {q n : Nat} {L : List (List Nat)} {b : List Nat} (hq : 2 ≤ q) (hu : Unit1 q) (hL : ResM q n L) (hb : ∀ c ∈ b, c < q) (hl : b.length = L.length) : cnt q n L b = 0 ∨ cnt q n L b = q ^ (n - rk q n L) := by
  have h := cnt_sys hq hu (sysL_res hL hb hl) (M := (redN q (sysL L b) n).1) (P := (redN q (sysL L b) n).2) rfl
  have e : cnt q n L b = sumV q n (fun y => (solB q n 0 (sysL L b) y).toNat) := sumV_ext fun x hx _ => by rw [app_sol hL hb hl hx]
  rw [e, h, rk_sys hL hl]
  split
  · exact Or.inl rfl
  · exact Or.inr rfl
theorem cnt_pos {q n : Nat} {L : List (List Nat)} {x : List Nat} (hx : x.length = n) (hq : ∀ c ∈ x, c < q) : cnt q n L (appT q L x) ≠ 0 := by
  have h := le_sumV (f := fun y => (appT q L y == appT q L x).toNat) hq
  rw [hx] at h
  simp only [beq_self_eq_true, Bool.toNat_true] at h
  unfold cnt; omega
theorem cnt_get {q n : Nat} {L : List (List Nat)} {b : List Nat} (h : cnt q n L b ≠ 0) : ∃ x, x.length = n ∧ (∀ c ∈ x, c < q) ∧ appT q L x = b := by
  obtain ⟨x, h1, h2, h3⟩ := sumV_get h
  refine ⟨x, h1, h2, ?_⟩
  cases e : appT q L x == b with
  | true => exact beq_iff_eq.1 e
  | false => rw [e] at h3; exact absurd rfl h3
def img (q n : Nat) (L : List (List Nat)) : Nat := sumV q L.length (fun b => if cnt q n L b = 0 then 0 else 1)
theorem img_val {q n : Nat} {L : List (List Nat)} (hq : 2 ≤ q) (hu : Unit1 q) (hL : ResM q n L) : img q n L = q ^ rk q n L := by
  have h1 : sumV q L.length (fun b => cnt q n L b) = q ^ n := by
    unfold cnt
    rw [sumV_swap, sumV_ext (g := fun _ => 1) (fun x hx hx2 => by
      have := sumV_one (q := q) (y := appT q L x) (appT_lt (by omega) L x)
      rw [appT_len] at this; exact this), sumV_const, Nat.mul_one]
  have h2 : sumV q L.length (fun b => cnt q n L b) = q ^ (n - rk q n L) * img q n L := by
    unfold img
    rw [← sumV_scale]
    refine sumV_ext fun b hb hb2 => ?_
    rcases cnt_val hq hu hL hb2 hb with h | h
    · rw [h, if_pos rfl]; rfl
    · have h0 : q ^ (n - rk q n L) ≠ 0 := Nat.ne_of_gt (Nat.pow_pos (by omega))
      rw [if_neg (by rw [h]; exact h0), Nat.mul_one]; exact h
  have h3 := (rk_le (show 0 < q by omega) hL).2
  have h4 : q ^ n = q ^ (n - rk q n L) * q ^ rk q n L := by rw [← Nat.pow_add]; congr 1; omega
  rw [h1, h4] at h2
  exact (Nat.eq_of_mul_eq_mul_left (Nat.pow_pos (by omega)) h2).symm
theorem app_zero {q : Nat} (L : List (List Nat)) (n : Nat) : appT q L (List.replicate n 0) = List.replicate L.length 0 := by
  apply List.ext_getElem?
  intro i
  by_cases h : i < L.length
  · have h1 : i < (appT q L (List.replicate n 0)).length := by rw [appT_len]; exact h
    rw [getE_of (d := 0) h1, appT_getD h, List.getElem?_replicate, if_pos h]
    rw [sumR_ext (g := fun _ => 0) (fun j hj => by
      rw [List.getD_eq_getElem?_getD (l := List.replicate n 0), List.getElem?_replicate]
      split <;> exact Nat.mul_zero _), sumR_zero, Nat.zero_mod]
  · rw [List.getElem?_eq_none (by rw [appT_len]; omega), List.getElem?_replicate, if_neg h]
theorem ker_val {q n : Nat} {L : List (List Nat)} (hq : 2 ≤ q) (hu : Unit1 q) (hL : ResM q n L) : cnt q n L (List.replicate L.length 0) = q ^ (n - rk q n L) := by
  rcases cnt_val (b := List.replicate L.length 0) hq hu hL (fun c hc => by rw [(List.mem_replicate.1 hc).2]; omega) (by simp) with h | h
  · exfalso
    have h2 := cnt_pos (q := q) (L := L) (x := List.replicate n 0) (n := n) (by simp) (fun c hc => by rw [(List.mem_replicate.1 hc).2]; omega)
    rw [app_zero] at h2
    exact h2 h
  · exact h
/-- the rank of a product -/
theorem rk_mul {q n : Nat} {A B : List (List Nat)} (hq : 2 ≤ q) (hu : Unit1 q) (hA : ResM q B.length A) (hB : ResM q n B) : rk q n (mulT q n A B) ≤ rk q B.length A ∧ rk q n (mulT q n A B) ≤ rk q n B := by
  have q0 : 0 < q := by omega
  have hAB : ResM q n (mulT q n A B) := mulT_res q0
  constructor
  · have h1 : img q n (mulT q n A B) ≤ img q B.length A := by
      unfold img
      rw [mulL_len]
      refine sumV_mono fun b _ _ => ?_
      by_cases e : cnt q n (mulT q n A B) b = 0
      · rw [if_pos e]; exact Nat.zero_le _
      · obtain ⟨x, hx, hx2, rfl⟩ := cnt_get e
        rw [app_mul hx, if_neg (cnt_pos appT_len (appT_lt q0 B x))]
        split <;> omega
    rw [img_val hq hu hAB, img_val hq hu hA] at h1
    exact (Nat.pow_le_pow_iff_right (by omega)).1 h1
  · have h1 : cnt q n B (List.replicate B.length 0) ≤ cnt q n (mulT q n A B) (List.replicate (mulT q n A B).length 0) := by
      unfold cnt
      refine sumV_mono fun x hx hx2 => ?_
      cases e : appT q B x == List.replicate B.length 0 with
      | false => exact Nat.zero_le _
      | true =>
        rw [app_mul hx, beq_iff_eq.1 e, app_zero, mulL_len]
        simp
    rw [ker_val hq hu hB, ker_val hq hu hAB] at h1
    have h2 := (Nat.pow_le_pow_iff_right (by omega)).1 h1
    have h3 := (rk_le q0 hAB).2
    have h4 := (rk_le q0 hB).2
    omega
end Go.Proofs.YteipbcpnnojclaaDoor
