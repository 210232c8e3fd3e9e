/- Merged: MatCa. -/
import Derived.Test.YteipbcpnnojclaaDoorMgD
import Derived.Test.YteipbcpnnojclaaDoorMgC
/- The number of solutions of a system, by elimination and by counting, plainly. -/
namespace Go.Proofs.YteipbcpnnojclaaDoor
set_option linter.unusedVariables false
set_option linter.unusedSimpArgs false
/-! ### sums -/
def sumR : Nat → (Nat → Nat) → Nat
  | 0, _ => 0
  | k + 1, f => sumR k f + f k
theorem sumR_ext {f g : Nat → Nat} : ∀ {k : Nat}, (∀ i, i < k → f i = g i) → sumR k f = sumR k g
  | 0, _ => rfl
  | k + 1, h => by rw [sumR, sumR, sumR_ext (fun i hi => h i (by omega)), h k (by omega)]
theorem sumR_plus {g : Nat → Nat} {m : Nat} : ∀ k, sumR (m + k) g = sumR m g + sumR k (fun a => g (m + a))
  | 0 => rfl
  | k + 1 => by rw [← Nat.add_assoc, sumR, sumR_plus k, sumR, Nat.add_assoc]
theorem sumR_first {g : Nat → Nat} {m : Nat} : sumR (m + 1) g = g 0 + sumR m (fun j => g (j + 1)) := by
  rw [Nat.add_comm m 1, sumR_plus]
  simp only [sumR, Nat.zero_add, Nat.add_comm 1]
theorem sumR_mul {g : Nat → Nat} {q : Nat} : ∀ s, sumR (s * q) g = sumR s (fun i => sumR q (fun a => g (i * q + a)))
  | 0 => by rw [Nat.zero_mul]; rfl
  | s + 1 => by rw [Nat.succ_mul, sumR_plus, sumR_mul s, sumR]
theorem sumR_add {f g : Nat → Nat} : ∀ m, sumR m (fun j => f j + g j) = sumR m f + sumR m g
  | 0 => rfl
  | m + 1 => by rw [sumR, sumR, sumR, sumR_add m]; omega
theorem sumR_scale {f : Nat → Nat} {c : Nat} : ∀ m, sumR m (fun j => c * f j) = c * sumR m f
  | 0 => rfl
  | m + 1 => by rw [sumR, sumR, sumR_scale m, Nat.mul_add]
theorem sumR_same {c : Nat} : ∀ m, sumR m (fun _ => c) = m * c
  | 0 => by rw [Nat.zero_mul]; rfl
  | m + 1 => by rw [sumR, sumR_same m, Nat.succ_mul]
theorem sumR_zero : ∀ m, sumR m (fun _ => 0) = 0 := fun m => by rw [sumR_same, Nat.mul_zero]
theorem sumR_cong {f g : Nat → Nat} {q : Nat} : ∀ {m : Nat}, (∀ j, j < m → f j % q = g j % q) → sumR m f % q = sumR m g % q
  | 0, _ => rfl
  | m + 1, h => by rw [sumR, sumR, Nat.add_mod, sumR_cong (fun j hj => h j (by omega)), h m (by omega), ← Nat.add_mod]
theorem sumR_one {f : Nat → Nat} {a0 s : Nat} : ∀ {m : Nat}, a0 < m → (∀ a, a < m → f a = if a = a0 then s else 0) → sumR m f = s
  | 0, h, _ => by omega
  | m + 1, h, hf => by
    rw [sumR, hf m (by omega)]
    by_cases e : m = a0
    · rw [if_pos e, sumR_ext (g := fun _ => 0) (fun i hi => by rw [hf i (by omega), if_neg (by omega)]), sumR_zero, Nat.zero_add]
    · rw [if_neg e, Nat.add_zero, sumR_one (by omega) (fun a ha => hf a (by omega))]
/-- n digits of t in base q, the least first -/
def dg (q : Nat) : Nat → Nat → List Nat
  | 0, _ => []
  | n + 1, t => t % q :: dg q n (t / q)
/-- the sum over all vectors of n residues -/
def sumV (q : Nat) : Nat → (List Nat → Nat) → Nat
  | 0, f => f []
  | n + 1, f => sumV q n (fun x => sumR q (fun a => f (a :: x)))
theorem sumV_dg {q : Nat} (hq : 0 < q) : ∀ (n : Nat) (f : List Nat → Nat), sumR (q ^ n) (fun t => f (dg q n t)) = sumV q n f
  | 0, f => by rw [Nat.pow_zero, sumR, sumR, Nat.zero_add]; rfl
  | n + 1, f => by
    rw [Nat.pow_succ, sumR_mul, sumV, ← sumV_dg hq n]
    refine sumR_ext fun s hs => sumR_ext fun a ha => ?_
    have e1 : (s * q + a) % q = a := by rw [Nat.add_comm, Nat.add_mul_mod_self_right, Nat.mod_eq_of_lt ha]
    have e2 : (s * q + a) / q = s := by rw [Nat.add_comm, Nat.add_mul_div_right _ _ hq, Nat.div_eq_of_lt ha, Nat.zero_add]
    rw [dg, e1, e2]
theorem sumV_ext {q : Nat} : ∀ {n : Nat} {f g : List Nat → Nat}, (∀ x, x.length = n → (∀ c ∈ x, c < q) → f x = g x) → sumV q n f = sumV q n g
  | 0, f, g, h => h [] rfl (by simp)
  | n + 1, f, g, h => by
    rw [sumV, sumV]
    refine sumV_ext fun x hx hq => sumR_ext fun a ha => h _ (by rw [List.length_cons, hx]) fun c hc => ?_
    rcases List.mem_cons.1 hc with rfl | hc
    · exact ha
    · exact hq c hc
theorem sumV_scale {q c : Nat} : ∀ {n : Nat} {f : List Nat → Nat}, sumV q n (fun x => c * f x) = c * sumV q n f
  | 0, f => rfl
  | n + 1, f => by
    rw [sumV, sumV, ← sumV_scale (n := n)]
    exact sumV_ext fun x _ _ => sumR_scale q
/-! ### equations -/
/-- columns c to c + m of a row, times m numbers -/
def dt (r y : List Nat) (c m : Nat) : Nat := sumR m (fun j => r.getD (c + j) 0 * y.getD j 0)
theorem dt_cons {r y : List Nat} {a c m : Nat} : dt r (a :: y) c (m + 1) = r.getD c 0 * a + dt r y (c + 1) m := by
  unfold dt
  rw [sumR_first]
  simp only [Nat.add_zero, List.getD_cons_zero]
  congr 1
  refine sumR_ext fun j _ => ?_
  rw [List.getD_cons_succ, show c + (j + 1) = c + 1 + j by omega]
theorem sclN_getD {q v j : Nat} {r : List Nat} : (sclN q r v).getD j 0 = r.getD j 0 * v % q := by
  by_cases h : j < r.length
  · rw [getD_of (sclN_get h), getD_elem h]
  · rw [List.getD_eq_getElem?_getD, List.getElem?_eq_none (by rw [sclN_len]; omega), List.getD_eq_getElem?_getD, List.getElem?_eq_none (by omega)]
    simp
theorem admN_getD {q f j : Nat} {r o : List Nat} (h : j < r.length) : (admN q r f o).getD j 0 = (r.getD j 0 + f * o.getD j 0 % q) % q := by
  unfold admN
  rw [List.getD_eq_getElem?_getD, List.getElem?_map, List.getElem?_range h]; rfl
theorem dt_scl {q v c m : Nat} {r y : List Nat} : dt (sclN q r v) y c m % q = v * dt r y c m % q := by
  unfold dt
  rw [← sumR_scale]
  refine sumR_cong fun j _ => ?_
  rw [sclN_getD, Nat.mod_mul_mod]
  congr 1
  rw [Nat.mul_comm (r.getD (c + j) 0) v, Nat.mul_assoc]
theorem dt_adm {q f c m : Nat} {r o y : List Nat} (h : c + m ≤ r.length) : dt (admN q r f o) y c m % q = (dt r y c m + f * dt o y c m) % q := by
  unfold dt
  rw [← sumR_scale, ← sumR_add]
  refine sumR_cong fun j hj => ?_
  rw [admN_getD (by omega), Nat.mod_mul_mod, Nat.add_mul, ← Nat.mul_assoc, Nat.add_mod, Nat.mod_mul_mod, ← Nat.add_mod]
/-- does the vector fulfil the row, from column c on? -/
def eqB (q n c : Nat) (y r : List Nat) : Bool := dt r y c (n - c) % q == r.getD n 0 % q
def solB (q n c : Nat) (R : List (List Nat)) (y : List Nat) : Bool := R.all (eqB q n c y)
theorem solB_iff {q n c a : Nat} {M : List (List Nat)} {y : List Nat} : solB q n c (M.drop a) y = true ↔ ∀ i, a ≤ i → i < M.length → eqB q n c y (M.getD i []) = true := by
  unfold solB
  rw [List.all_eq_true]
  constructor
  · intro h i h1 h2
    refine h _ ?_
    have e : (M.drop a)[i - a]'(by rw [List.length_drop]; omega) = M.getD i [] := by
      rw [List.getElem_drop, getL_elem h2]; congr 1; omega
    rw [← e]; exact List.getElem_mem _
  · intro h r hr
    obtain ⟨j, hj, rfl⟩ := List.getElem_of_mem hr
    rw [List.length_drop] at hj
    rw [List.getElem_drop]
    have := h (a + j) (by omega) (by omega)
    rwa [getL_elem (by omega)] at this
theorem mod_iff {q a b : Nat} : a % q = b % q ↔ ∃ k : Int, (a : Int) - (b : Int) = (q : Int) * k := by
  constructor
  · intro h
    have h1 := Nat.div_add_mod a q
    have h2 := Nat.div_add_mod b q
    refine ⟨((a / q : Nat) : Int) - ((b / q : Nat) : Int), ?_⟩
    rw [Int.mul_sub, ← Int.natCast_mul, ← Int.natCast_mul]
    omega
  · rintro ⟨k, hk⟩
    have : ((a % q : Nat) : Int) = ((b % q : Nat) : Int) := by
      rw [Int.natCast_emod, Int.natCast_emod, show (a : Int) = (b : Int) + (q : Int) * k by omega, Int.add_mul_emod_self_left]
    omega
/-- the pivot's equation, made 1 -/
theorem eq_piv {q d v A X B : Nat} (hv : d * v % q = 1 % q) : (d * A + X) % q = B % q ↔ (A + v * X) % q = (v * B) % q := by
  obtain ⟨t, ht⟩ := mod_iff.1 hv
  rw [mod_iff, mod_iff]
  simp only [Int.natCast_add, Int.natCast_mul, Int.natCast_one] at *
  generalize (d : Int) = d at *
  generalize (v : Int) = v at *
  generalize (A : Int) = A at *
  generalize (X : Int) = X at *
  generalize (B : Int) = B at *
  generalize (q : Int) = q at *
  constructor
  · rintro ⟨k, hk⟩; exact ⟨v * k - t * A, by grind⟩
  · rintro ⟨k, hk⟩; exact ⟨d * k - t * X + t * B, by grind⟩
/-- another row's equation, less the pivot's -/
theorem eq_row {q e f A X B Y Z : Nat} (hf : (f + e) % q = 0 % q) (hp : (A + X) % q = B % q) : (e * A + Y) % q = Z % q ↔ (Y + f * X) % q = (Z + f * B) % q := by
  obtain ⟨t, ht⟩ := mod_iff.1 hf
  obtain ⟨p, hp⟩ := mod_iff.1 hp
  rw [mod_iff, mod_iff]
  simp only [Int.natCast_add, Int.natCast_mul, Int.natCast_zero] at *
  generalize (e : Int) = e at *
  generalize (f : Int) = f at *
  generalize (A : Int) = A at *
  generalize (X : Int) = X at *
  generalize (B : Int) = B at *
  generalize (Y : Int) = Y at *
  generalize (Z : Int) = Z at *
  generalize (q : Int) = q at *
  constructor
  · rintro ⟨k, hk⟩; exact ⟨k + f * p - t * A, by grind⟩
  · rintro ⟨k, hk⟩; exact ⟨k - f * p + t * A, by grind⟩
/-- exactly one residue solves the pivot's equation -/
theorem one_sol {q X B : Nat} (hq : 0 < q) (s : Bool) : sumR q (fun a => (decide ((a + X) % q = B % q) && s).toNat) = s.toNat := by
  refine sumR_one (a0 := (B + (q - X % q)) % q) (Nat.mod_lt _ hq) fun a ha => ?_
  have hx := Nat.mod_lt X hq
  by_cases e : a = (B + (q - X % q)) % q
  · rw [if_pos e, decide_eq_true, Bool.true_and]
    rw [e, Nat.mod_add_mod, Nat.add_assoc, Nat.add_mod B, ← Nat.add_mod_mod (q - X % q) X, Nat.sub_add_cancel (by omega), Nat.mod_self, Nat.add_zero, Nat.mod_mod]
  · rw [if_neg e, decide_eq_false, Bool.false_and]; rfl
    intro h
    apply e
    have h2 : (B + (q - X % q)) % q = (a + X + (q - X % q)) % q := by rw [Nat.add_mod, ← h, ← Nat.add_mod]
    rw [h2, Nat.add_assoc, Nat.add_mod a, ← Nat.mod_add_mod X, Nat.add_sub_cancel' (by omega), Nat.mod_self, Nat.add_zero, Nat.mod_mod, Nat.mod_eq_of_lt ha]
/-- all that is above 0 has an inverse -/
def Unit1 (q : Nat) : Prop := ∀ a, 0 < a → a < q → a * invN q a % q = 1 % q
theorem pivN_zero {L : List (List Nat)} {a col : Nat} (h : pivN L a col = none) : ∀ i, a ≤ i → i < L.length → (L.getD i []).getD col 0 = 0 := by
  intro i h1 h2
  unfold pivN at h
  rw [List.findIdx?_eq_none_iff] at h
  have h3 := h ((L.drop a)[i - a]'(by rw [List.length_drop]; omega)) (List.getElem_mem _)
  rw [List.getElem_drop] at h3
  have e : a + (i - a) = i := by omega
  simp only [e] at h3
  rw [getL_elem h2]
  simpa using h3
theorem pivN_ne {L : List (List Nat)} {a col k : Nat} (h : pivN L a col = some k) : (L.getD (a + k) []).getD col 0 ≠ 0 := by
  have hk := pivN_some h
  unfold pivN at h
  obtain ⟨h1, h2, _⟩ := List.findIdx?_eq_some_iff_getElem.1 h
  rw [List.getElem_drop] at h2
  rw [getL_elem hk]
  simpa using h2
theorem swapL_getD {L : List (List Nat)} {a b i : Nat} (ha : a < L.length) (hb : b < L.length) (hi : i < L.length) : (swapL L a b).getD i [] = if i = b then L.getD a [] else if i = a then L.getD b [] else L.getD i [] := by
  rw [swapL_of (List.getElem?_eq_getElem ha) (List.getElem?_eq_getElem hb), List.getD_eq_getElem?_getD, List.getElem?_set]
  by_cases e : b = i
  · rw [if_pos e, if_pos e.symm, List.length_set, if_pos (by omega), getL_elem ha]; rfl
  · rw [if_neg e, if_neg (fun h => e h.symm), List.getElem?_set]
    by_cases e2 : a = i
    · rw [if_pos e2, if_pos e2.symm, if_pos (by omega), getL_elem hb]; rfl
    · rw [if_neg e2, if_neg (fun h => e2 h.symm), ← List.getD_eq_getElem?_getD]
theorem swap_all {L : List (List Nat)} {a k : Nat} {p : List Nat → Prop} (h : a + k < L.length) : (∀ i, a ≤ i → i < L.length → p ((swapL L a (a + k)).getD i [])) ↔ ∀ i, a ≤ i → i < L.length → p (L.getD i []) := by
  constructor
  · intro H i h1 h2
    by_cases e : i = a
    · subst e
      have := H (i + k) (by omega) h
      rwa [swapL_getD (by omega) h h, if_pos rfl] at this
    by_cases e2 : i = a + k
    · have := H a (Nat.le_refl _) (by omega)
      rw [swapL_getD (by omega) h (by omega), if_neg (by omega), if_pos rfl, ← e2] at this
      exact this
    · have := H i h1 h2
      rwa [swapL_getD (by omega) h h2, if_neg e2, if_neg e] at this
  · intro H i h1 h2
    rw [swapL_getD (by omega) h h2]
    split
    · exact H a (Nat.le_refl _) (by omega)
    · split
      · exact H _ (by omega) h
      · exact H i h1 h2
theorem elimL_getD {q row col i : Nat} {L : List (List Nat)} (h : i < L.length) : (elimL q L row col).getD i [] = elimR q (pivR q L row col) row col i (L.getD i []) := by
  rw [getD_of (elimL_get h), getL_elem h]
/-- one pivot takes one unknown -/
theorem sol_piv {q n c k a : Nat} {M : List (List Nat)} {r : Nat} {y : List Nat} (hq : 2 ≤ q) (hu : Unit1 q) (hc : c < n) (hM : ResM q (n + 1) M) (hk : pivN M r c = some k) (hy : y.length = n - (c + 1)) (ha : a < q) :
    solB q n c (M.drop r) (a :: y) = (decide ((a + dt (pivR q (swapL M r (r + k)) r c) y (c + 1) (n - (c + 1))) % q = (pivR q (swapL M r (r + k)) r c).getD n 0 % q) && solB q n (c + 1) ((elimL q (swapL M r (r + k)) r c).drop (r + 1)) y) := by
  have hl := pivN_some hk
  have hne := pivN_ne hk
  rw [Bool.eq_iff_iff, Bool.and_eq_true, decide_eq_true_eq, solB_iff, solB_iff, ← swap_all (p := fun r => eqB q n c (a :: y) r = true) hl]
  have hS : ResM q (n + 1) (swapL M r (r + k)) := swapL_res hM
  have hSl : (swapL M r (r + k)).length = M.length := swapL_len
  have hpe : (swapL M r (r + k)).getD r [] = M.getD (r + k) [] := by
    rw [swapL_getD (by omega) hl (by omega)]
    split
    · rename_i h; have : k = 0 := by omega
      subst this; rfl
    · rw [if_pos rfl]
  rw [elimL_len, hSl]
  generalize swapL M r (r + k) = S at *
  rw [← hpe] at hne
  have hrS : r < S.length := by omega
  have hru := hS _ (getD_mem hrS)
  have hd : (S.getD r []).getD c 0 < q := by
    rw [getD_elem (by omega)]; exact hru.2 _ (List.getElem_mem _)
  have hv := hu _ (Nat.pos_of_ne_zero hne) hd
  have hm : n - c = n - (c + 1) + 1 := by omega
  have hp : eqB q n c (a :: y) (S.getD r []) = true ↔ (a + dt (pivR q S r c) y (c + 1) (n - (c + 1))) % q = (pivR q S r c).getD n 0 % q := by
    have e1 : ∀ v, (a + dt (sclN q (S.getD r []) v) y (c + 1) (n - (c + 1))) % q = (a + v * dt (S.getD r []) y (c + 1) (n - (c + 1))) % q := fun v => by rw [← Nat.add_mod_mod, dt_scl, Nat.add_mod_mod]
    unfold eqB pivR
    rw [beq_iff_eq, hm, dt_cons, e1, sclN_getD, Nat.mod_mod, Nat.mul_comm ((S.getD r []).getD n 0)]
    exact eq_piv hv
  have hrow : ∀ i, i < M.length → i ≠ r → (a + dt (pivR q S r c) y (c + 1) (n - (c + 1))) % q = (pivR q S r c).getD n 0 % q → (eqB q n c (a :: y) (S.getD i []) = true ↔ eqB q n (c + 1) y ((elimL q S r c).getD i []) = true) := by
    intro i hi hir hpp
    rw [elimL_getD (by omega)]
    unfold elimR
    rw [if_neg hir]
    have hli := hS _ (getD_mem (L := S) (i := i) (by omega))
    have he : (S.getD i []).getD c 0 < q := by rw [getD_elem (by omega)]; exact hli.2 _ (List.getElem_mem _)
    unfold eqB
    rw [beq_iff_eq, beq_iff_eq, hm, dt_cons, dt_adm (by omega), admN_getD (by omega), Nat.mod_mod, Nat.add_mod_mod]
    refine eq_row (B := (pivR q S r c).getD n 0) ?_ hpp
    rw [Nat.mod_add_mod, Nat.sub_add_cancel (by omega), Nat.mod_self, Nat.zero_mod]
  constructor
  · intro H
    have h0 := hp.1 (H r (Nat.le_refl _) (by omega))
    exact ⟨h0, fun i h1 h2 => (hrow i h2 (by omega) h0).1 (H i (by omega) h2)⟩
  · rintro ⟨h0, H⟩ i h1 h2
    by_cases e : i = r
    · subst e; exact hp.2 h0
    · exact (hrow i h2 e h0).2 (H i (by omega) h2)
theorem sol_none {q n c r a : Nat} {M : List (List Nat)} {y : List Nat} (hc : c < n) (h : pivN M r c = none) : solB q n c (M.drop r) (a :: y) = solB q n (c + 1) (M.drop r) y := by
  rw [Bool.eq_iff_iff, solB_iff, solB_iff]
  have hm : n - c = n - (c + 1) + 1 := by omega
  have e : ∀ i, r ≤ i → i < M.length → (eqB q n c (a :: y) (M.getD i []) = true ↔ eqB q n (c + 1) y (M.getD i []) = true) := by
    intro i h1 h2
    unfold eqB
    rw [beq_iff_eq, beq_iff_eq, hm, dt_cons, pivN_zero h i h1 h2, Nat.zero_mul, Nat.zero_add]
  exact ⟨fun H i h1 h2 => (e i h1 h2).1 (H i h1 h2), fun H i h1 h2 => (e i h1 h2).2 (H i h1 h2)⟩
theorem cnt_red {q n : Nat} {L : List (List Nat)} (hq : 2 ≤ q) (hu : Unit1 q) (hL : ResM q (n + 1) L) : ∀ c, c ≤ n →
    sumV q n (fun y => (solB q n 0 L y).toNat) = q ^ (c - (redN q L c).2.length) * sumV q (n - c) (fun y => (solB q n c ((redN q L c).1.drop (redN q L c).2.length) y).toNat)
  | 0, _ => by
    show _ = q ^ 0 * sumV q n (fun y => (solB q n 0 (L.drop 0) y).toNat)
    rw [Nat.pow_zero, Nat.one_mul, List.drop_zero]
  | c + 1, hc => by
    have hI := redN_ok (n := n + 1) (by omega : 0 < q) hL c
    rw [cnt_red hq hu hL c (by omega), redN]
    have hm : n - c = n - (c + 1) + 1 := by omega
    cases e : pivN (redN q L c).1 (redN q L c).2.length c with
    | none =>
      rw [redS_none e]
      rw [show c + 1 - (redN q L c).2.length = c - (redN q L c).2.length + 1 by have := hI.few.2; omega, Nat.pow_succ, Nat.mul_assoc]
      congr 1
      rw [hm, sumV, ← sumV_scale]
      refine sumV_ext fun y _ _ => ?_
      rw [sumR_ext (g := fun _ => (solB q n (c + 1) ((redN q L c).1.drop (redN q L c).2.length) y).toNat) (fun a _ => by rw [sol_none (by omega) e]), sumR_same]
    | some k =>
      rw [redS_some e]
      simp only [List.length_append, List.length_singleton]
      rw [show c + 1 - ((redN q L c).2.length + 1) = c - (redN q L c).2.length by omega]
      congr 1
      rw [hm, sumV]
      refine sumV_ext fun y hy _ => ?_
      rw [sumR_ext (fun a ha => by rw [sol_piv hq hu (by omega) hI.res e hy ha])]
      exact one_sol (by omega) _
/-- the number of solutions: 0, or a power of q -/
theorem cnt_sys {q n : Nat} {L M : List (List Nat)} {P : List Nat} (hq : 2 ≤ q) (hu : Unit1 q) (hL : ResM q (n + 1) L) (hR : redN q L n = (M, P)) :
    sumV q n (fun y => (solB q n 0 L y).toNat) = if noneB n (M, P) = true then 0 else q ^ (n - P.length) := by
  have hI := redN_ok (n := n + 1) (by omega : 0 < q) hL n
  rw [cnt_red hq hu hL n (Nat.le_refl _)]
  rw [hR] at hI ⊢
  rw [Nat.sub_self, sumV]
  have e : solB q n n (M.drop P.length) [] = !noneB n (M, P) := by
    unfold solB noneB
    rw [List.not_any_eq_all_not, Bool.eq_iff_iff, List.all_eq_true, List.all_eq_true]
    refine forall_congr' fun r => forall_congr' fun hr => ?_
    rw [← Bool.eq_iff_iff]
    have hr2 := hI.res r (List.mem_of_mem_drop hr)
    have hl : r.getD n 0 < q := by rw [getD_elem (by omega)]; exact hr2.2 _ (List.getElem_mem _)
    unfold eqB dt
    rw [Nat.sub_self, sumR, Nat.zero_mod, Nat.mod_eq_of_lt hl]
    by_cases h0 : r.getD n 0 = 0
    · rw [h0]; rfl
    · rw [beq_eq_false_iff_ne.2 (fun h => h0 h.symm), bne_iff_ne.2 h0]; rfl
  rw [e]
  cases noneB n (M, P) <;> simp
/-! ### what is counted -/
theorem dotN_sum {q : Nat} {a b : List Nat} : ∀ k, dotN q a b k = sumR k (fun j => a.getD j 0 * b.getD j 0) % q
  | 0 => by rw [dotN, sumR, Nat.zero_mod]
  | k + 1 => by rw [dotN, dotN_sum k, sumR, ← Nat.add_mod]
theorem app_sol {q n : Nat} {L : List (List Nat)} {b x : List Nat} (hL : ResM q n L) (hb : ∀ c ∈ b, c < q) (hl : b.length = L.length) (hx : x.length = n) : (appT q L x == b) = solB q n 0 (sysL L b) x := by
  rw [Bool.eq_iff_iff, beq_iff_eq, ← List.drop_zero (l := sysL L b), solB_iff, sysL_len]
  have key : ∀ i (h : i < L.length), (eqB q n 0 x ((sysL L b).getD i []) = true ↔ appF q L x i = b[i]'(by omega)) := by
    intro i h
    rw [getD_of (sysL_get h (by omega))]
    have hr := hL _ (List.getElem_mem h)
    unfold eqB appF
    rw [beq_iff_eq, hx, dotN_sum, getL_elem h]
    have e1 : (L[i] ++ [b[i]'(by omega)]).getD n 0 = b[i]'(by omega) := by
      rw [List.getD_eq_getElem?_getD, List.getElem?_append_right (by omega), hr.1, Nat.sub_self]; rfl
    have e2 : dt (L[i] ++ [b[i]'(by omega)]) x 0 (n - 0) = sumR n (fun j => L[i].getD j 0 * x.getD j 0) := by
      unfold dt
      refine sumR_ext fun j hj => ?_
      have hj2 : j < n := by omega
      rw [Nat.zero_add, List.getD_eq_getElem?_getD, List.getElem?_append_left (by omega), ← List.getD_eq_getElem?_getD]
    rw [e1, e2, Nat.mod_eq_of_lt (hb _ (List.getElem_mem _))]
  constructor
  · intro h i _ hi
    rw [key i hi]
    have h2 : (appT q L x)[i]? = some (appF q L x i) := tab_get hi
    rw [h, List.getElem?_eq_getElem (by omega)] at h2
    exact (Option.some.inj h2).symm
  · intro h
    apply List.ext_getElem?
    intro i
    by_cases hi : i < L.length
    · unfold appT
      rw [tab_get hi, List.getElem?_eq_getElem (by omega), (key i hi).1 (h i (Nat.zero_le _) hi)]
    · rw [List.getElem?_eq_none (by unfold appT; rw [tab_len]; omega), List.getElem?_eq_none (by omega)]
/-- counted among the first k vectors -/
def cntA (q n : Nat) (L : List (List Nat)) (b : List Nat) (k : Nat) : Nat := sumR k (fun t => (appT q L (dg q n t) == b).toNat)
theorem dg_len {q : Nat} : ∀ n t, (dg q n t).length = n
  | 0, _ => rfl
  | n + 1, t => by rw [dg, List.length_cons, dg_len n]
theorem dg_lt {q : Nat} (hq : 0 < q) : ∀ n t, ∀ c ∈ dg q n t, c < q
  | 0, _, c, hc => by simp [dg] at hc
  | n + 1, t, c, hc => by
    rw [dg] at hc
    rcases List.mem_cons.1 hc with rfl | hc
    · exact Nat.mod_lt _ hq
    · exact dg_lt hq n _ c hc
/-- counting all vectors yields what elimination says -/
theorem cnt_all {q n : Nat} {L M : List (List Nat)} {b P : List Nat} (hq : 2 ≤ q) (hu : Unit1 q) (hL : ResM q n L) (hb : ∀ c ∈ b, c < q) (hl : b.length = L.length) (hR : redN q (sysL L b) n = (M, P)) :
    cntA q n L b (q ^ n) = if noneB n (M, P) = true then 0 else q ^ (n - P.length) := by
  unfold cntA
  rw [sumV_dg (by omega) n (fun x => (appT q L x == b).toNat), ← cnt_sys hq hu (sysL_res hL hb hl) hR]
  exact sumV_ext fun x hx _ => by rw [app_sol hL hb hl hx]
theorem unit_small {q : Nat} (h : q ≤ 7) (hp : Pri.isP q = true) : Unit1 q := by
  have h2 : q = 2 ∨ q = 3 ∨ q = 5 ∨ q = 7 := by
    have hd : ∀ k, k < 8 → Pri.isP k = true → k = 2 ∨ k = 3 ∨ k = 5 ∨ k = 7 := by decide +kernel
    exact hd q (by omega) hp
  have key : ∀ p, (∀ a, a < p → 0 < a → a * invN p a % p = 1 % p) → Unit1 p := fun p h a h1 h2 => h a h2 h1
  rcases h2 with rfl | rfl | rfl | rfl
  · exact key 2 (by decide +kernel)
  · exact key 3 (by decide +kernel)
  · exact key 5 (by decide +kernel)
  · exact key 7 (by decide +kernel)
/-- a power that is small -/
theorem cntL_small {q : Nat} (h2 : 2 ≤ q) (h : q ≤ 7) : ∀ k, k ≤ 4 → cntL q k = some (q ^ k) := by
  have h1 : 2305843009213693951 / 7 ≤ 2305843009213693951 / q := Nat.div_le_div_left h (by omega)
  intro k hk
  induction k with
  | zero => rfl
  | succ k ih =>
    rw [Nat.pow_succ]
    refine cntL_up (ih (by omega)) ?_
    have h3 : q ^ k ≤ 7 ^ k := Nat.pow_le_pow_left h k
    have h4 : 7 ^ k ≤ 7 ^ 4 := Nat.pow_le_pow_right (by omega) (by omega)
    have h5 : 7 ^ 4 = 2401 := by decide
    have h6 : 2401 ≤ 2305843009213693951 / 7 := by decide
    omega
end Go.Proofs.YteipbcpnnojclaaDoor
