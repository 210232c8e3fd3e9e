/- Elimination, plainly: the shape of a reduced matrix; a system's solutions are those of the reduced one. -/
import Derived.Test.YteipbcpnnojclaaDoorMatRa
namespace Go.Proofs.YteipbcpnnojclaaDoor
set_option linter.unusedVariables false
set_option linter.unusedSimpArgs false
theorem getD_ltM {q : Nat} (hq : 0 < q) {l : List Nat} (h : ∀ c ∈ l, c < q) (j : Nat) : l.getD j 0 < q := by
  rcases Nat.lt_or_ge j l.length with hj | hj
  · rw [getD_elem hj]; exact h _ (List.getElem_mem hj)
  · rw [List.getD_eq_getElem?_getD, List.getElem?_eq_none hj]; exact hq
/-- element j of row i -/
def el (M : List (List Nat)) (i j : Nat) : Nat := (M.getD i []).getD j 0
theorem el_lt {q n : Nat} (hq : 0 < q) {M : List (List Nat)} (h : ResM q n M) (i j : Nat) : el M i j < q := by
  unfold el
  rcases Nat.lt_or_ge i M.length with hi | hi
  · exact getD_ltM hq (h _ (getD_mem hi)).2 j
  · rw [List.getD_eq_getElem?_getD (l := M), List.getElem?_eq_none hi]; exact hq
theorem el_swap {M : List (List Nat)} {a b i j : Nat} (ha : a < M.length) (hb : b < M.length) (hi : i < M.length) : el (swapL M a b) i j = if i = b then el M a j else if i = a then el M b j else el M i j := by
  unfold el
  rw [swapL_getD ha hb hi]
  split
  · rfl
  · split <;> rfl
theorem el_elim {q row col i j : Nat} {M : List (List Nat)} (hi : i < M.length) (hj : j < (M.getD i []).length) : el (elimL q M row col) i j = if i = row then el M row j * invN q (el M row col) % q else (el M i j + ((q - el M i col) % q) * (el M row j * invN q (el M row col) % q) % q) % q := by
  unfold el
  rw [elimL_getD hi]
  unfold elimR pivR
  split
  · rw [sclN_getD]
  · rw [admN_getD hj, sclN_getD]
/-- the shape of what elimination leaves behind c columns -/
structure RedF (q n c : Nat) (s : List (List Nat) × List Nat) : Prop where
  inc : s.2.Pairwise (· < ·)
  lt : ∀ x ∈ s.2, x < c
  col : ∀ k, k < s.2.length → ∀ i, i < s.1.length → el s.1 i (s.2.getD k 0) = if i = k then 1 else 0
  zero : ∀ i j, s.2.length ≤ i → i < s.1.length → j < c → el s.1 i j = 0
theorem redF_ok {q n N : Nat} (hq : 2 ≤ q) (hu : Unit1 q) (hN : n ≤ N) {L : List (List Nat)} (h : ResM q N L) : ∀ c, c ≤ n → RedF q n c (redN q L c)
  | 0, _ => ⟨List.Pairwise.nil, (fun x hx => by cases hx), (fun k hk => absurd hk (Nat.not_lt_zero _)), fun i j _ _ hj => absurd hj (Nat.not_lt_zero _)⟩
  | c + 1, hc => by
    have ih := redF_ok hq hu hN h c (by omega)
    have hI := redN_ok (by omega : 0 < q) h c
    rw [redN]
    generalize redN q L c = s at *
    cases e : pivN s.1 s.2.length c with
    | none =>
      rw [redS_none e]
      refine ⟨ih.inc, fun x hx => by have := ih.lt x hx; omega, ih.col, fun i j h1 h2 h3 => ?_⟩
      by_cases hj : j = c
      · subst hj; exact pivN_zero e i h1 h2
      · exact ih.zero i j h1 h2 (by omega)
    | some k =>
      have hk := pivN_some e
      have hne := pivN_ne e
      rw [redS_some e]
      have hr : s.2.length < s.1.length := by omega
      have hS : ResM q N (swapL s.1 s.2.length (s.2.length + k)) := swapL_res hI.res
      have hSl : (swapL s.1 s.2.length (s.2.length + k)).length = s.1.length := swapL_len
      have hel : ∀ i j, i < s.1.length → el (swapL s.1 s.2.length (s.2.length + k)) i j = if i = s.2.length + k then el s.1 s.2.length j else if i = s.2.length then el s.1 (s.2.length + k) j else el s.1 i j := fun i j hi => el_swap hr hk hi
      generalize swapL s.1 s.2.length (s.2.length + k) = S at *
      have hw : ∀ i, i < S.length → (S.getD i []).length = N := fun i hi => (hS _ (getD_mem hi)).1
      -- rows from r on have zeros before c, both before and behind the swap
      have hz : ∀ i j, s.2.length ≤ i → i < s.1.length → j < c → el S i j = 0 := fun i j h1 h2 h3 => by
        rw [hel i j h2]
        split
        · exact ih.zero _ j (Nat.le_refl _) hr h3
        · split
          · exact ih.zero _ j (by omega) hk h3
          · exact ih.zero i j h1 h2 h3
      have hp : el S s.2.length c ≠ 0 := by
        rw [hel _ c hr]
        split
        · rename_i e2
          have e0 : k = 0 := by omega
          subst e0
          exact hne
        · rw [if_pos rfl]; exact hne
      have hpl := el_lt (by omega : 0 < q) hS s.2.length c
      have hv := hu _ (by omega) hpl
      rw [Nat.mod_eq_of_lt (show 1 < q by omega)] at hv
      have hlow : ∀ i j, i < s.1.length → j < c → el (elimL q S s.2.length c) i j = el S i j := fun i j hi hj => by
        rw [el_elim (by omega) (by rw [hw i (by omega)]; omega), hz s.2.length j (Nat.le_refl _) hr hj]
        split
        · rename_i e2
          rw [e2, hz s.2.length j (Nat.le_refl _) hr hj, Nat.zero_mul, Nat.zero_mod]
        · rw [Nat.zero_mul, Nat.zero_mod, Nat.mul_zero, Nat.zero_mod, Nat.add_zero, Nat.mod_eq_of_lt (el_lt (by omega) hS i j)]
      have hcol : ∀ i, i < s.1.length → el (elimL q S s.2.length c) i c = if i = s.2.length then 1 else 0 := fun i hi => by
        rw [el_elim (by omega) (by rw [hw i (by omega)]; omega)]
        split
        · exact hv
        · rw [hv, Nat.mul_one, Nat.mod_mod]
          have hx := el_lt (by omega : 0 < q) hS i c
          generalize el S i c = x at *
          by_cases h0 : x = 0
          · subst h0; rw [Nat.sub_zero, Nat.mod_self, Nat.zero_add, Nat.zero_mod]
          · rw [Nat.mod_eq_of_lt (show q - x < q by omega), show x + (q - x) = q by omega, Nat.mod_self]
      have hlen : (elimL q S s.2.length c).length = s.1.length := by rw [elimL_len, hSl]
      refine ⟨?_, ?_, ?_, ?_⟩
      · rw [List.pairwise_append]
        exact ⟨ih.inc, List.pairwise_singleton _ _, fun x hx y hy => by rw [List.mem_singleton.1 hy]; exact ih.lt x hx⟩
      · intro x hx
        rcases List.mem_append.1 hx with hx | hx
        · have := ih.lt x hx; omega
        · rw [List.mem_singleton.1 hx]; omega
      · intro t ht i hi
        simp only [List.length_append, List.length_singleton] at ht
        rw [hlen] at hi
        by_cases et : t = s.2.length
        · subst et
          have e3 : (s.2 ++ [c]).getD s.2.length 0 = c := by simp
          rw [e3]; exact hcol i hi
        · have ht2 : t < s.2.length := by omega
          have e3 : (s.2 ++ [c]).getD t 0 = s.2.getD t 0 := by
            rw [List.getD_eq_getElem?_getD, List.getD_eq_getElem?_getD, List.getElem?_append_left ht2]
          have hlt : s.2.getD t 0 < c := ih.lt _ (by rw [List.getD_eq_getElem?_getD, List.getElem?_eq_getElem ht2]; exact List.getElem_mem ht2)
          rw [e3, hlow i _ hi hlt]
          rcases Nat.lt_or_ge i s.2.length with h1 | h1
          · rw [hel i _ hi, if_neg (by omega), if_neg (by omega)]; exact ih.col t ht2 i hi
          · rw [hz i _ h1 hi hlt, if_neg (by omega)]
      · intro i j h1 h2 h3
        simp only [List.length_append, List.length_singleton] at h1
        rw [hlen] at h2
        by_cases hj : j = c
        · subst hj; rw [hcol i h2, if_neg (by omega)]
        · rw [hlow i j h2 (by omega)]; exact hz i j (by omega) h2 (by omega)
/-! ### solutions: the numbers x solve the rows with the right side t -/
def SolT (q n t : Nat) (M : List (List Nat)) (x : List Nat) : Prop := ∀ i, i < M.length → dt (M.getD i []) x 0 n % q = el M i t % q
theorem SolT.swap {q n t a b : Nat} {M : List (List Nat)} {x : List Nat} (ha : a < M.length) (hb : b < M.length) : SolT q n t (swapL M a b) x ↔ SolT q n t M x := by
  have key : ∀ i, i < M.length → ∃ j, j < M.length ∧ (swapL M a b).getD i [] = M.getD j [] ∧ (swapL M a b).getD j [] = M.getD i [] := fun i hi => by
    by_cases e1 : i = b
    · exact ⟨a, ha, by rw [swapL_getD ha hb hi, if_pos e1], by
        rw [swapL_getD ha hb ha]
        split
        · rename_i e2; rw [e1, ← e2]
        · rw [if_pos rfl, e1]⟩
    · by_cases e2 : i = a
      · exact ⟨b, hb, by rw [swapL_getD ha hb hi, if_neg e1, if_pos e2], by rw [swapL_getD ha hb hb, if_pos rfl, e2]⟩
      · exact ⟨i, hi, by rw [swapL_getD ha hb hi, if_neg e1, if_neg e2], by rw [swapL_getD ha hb hi, if_neg e1, if_neg e2]⟩
  constructor
  · intro h i hi
    obtain ⟨j, hj, h1, h2⟩ := key i hi
    have := h j (by rw [swapL_len]; exact hj)
    unfold el at this ⊢
    rw [h2] at this; exact this
  · intro h i hi
    rw [swapL_len] at hi
    obtain ⟨j, hj, h1, h2⟩ := key i hi
    have := h j hj
    unfold el at this ⊢
    rw [h1]; exact this
theorem unit_cancel {q v d A B : Nat} (hv : d * v % q = 1 % q) : v * A % q = B * v % q ↔ A % q = B % q := by
  constructor
  · intro h
    have h1 : d * (v * A) % q = d * (B * v) % q := by rw [Nat.mul_mod, h, ← Nat.mul_mod]
    have h2 : d * (v * A) % q = A % q := by rw [← Nat.mul_assoc, Nat.mul_mod, hv, ← Nat.mul_mod, Nat.one_mul]
    have h3 : d * (B * v) % q = B % q := by rw [show d * (B * v) = (d * v) * B by rw [Nat.mul_left_comm, Nat.mul_comm], Nat.mul_mod, hv, ← Nat.mul_mod, Nat.one_mul]
    rw [← h2, h1, h3]
  · intro h
    rw [Nat.mul_mod, h, ← Nat.mul_mod, Nat.mul_comm]
theorem SolT.elim {q n N t row col : Nat} {M : List (List Nat)} {x : List Nat} (hq : 0 < q) (hM : ResM q N M) (hn : n ≤ N) (ht : t < N) (hr : row < M.length) (hv : el M row col * invN q (el M row col) % q = 1 % q) : SolT q n t (elimL q M row col) x ↔ SolT q n t M x := by
  have hw : ∀ i, i < M.length → (M.getD i []).length = N := fun i hi => (hM _ (getD_mem hi)).1
  have hrow : (dt ((elimL q M row col).getD row []) x 0 n % q = el (elimL q M row col) row t % q) ↔ dt (M.getD row []) x 0 n % q = el M row t % q := by
    rw [el_elim hr (by rw [hw row hr]; exact ht), if_pos rfl, elimL_getD hr]
    unfold elimR
    rw [if_pos rfl]
    unfold pivR
    rw [dt_scl, Nat.mod_mod]
    exact unit_cancel hv
  have hoth : dt (M.getD row []) x 0 n % q = el M row t % q → ∀ i, i < M.length → i ≠ row → ((dt ((elimL q M row col).getD i []) x 0 n % q = el (elimL q M row col) i t % q) ↔ dt (M.getD i []) x 0 n % q = el M i t % q) := fun h i hi hne => by
    rw [el_elim hi (by rw [hw i hi]; exact ht), if_neg hne, elimL_getD hi]
    unfold elimR
    rw [if_neg hne, dt_adm (by rw [hw i hi]; omega), Nat.mod_mod]
    have hp : dt (pivR q M row col) x 0 n % q = el M row t * invN q (el M row col) % q := by
      unfold pivR
      rw [dt_scl, Nat.mul_mod, h, ← Nat.mul_mod, Nat.mul_comm]; rfl
    show (dt (M.getD i []) x 0 n + (q - el M i col) % q * dt (pivR q M row col) x 0 n) % q = _ ↔ _
    have e1 : (q - el M i col) % q * dt (pivR q M row col) x 0 n % q = (q - el M i col) % q * (el M row t * invN q (el M row col) % q) % q := by
      rw [← Nat.mul_mod_mod ((q - el M i col) % q), hp]
    rw [Nat.add_mod, e1, Nat.add_mod (el M i t)]
    generalize (q - el M i col) % q * (el M row t * invN q (el M row col) % q) % q = c
    constructor
    · intro h2
      have h3 : (dt (M.getD i []) x 0 n % q + c % q) % q = (el M i t % q + c % q) % q := by simpa using h2
      have h4 := congrArg (fun z => (z + (q - c % q)) % q) h3
      simp only [Nat.mod_add_mod] at h4
      have hc := Nat.mod_lt c hq
      rw [show dt (M.getD i []) x 0 n + c % q + (q - c % q) = dt (M.getD i []) x 0 n + q by omega, show el M i t + c % q + (q - c % q) = el M i t + q by omega, Nat.add_mod_right, Nat.add_mod_right] at h4
      exact h4
    · intro h2
      rw [h2]; simp
  constructor
  · intro h i hi
    have h0 := hrow.1 (h row (by rw [elimL_len]; exact hr))
    by_cases e : i = row
    · rw [e]; exact h0
    · exact (hoth h0 i hi e).1 (h i (by rw [elimL_len]; exact hi))
  · intro h i hi
    rw [elimL_len] at hi
    by_cases e : i = row
    · rw [e]; exact hrow.2 (h row hr)
    · exact (hoth (h row hr) i hi e).2 (h i hi)
theorem SolT.red {q n N t : Nat} {L : List (List Nat)} {x : List Nat} (hq : 2 ≤ q) (hu : Unit1 q) (hL : ResM q N L) (hn : n ≤ N) (ht : t < N) : ∀ c, c ≤ n → (SolT q n t (redN q L c).1 x ↔ SolT q n t L x)
  | 0, _ => Iff.rfl
  | c + 1, hc => by
    have ih := SolT.red hq hu hL hn ht (x := x) c (by omega)
    have hI := redN_ok (by omega : 0 < q) hL c
    rw [redN]
    generalize redN q L c = s at *
    cases e : pivN s.1 s.2.length c with
    | none => rw [redS_none e]; exact ih
    | some k =>
      have hk := pivN_some e
      have hne := pivN_ne e
      rw [redS_some e]
      have hr : s.2.length < s.1.length := by omega
      have hS : ResM q N (swapL s.1 s.2.length (s.2.length + k)) := swapL_res hI.res
      have hp : el (swapL s.1 s.2.length (s.2.length + k)) s.2.length c ≠ 0 := by
        rw [el_swap hr hk hr]
        split
        · rename_i e2
          have e0 : k = 0 := by omega
          subst e0
          exact hne
        · rw [if_pos rfl]; exact hne
      have hpl := el_lt (by omega : 0 < q) hS s.2.length c
      have h1 := SolT.elim (by omega) hS hn ht (x := x) (n := n) (row := s.2.length) (col := c) (by rw [swapL_len]; exact hr) (hu _ (by omega) hpl)
      exact h1.trans ((SolT.swap hr hk).trans ih)
end Go.Proofs.YteipbcpnnojclaaDoor
