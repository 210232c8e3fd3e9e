/- A matrix of full rank, plainly: what elimination makes of it and the unit matrix is its inverse on both sides; its systems have one solution. -/
import Derived.Test.YteipbcpnnojclaaDoorMatRc
namespace Go.Proofs.YteipbcpnnojclaaDoor
set_option linter.unusedVariables false
set_option linter.unusedSimpArgs false
theorem inc_step {P : List Nat} (h : P.Pairwise (· < ·)) : ∀ d k, k + d < P.length → P.getD k 0 + d ≤ P.getD (k + d) 0
  | 0, k, _ => Nat.le_refl _
  | d + 1, k, hk => by
    have ih := inc_step h d k (by omega)
    have h2 := List.pairwise_iff_getElem.1 h (k + d) (k + (d + 1)) (by omega) (by omega) (by omega)
    rw [getD_elem (show k + d < P.length by omega)] at ih
    rw [getD_elem (show k + (d + 1) < P.length by omega)]
    omega
theorem inc_full {P : List Nat} {n : Nat} (h : P.Pairwise (· < ·)) (hl : ∀ x ∈ P, x < n) (hn : P.length = n) {k : Nat} (hk : k < n) : P.getD k 0 = k := by
  have h1 := inc_step h k 0 (by omega)
  have h2 := inc_step h (n - 1 - k) k (by omega)
  rw [Nat.zero_add] at h1
  rw [show k + (n - 1 - k) = n - 1 by omega] at h2
  have h3 : P.getD (n - 1) 0 < n := by
    rw [getD_elem (by omega)]; exact hl _ (List.getElem_mem _)
  omega
/-- a matrix of full rank is reduced to the unit matrix -/
theorem full_el {q n N : Nat} {L M : List (List Nat)} {P : List Nat} (hq : 2 ≤ q) (hu : Unit1 q) (hN : n ≤ N) (hL : ResM q N L) (hl : L.length = n) (hR : redN q L n = (M, P)) (hP : P.length = n) : M.length = n ∧ ResM q N M ∧ (∀ k, k < n → P.getD k 0 = k) ∧ ∀ i k, i < n → k < n → el M i k = if i = k then 1 else 0 := by
  have hF := redF_ok hq hu hN hL n (Nat.le_refl _)
  have hI := redN_ok (by omega : 0 < q) hL n
  rw [hR] at hF hI
  have hp : ∀ k, k < n → P.getD k 0 = k := fun k hk => inc_full hF.inc hF.lt hP hk
  refine ⟨by rw [← hl]; exact hI.len, hI.res, hp, fun i k hi hk => ?_⟩
  have h := hF.col k (by show k < P.length; omega) i (by show i < M.length; have := hI.len; simp only at this; omega)
  rw [show (M, P).2.getD k 0 = k from hp k hk] at h
  exact h
theorem sol_full {q n t : Nat} {M : List (List Nat)} {x : List Nat} (hM : M.length = n) (h : ∀ i k, i < n → k < n → el M i k = if i = k then 1 else 0) : SolT q n t M x ↔ ∀ i, i < n → x.getD i 0 % q = el M i t % q := by
  unfold SolT
  rw [hM]
  refine forall_congr' fun i => forall_congr' fun hi => ?_
  have e : dt (M.getD i []) x 0 n = x.getD i 0 := by
    unfold dt
    refine sumR_one hi fun k hk => ?_
    rw [Nat.zero_add]
    have := h i k hi hk
    unfold el at this
    rw [this]
    by_cases e : i = k
    · rw [if_pos e, if_pos e.symm, Nat.one_mul, e]
    · rw [if_neg e, if_neg (fun e2 => e e2.symm), Nat.zero_mul]
  rw [e]
/-! ### systems -/
theorem sys_el {L : List (List Nat)} {b : List Nat} {q n i : Nat} (hL : ResM q n L) (hb : b.length = L.length) (hi : i < L.length) : el (sysL L b) i n = b.getD i 0 ∧ ∀ x, dt ((sysL L b).getD i []) x 0 n = sumR n (fun j => (L.getD i []).getD j 0 * x.getD j 0) := by
  have e := getD_of (d := ([] : List Nat)) (sysL_get hi (show i < b.length by omega))
  have hl := (hL _ (List.getElem_mem hi)).1
  refine ⟨?_, fun x => ?_⟩
  · unfold el
    rw [e, List.getD_eq_getElem?_getD, List.getElem?_append_right (by omega), hl, Nat.sub_self, getD_elem (show i < b.length by omega)]; rfl
  · unfold dt
    refine sumR_ext fun j hj => ?_
    rw [Nat.zero_add, e, List.getD_eq_getElem?_getD, List.getElem?_append_left (by omega), ← List.getD_eq_getElem?_getD, getD_of (d := ([] : List Nat)) (List.getElem?_eq_getElem hi)]
theorem sys_sol {q n : Nat} {L : List (List Nat)} {b x : List Nat} (hL : ResM q n L) (hb : b.length = L.length) (hbq : ∀ c ∈ b, c < q) (hx : x.length = n) (q0 : 0 < q) : SolT q n n (sysL L b) x ↔ appT q L x = b := by
  unfold SolT
  rw [sysL_len]
  constructor
  · intro h
    apply List.ext_getElem?
    intro i
    by_cases hi : i < L.length
    · have h1 : i < (appT q L x).length := by rw [appT_len]; exact hi
      obtain ⟨e1, e2⟩ := sys_el hL hb hi
      have h2 := h i hi
      rw [e1, e2, Nat.mod_eq_of_lt (getD_ltM q0 hbq i)] at h2
      rw [getE_of (d := 0) h1, getE_of (d := 0) (show i < b.length by omega), appT_getD hi, hx, h2]
    · rw [List.getElem?_eq_none (by rw [appT_len]; omega), List.getElem?_eq_none (by omega)]
  · intro h i hi
    obtain ⟨e1, e2⟩ := sys_el hL hb hi
    rw [e1, e2, ← h, appT_getD hi, hx, Nat.mod_mod]
/-- the one solution of a system -/
theorem one_sys {q n : Nat} {L M : List (List Nat)} {b P : List Nat} (hq : 2 ≤ q) (hu : Unit1 q) (hL : ResM q n L) (hl : L.length = n) (hb : b.length = n) (hbq : ∀ c ∈ b, c < q) (hr : rk q n L = n) (hR : redN q (sysL L b) n = (M, P)) :
    (M.length = n ∧ P.length = n ∧ (∀ k, k < n → P.getD k 0 = k) ∧ ResM q (n + 1) M) ∧ ∀ x, x.length = n → (∀ c ∈ x, c < q) → (appT q L x = b ↔ ∀ i, i < n → x.getD i 0 = el M i n) := by
  have q0 : 0 < q := by omega
  have hP : P.length = n := by
    have := rk_sys (q := q) hL (b := b) (by omega)
    rw [hR] at this; rw [← hr, ← this]
  have hs := sysL_res (q := q) hL hbq (by omega)
  obtain ⟨h1, h2, h3, h4⟩ := full_el hq hu (show n ≤ n + 1 by omega) hs (by rw [sysL_len]; exact hl) hR hP
  refine ⟨⟨h1, hP, h3, h2⟩, fun x hx hxq => ?_⟩
  have hred := SolT.red hq hu hs (show n ≤ n + 1 by omega) (show n < n + 1 by omega) (x := x) n (Nat.le_refl _)
  rw [hR] at hred
  rw [← sys_sol hL (by omega) hbq hx q0, ← hred, sol_full h1 h4]
  refine forall_congr' fun i => forall_congr' fun hi => ?_
  rw [Nat.mod_eq_of_lt (getD_ltM q0 hxq i), Nat.mod_eq_of_lt (el_lt q0 h2 i n)]
theorem app_inj {q n : Nat} {L : List (List Nat)} {x y : List Nat} (hq : 2 ≤ q) (hu : Unit1 q) (hL : ResM q n L) (hl : L.length = n) (hr : rk q n L = n) (hx : x.length = n) (hy : y.length = n) (hxq : ∀ c ∈ x, c < q) (hyq : ∀ c ∈ y, c < q) (h : appT q L x = appT q L y) : x = y := by
  obtain ⟨M, P, hR⟩ : ∃ M P, redN q (sysL L (appT q L y)) n = (M, P) := ⟨_, _, rfl⟩
  have hs := (one_sys hq hu hL hl (by rw [appT_len]; exact hl) (appT_lt (by omega) L y) hr hR).2
  have h1 := (hs x hx hxq).1 h
  have h2 := (hs y hy hyq).1 rfl
  apply List.ext_getElem (by omega)
  intro i h3 h4
  have e1 := h1 i (by omega)
  have e2 := h2 i (by omega)
  rw [getD_elem h3] at e1
  rw [getD_elem h4] at e2
  rw [e1, e2]
/-! ### the inverse -/
def idL (n : Nat) : List (List Nat) := (List.range n).map (UL n)
theorem UL_getD {n i j : Nat} (hj : j < n) : (UL n i).getD j 0 = if i = j then 1 else 0 := by
  unfold UL
  rw [List.getD_eq_getElem?_getD, List.getElem?_set]
  by_cases e : i = j
  · subst e; rw [if_pos rfl, if_pos rfl, if_pos (by simpa using hj)]; rfl
  · rw [if_neg e, if_neg e, List.getElem?_replicate, if_pos hj]; rfl
theorem idL_len {n : Nat} : (idL n).length = n := by simp [idL]
theorem idL_get {n i : Nat} (h : i < n) : (idL n).getD i [] = UL n i := by
  unfold idL
  rw [getD_of (l := List.map _ _) (by rw [List.getElem?_map, List.getElem?_range h]; rfl)]
theorem mat_ext {n : Nat} {A B : List (List Nat)} (ha : A.length = n) (hb : B.length = n) (wa : ∀ r ∈ A, r.length = n) (wb : ∀ r ∈ B, r.length = n) (h : ∀ i j, i < n → j < n → el A i j = el B i j) : A = B := by
  apply List.ext_getElem (by omega)
  intro i h1 h2
  have la := wa _ (List.getElem_mem h1)
  have lb := wb _ (List.getElem_mem h2)
  apply List.ext_getElem (by omega)
  intro j h3 h4
  have e := h i j (by omega) (by omega)
  unfold el at e
  rw [getD_of (d := ([] : List Nat)) (List.getElem?_eq_getElem h1), getD_of (d := ([] : List Nat)) (List.getElem?_eq_getElem h2), getD_elem h3, getD_elem h4] at e
  exact e
theorem idL_w {n : Nat} : ∀ r ∈ idL n, r.length = n := fun r hr => by
  obtain ⟨i, _, rfl⟩ := List.mem_map.1 hr
  exact UL_len
theorem idL_el {n i j : Nat} (hi : i < n) (hj : j < n) : el (idL n) i j = if i = j then 1 else 0 := by
  unfold el; rw [idL_get hi, UL_getD hj]
theorem inv_el {q n i : Nat} {L : List (List Nat)} (hL : ResM q n L) (hl : L.length = n) (hi : i < n) : (∀ j, j < n → el (invL L) i (n + j) = if i = j then 1 else 0) ∧ (∀ j, j < n → el (invL L) i j = el L i j) ∧ ∀ x, dt ((invL L).getD i []) x 0 n = sumR n (fun j => (L.getD i []).getD j 0 * x.getD j 0) := by
  have hi2 : i < L.length := by omega
  have e := getD_of (d := ([] : List Nat)) (invL_get hi2)
  have hw := (hL _ (List.getElem_mem hi2)).1
  have hj0 : ∀ j, j < n → ((invL L).getD i []).getD j 0 = (L.getD i []).getD j 0 := fun j hj => by
    rw [e, List.getD_eq_getElem?_getD, List.getElem?_append_left (by omega), ← List.getD_eq_getElem?_getD, getD_of (d := ([] : List Nat)) (List.getElem?_eq_getElem hi2)]
  refine ⟨fun j hj => ?_, hj0, fun x => ?_⟩
  · unfold el
    rw [e, List.getD_eq_getElem?_getD, List.getElem?_append_right (by omega), hw, show n + j - n = j by omega, ← List.getD_eq_getElem?_getD, hl, UL_getD hj]
  · unfold dt
    refine sumR_ext fun j hj => ?_
    rw [Nat.zero_add, hj0 j hj]
theorem inv_agr {q n : Nat} {L : List (List Nat)} (hL : ResM q n L) (hl : L.length = n) : Agr n (invL L) L := by
  refine ⟨invL_len, fun i hi => ?_⟩
  rw [invL_len] at hi
  have hw := (hL _ (getD_mem hi)).1
  refine ⟨?_, by omega, (inv_el hL hl (by omega)).2.1⟩
  rw [getD_of (d := ([] : List Nat)) (invL_get hi), List.length_append, (hL _ (List.getElem_mem hi)).1]; omega
theorem rk_inv {q n : Nat} {L M : List (List Nat)} {P : List Nat} (hL : ResM q n L) (hl : L.length = n) (hR : redN q (invL L) n = (M, P)) : P.length = rk q n L := by
  have := ((inv_agr hL hl).red (q := q) n (Nat.le_refl _)).1
  rw [hR] at this
  unfold rk
  rw [← this]
/-- an inverse undoes a matrix on both sides -/
theorem undone {q n : Nat} {L M : List (List Nat)} {P : List Nat} (hq : 2 ≤ q) (hu : Unit1 q) (hL : ResM q n L) (hl : L.length = n) (hR : redN q (invL L) n = (M, P)) (hP : P.length = n) :
    (M.map (List.drop n)).length = n ∧ ResM q n (M.map (List.drop n)) ∧ mulT q n L (M.map (List.drop n)) = idL n ∧ mulT q n (M.map (List.drop n)) L = idL n := by
  have q0 : 0 < q := by omega
  have hI : ResM q (n + n) (invL L) := by have := invL_res hq hL; rw [hl] at this; exact this
  obtain ⟨h1, h2, h3, h4⟩ := full_el hq hu (show n ≤ n + n by omega) hI (by rw [invL_len]; exact hl) hR hP
  have hr : rk q n L = n := by rw [← rk_inv hL hl hR]; exact hP
  have hel : ∀ i j, i < n → el (M.map (List.drop n)) i j = el M i (n + j) := fun i j hi => by
    unfold el
    rw [getD_of (l := List.map _ _) (by rw [List.getElem?_map, getE_of (d := []) (show i < M.length by omega)]; rfl), List.getD_eq_getElem?_getD, List.getElem?_drop, ← List.getD_eq_getElem?_getD]
  have hRr : ResM q n (M.map (List.drop n)) := fun r hr => by
    obtain ⟨s, hs, rfl⟩ := List.mem_map.1 hr
    obtain ⟨e1, e2⟩ := h2 s hs
    exact ⟨by rw [List.length_drop, e1]; omega, fun c hc => e2 c (List.mem_of_mem_drop hc)⟩
  have hRl : (M.map (List.drop n)).length = n := by rw [List.length_map]; exact h1
  generalize M.map (List.drop n) = R at *
  have hcol : ∀ j, j < n → ∀ i, i < n → (colT R j).getD i 0 = el R i j := fun j _ i hi => by
    unfold colT
    rw [getD_of (tab_get (by omega))]; rfl
  -- column by column
  have hLR : ∀ i j, i < n → j < n → el (mulT q n L R) i j = if i = j then 1 else 0 := fun i j hi hj => by
    have hs : SolT q n (n + j) M (colT R j) := (sol_full h1 h4).2 fun k hk => by rw [hcol j hj k hk, hel k j hk]
    have hred := SolT.red hq hu hI (show n ≤ n + n by omega) (show n + j < n + n by omega) (x := colT R j) n (Nat.le_refl _)
    rw [hR] at hred
    have h5 := hred.1 hs i (by rw [invL_len]; omega)
    obtain ⟨g1, _, g3⟩ := inv_el hL hl hi
    rw [g1 j hj, g3] at h5
    unfold el
    rw [mulT_getD (by omega) hj, hRl]
    rw [sumR_ext (g := fun k => (L.getD i []).getD k 0 * (colT R j).getD k 0) (fun k hk => by rw [hcol j hj k hk]; rfl), h5]
    split
    · exact Nat.mod_eq_of_lt (by omega)
    · exact Nat.zero_mod q
  have hLR2 : mulT q n L R = idL n := mat_ext (by rw [mulL_len]; exact hl) idL_len (fun r hr => (mulT_res q0 r hr).1) idL_w fun i j hi hj => by rw [hLR i j hi hj, idL_el hi hj]
  refine ⟨hRl, hRr, hLR2, mat_ext (by rw [mulL_len]; exact hRl) idL_len (fun r hr => (mulT_res q0 r hr).1) idL_w fun i j hi hj => ?_⟩
  -- R (L e_j) is e_j, since L is one to one
  have hid : ∀ v : List Nat, v.length = n → (∀ c ∈ v, c < q) → appT q (idL n) v = v := fun v hv hvq => by
    apply List.ext_getElem (by rw [appT_len, idL_len, hv])
    intro k h5 h6
    have h7 : k < n := by omega
    have e := appT_getD (q := q) (L := idL n) (x := v) (i := k) (by rw [idL_len]; exact h7)
    rw [getD_elem h5] at e
    rw [e, hv, idL_get h7, sumR_one (a0 := k) (s := v.getD k 0) h7 (fun m hm => by
      rw [UL_getD hm]
      by_cases e2 : k = m
      · rw [if_pos e2, if_pos e2.symm, Nat.one_mul, e2]
      · rw [if_neg e2, if_neg (fun e3 => e2 e3.symm), Nat.zero_mul]), Nat.mod_eq_of_lt (getD_ltM q0 hvq k), getD_elem h6]
  have hjc : (colT L j).length = n := by rw [colT_len]; exact hl
  have hjq : ∀ c ∈ colT L j, c < q := colT_lt hL hj
  have e1 : appT q L (appT q R (colT L j)) = colT L j := by
    rw [← app_mul (n := n) hjc, hLR2, hid _ hjc hjq]
  have e2 : appT q L (UL n j) = colT L j := by
    apply List.ext_getElem (by rw [appT_len, colT_len])
    intro k h5 h6
    have h7 : k < L.length := by rw [appT_len] at h5; exact h5
    have e := appT_getD (q := q) (L := L) (x := UL n j) (i := k) h7
    rw [getD_elem h5] at e
    rw [e, UL_len, sumR_one (a0 := j) (s := el L k j) hj (fun m hm => by
      rw [UL_getD hm]
      by_cases e2 : j = m
      · rw [if_pos e2, if_pos e2.symm, Nat.mul_one, e2]; rfl
      · rw [if_neg e2, if_neg (fun e3 => e2 e3.symm), Nat.mul_zero]), Nat.mod_eq_of_lt (el_lt q0 hL k j)]
    have e3 : (colT L j).getD k 0 = el L k j := by unfold colT; rw [getD_of (tab_get h7)]; rfl
    rw [getD_elem h6] at e3
    exact e3.symm
  have e3 := app_inj hq hu hL hl hr (x := appT q R (colT L j)) (y := UL n j) (by rw [appT_len]; exact hRl) UL_len (appT_lt q0 _ _) (fun c hc => by
    obtain ⟨m, hm, rfl⟩ := List.getElem_of_mem hc
    rw [UL_len] at hm
    have := UL_getD (n := n) (i := j) hm
    rw [getD_elem (by rw [UL_len]; exact hm)] at this
    rw [this]; split <;> omega) (by rw [e1, e2])
  have e5 : (appT q R (colT L j)).getD i 0 = el (mulT q n R L) i j := by
    unfold el
    rw [appT_getD (by omega), mulT_getD (by omega) hj, hjc, hl]
    congr 1
    refine sumR_ext fun k hk => ?_
    unfold colT
    rw [getD_of (tab_get (by omega))]; rfl
  rw [idL_el hi hj, ← e5]
  have e6 : (appT q R (colT L j)).getD i 0 = (UL n j).getD i 0 := by rw [e3]
  rw [e6, UL_getD hi]
  by_cases e : i = j
  · rw [if_pos e, if_pos e.symm]
  · rw [if_neg e, if_neg (fun e2 => e e2.symm)]
/-- Solve's answers for a matrix of full rank -/
theorem solve_full {q n : Nat} {L M : List (List Nat)} {b P : List Nat} (hq : 2 ≤ q) (hu : Unit1 q) (hL : ResM q n L) (hl : L.length = n) (hb : b.length = n) (hbq : ∀ c ∈ b, c < q) (hr : rk q n L = n) (hR : redN q (sysL L b) n = (M, P)) :
    noneB n (M, P) = false ∧ kerL q n P M n = [] ∧ P.length = n ∧ ∀ y, y.length = n → (∀ c ∈ y, c < q) → appT q L y = b → partV n P M P.length = y := by
  obtain ⟨⟨h1, h2, h3, h4⟩, h5⟩ := one_sys hq hu hL hl hb hbq hr hR
  refine ⟨?_, ?_, h2, fun y hy hyq hyb => ?_⟩
  · unfold noneB
    show (M.drop P.length).any _ = false
    rw [List.drop_eq_nil_of_le (by omega)]; rfl
  · have key : ∀ f, f ≤ n → kerL q n P M f = [] := fun f => by
      induction f with
      | zero => intro _; rfl
      | succ f ih =>
        intro hf
        have hc : P.contains f = true := List.contains_iff_mem.2 (by
          have := h3 f (by omega)
          rw [getD_elem (by omega)] at this
          rw [← this]; exact List.getElem_mem _)
        rw [kerL, if_pos hc]; exact ih (by omega)
    exact key n (Nat.le_refl _)
  · have key : ∀ i, i ≤ n → ∀ k, k < n → (partV n P M i).getD k 0 = if k < i then el M k n else 0 := fun i => by
      induction i with
      | zero =>
        intro _ k hk
        rw [if_neg (Nat.not_lt_zero _), partV, List.getD_eq_getElem?_getD, List.getElem?_replicate]
        split <;> rfl
      | succ i ih =>
        intro hi k hk
        rw [partV, h3 i (by omega)]
        by_cases e : k = i
        · subst e
          rw [if_pos (by omega), List.getD_eq_getElem?_getD, List.getElem?_set_self (by rw [partV_len]; exact hk)]; rfl
        · rw [List.getD_eq_getElem?_getD, List.getElem?_set_ne (fun e2 => e e2.symm), ← List.getD_eq_getElem?_getD, ih (by omega) k hk]
          by_cases h : k < i
          · rw [if_pos h, if_pos (by omega)]
          · rw [if_neg h, if_neg (by omega)]
    apply List.ext_getElem (by rw [partV_len, hy])
    intro k g1 g2
    have e1 := key P.length (by omega) k (by omega)
    rw [getD_elem g1, if_pos (by omega)] at e1
    have e2 := (h5 y hy hyq).1 hyb k (by omega)
    rw [getD_elem g2] at e2
    rw [e1, e2]
end Go.Proofs.YteipbcpnnojclaaDoor
