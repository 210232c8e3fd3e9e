/- Elimination, plainly: rows of residues, as both texts reduce them. -/
import Derived.Test.YtinlfogpbologaaDoorMatA
namespace Go.Proofs.YtinlfogpbologaaDoor
set_option linter.unusedVariables false
set_option linter.unusedSimpArgs false
/-! ### lists changed place by place -/
section
variable {α : Type} {A B : List α} {k j : Nat}
def mix (A B : List α) (k : Nat) : List α := A.take k ++ B.drop k
theorem mix_zero : mix A B 0 = B := by simp [mix]
theorem mix_full (h : A.length = B.length) (hk : A.length ≤ k) : mix A B k = A := by
  unfold mix; rw [List.take_of_length_le hk, List.drop_eq_nil_of_le (by omega), List.append_nil]
theorem mix_len (h : A.length = B.length) : (mix A B k).length = A.length := by
  unfold mix; rw [List.length_append, List.length_take, List.length_drop]; omega
theorem mix_old (h : A.length = B.length) (hj : k ≤ j) : (mix A B k)[j]? = B[j]? := by
  unfold mix
  rw [List.getElem?_append]
  split
  · rename_i h2; rw [List.length_take] at h2; omega
  · rw [List.length_take, List.getElem?_drop]
    by_cases hk : k ≤ A.length
    · rw [Nat.min_eq_left hk]; congr 1; omega
    · rw [List.getElem?_eq_none (by omega), List.getElem?_eq_none (by omega)]
theorem mix_new (hj : j < k) (hk : k ≤ A.length) : (mix A B k)[j]? = A[j]? := by
  unfold mix
  rw [List.getElem?_append_left (by rw [List.length_take]; omega), List.getElem?_take, if_pos hj]
theorem mix_set (h : A.length = B.length) (hk : k < A.length) {v : α} (hv : A[k]? = some v) : (mix A B k).set k v = mix A B (k + 1) := by
  apply List.ext_getElem?
  intro j
  rw [List.getElem?_set]
  by_cases e : k = j
  · subst e
    rw [if_pos rfl, mix_len h, if_pos hk, mix_new (by omega) (by omega), hv]
  · rw [if_neg e]
    by_cases hj : j < k
    · rw [mix_new hj (by omega), mix_new (by omega) (by omega)]
    · rw [mix_old h (by omega), mix_old h (by omega)]
theorem mix_skip (h : A.length = B.length) (hk : k < A.length) (he : A[k]? = B[k]?) : mix A B k = mix A B (k + 1) := by
  obtain ⟨v, hv⟩ : ∃ v, A[k]? = some v := ⟨_, List.getElem?_eq_getElem hk⟩
  rw [← mix_set h hk hv]
  apply List.ext_getElem?
  intro j
  rw [List.getElem?_set]
  by_cases e : k = j
  · subst e
    rw [if_pos rfl, mix_len h, if_pos hk, mix_old h (Nat.le_refl _), ← he, hv]
  · rw [if_neg e]
theorem getD_of {l : List α} {i : Nat} {d v : α} (h : l[i]? = some v) : l.getD i d = v := by rw [List.getD_eq_getElem?_getD, h]; rfl
theorem getE_of {l : List α} {i : Nat} {d : α} (h : i < l.length) : l[i]? = some (l.getD i d) := by rw [List.getD_eq_getElem?_getD, List.getElem?_eq_getElem h]; rfl
end
/-! ### the inverse of a residue; 0 where there is none -/
def invN (q a : Nat) : Nat := ((List.range q).find? (fun r => a * r % q == 1 % q)).getD 0
theorem inv_unique {q a r s : Nat} (hr : r < q) (hs : s < q) (h1 : a * r % q = 1 % q) (h2 : a * s % q = 1 % q) : r = s := by
  have e1 : r * (a * s) % q = r % q := by rw [Nat.mul_mod, h2, ← Nat.mul_mod, Nat.mul_one]
  have e2 : s * (a * r) % q = s % q := by rw [Nat.mul_mod, h1, ← Nat.mul_mod, Nat.mul_one]
  have e3 : r * (a * s) = s * (a * r) := by rw [Nat.mul_left_comm, Nat.mul_comm r s, Nat.mul_left_comm, ← Nat.mul_left_comm a s r]
  rw [e3, e2, Nat.mod_eq_of_lt hs, Nat.mod_eq_of_lt hr] at e1
  exact e1.symm
theorem invN_eq {q a r : Nat} (hr : r < q) (h : a * r % q = 1 % q) : invN q a = r := by
  unfold invN
  cases e : (List.range q).find? (fun r => a * r % q == 1 % q) with
  | none => 
    have := List.find?_eq_none.1 e r (List.mem_range.2 hr)
    rw [h] at this; simp at this
  | some s =>
    have h1 := List.find?_some e
    have h2 := List.mem_range.1 (List.mem_of_find?_eq_some e)
    exact inv_unique h2 hr (by simpa using h1) h
theorem invN_none {q a : Nat} (hq : 2 ≤ q) (h : Nat.gcd a q ≠ 1) : invN q a = 0 := by
  unfold invN
  cases e : (List.range q).find? (fun r => a * r % q == 1 % q) with
  | none => rfl
  | some s =>
    have h1 : a * s % q = 1 % q := by simpa using List.find?_some e
    exfalso
    apply h
    have hg : Nat.gcd a q ∣ a * s % q := (Nat.dvd_mod_iff (Nat.gcd_dvd_right a q)).2 (Nat.dvd_mul_right_of_dvd (Nat.gcd_dvd_left a q) s)
    rw [h1, Nat.mod_eq_of_lt (by omega)] at hg
    exact Nat.dvd_one.1 hg
theorem invN_lt {q a : Nat} (hq : 0 < q) : invN q a < q := by
  unfold invN
  cases e : (List.range q).find? (fun r => a * r % q == 1 % q) with
  | none => exact hq
  | some s => exact List.mem_range.1 (List.mem_of_find?_eq_some e)
/-! ### rows -/
/-- all rows have n residues -/
def ResM (q n : Nat) (L : List (List Nat)) : Prop := ∀ r ∈ L, r.length = n ∧ ∀ x ∈ r, x < q
def sclN (q : Nat) (r : List Nat) (c : Nat) : List Nat := r.map (fun x => x * c % q)
def admN (q : Nat) (r : List Nat) (f : Nat) (o : List Nat) : List Nat := (List.range r.length).map (fun j => (r.getD j 0 + f * o.getD j 0 % q) % q)
theorem sclN_len {q c : Nat} {r : List Nat} : (sclN q r c).length = r.length := by simp [sclN]
theorem admN_len {q f : Nat} {r o : List Nat} : (admN q r f o).length = r.length := by simp [admN]
theorem sclN_get {q c j : Nat} {r : List Nat} (h : j < r.length) : (sclN q r c)[j]? = some (r[j] * c % q) := by
  unfold sclN; rw [List.getElem?_map, List.getElem?_eq_getElem h]; rfl
theorem admN_get {q f j : Nat} {r o : List Nat} (h : j < r.length) (h2 : j < o.length) : (admN q r f o)[j]? = some ((r[j] + f * o[j] % q) % q) := by
  unfold admN
  rw [List.getElem?_map, List.getElem?_range h]
  simp only [Option.map_some]
  rw [getD_elem h, getD_elem h2]
theorem sclN_lt {q c : Nat} {r : List Nat} (hq : 0 < q) : ∀ x ∈ sclN q r c, x < q := by
  intro x hx
  obtain ⟨y, _, rfl⟩ := List.mem_map.1 hx
  exact Nat.mod_lt _ hq
theorem admN_lt {q f : Nat} {r o : List Nat} (hq : 0 < q) : ∀ x ∈ admN q r f o, x < q := by
  intro x hx
  obtain ⟨y, _, rfl⟩ := List.mem_map.1 hx
  exact Nat.mod_lt _ hq
theorem admN_zero {q : Nat} {r o : List Nat} (h : ∀ x ∈ r, x < q) : admN q r 0 o = r := by
  apply List.ext_getElem?
  intro j
  unfold admN
  by_cases hj : j < r.length
  · rw [List.getElem?_map, List.getElem?_range hj, List.getElem?_eq_getElem hj]
    simp only [Option.map_some]
    rw [getD_elem hj, Nat.zero_mul, Nat.zero_mod, Nat.add_zero, Nat.mod_eq_of_lt (h _ (List.getElem_mem hj))]
  · rw [List.getElem?_eq_none (by simp; omega), List.getElem?_eq_none (by omega)]
/-- what elimination makes of row i, which reads r; p: the pivot's row, made 1 -/
def elimR (q : Nat) (p : List Nat) (row col i : Nat) (r : List Nat) : List Nat := if i = row then p else admN q r ((q - r.getD col 0) % q) p
def pivR (q : Nat) (L : List (List Nat)) (row col : Nat) : List Nat := sclN q (L.getD row []) (invN q ((L.getD row []).getD col 0))
def elimL (q : Nat) (L : List (List Nat)) (row col : Nat) : List (List Nat) := (List.range L.length).map fun i => elimR q (pivR q L row col) row col i (L.getD i [])
theorem elimL_len {q row col : Nat} {L : List (List Nat)} : (elimL q L row col).length = L.length := by simp [elimL]
theorem elimL_get {q row col i : Nat} {L : List (List Nat)} (h : i < L.length) : (elimL q L row col)[i]? = some (elimR q (pivR q L row col) row col i L[i]) := by
  unfold elimL
  rw [List.getElem?_map, List.getElem?_range h]
  simp only [Option.map_some]
  rw [getD_of (List.getElem?_eq_getElem h)]
theorem getD_mem {L : List (List Nat)} {i : Nat} (h : i < L.length) : L.getD i [] ∈ L := by
  rw [getD_of (List.getElem?_eq_getElem h)]; exact List.getElem_mem h
theorem pivR_len {q n row col : Nat} {L : List (List Nat)} (h : ResM q n L) (hr : row < L.length) : (pivR q L row col).length = n := by
  unfold pivR; rw [sclN_len]; exact (h _ (getD_mem hr)).1
theorem elimL_res {q n row col : Nat} {L : List (List Nat)} (hq : 0 < q) (h : ResM q n L) (hr : row < L.length) : ResM q n (elimL q L row col) := by
  intro r hm
  obtain ⟨i, hi, rfl⟩ := List.getElem_of_mem hm
  rw [elimL_len] at hi
  have e : (elimL q L row col)[i]'(by rw [elimL_len]; exact hi) = elimR q (pivR q L row col) row col i L[i] := by
    have := elimL_get (q := q) (row := row) (col := col) hi
    rw [List.getElem?_eq_getElem (by rw [elimL_len]; exact hi)] at this
    exact Option.some.inj this
  rw [e]
  unfold elimR
  split
  · exact ⟨pivR_len h hr, sclN_lt hq⟩
  · exact ⟨by rw [admN_len]; exact (h _ (List.getElem_mem hi)).1, admN_lt hq⟩
def swapL {α : Type} (L : List α) (a b : Nat) : List α := match L[a]?, L[b]? with
  | some x, some y => (L.set a y).set b x
  | _, _ => L
theorem swapL_of {α : Type} {L : List α} {a b : Nat} {x y : α} (hx : L[a]? = some x) (hy : L[b]? = some y) : swapL L a b = (L.set a y).set b x := by unfold swapL; rw [hx, hy]
theorem swapL_len {α : Type} {L : List α} {a b : Nat} : (swapL L a b).length = L.length := by
  unfold swapL; split <;> simp
theorem swapL_mem {α : Type} {L : List α} {a b : Nat} {r : α} (h : r ∈ swapL L a b) : r ∈ L := by
  unfold swapL at h
  split at h
  · rename_i x y hx hy
    rcases List.mem_or_eq_of_mem_set h with h | rfl
    · rcases List.mem_or_eq_of_mem_set h with h | rfl
      · exact h
      · exact List.mem_of_getElem? hy
    · exact List.mem_of_getElem? hx
  · exact h
theorem swapL_res {q n a b : Nat} {L : List (List Nat)} (h : ResM q n L) : ResM q n (swapL L a b) := fun r hr => h r (swapL_mem hr)
/-- the first row from `a` on that has no 0 in the column, counted from a -/
def pivN (L : List (List Nat)) (a col : Nat) : Option Nat := (L.drop a).findIdx? (fun r => r.getD col 0 != 0)
theorem pivN_some {L : List (List Nat)} {a col k : Nat} (h : pivN L a col = some k) : a + k < L.length := by
  unfold pivN at h
  have := (List.findIdx?_eq_some_iff_getElem.1 h).1
  rw [List.length_drop] at this; omega
theorem pivN_no {L : List (List Nat)} {a col : Nat} (h : L.length ≤ a) : pivN L a col = none := by
  unfold pivN; rw [List.drop_eq_nil_of_le h]; rfl
/-- one column -/
def redS (q : Nat) (s : List (List Nat) × List Nat) (col : Nat) : List (List Nat) × List Nat := match pivN s.1 s.2.length col with
  | none => s
  | some k => (elimL q (swapL s.1 s.2.length (s.2.length + k)) s.2.length col, s.2 ++ [col])
/-- the columns below c -/
def redN (q : Nat) (L : List (List Nat)) : Nat → List (List Nat) × List Nat
  | 0 => (L, [])
  | c + 1 => redS q (redN q L c) c
theorem redS_none {q col : Nat} {s : List (List Nat) × List Nat} (h : pivN s.1 s.2.length col = none) : redS q s col = s := by unfold redS; rw [h]
theorem redS_some {q col k : Nat} {s : List (List Nat) × List Nat} (h : pivN s.1 s.2.length col = some k) : redS q s col = (elimL q (swapL s.1 s.2.length (s.2.length + k)) s.2.length col, s.2 ++ [col]) := by unfold redS; rw [h]
/-- what stays true -/
structure RedI (q n m c : Nat) (s : List (List Nat) × List Nat) : Prop where
  res : ResM q n s.1
  len : s.1.length = m
  few : s.2.length ≤ m ∧ s.2.length ≤ c
  lt : ∀ x ∈ s.2, x < c
  nod : s.2.Nodup
theorem redN_ok {q n : Nat} {L : List (List Nat)} (hq : 0 < q) (h : ResM q n L) : ∀ c, RedI q n L.length c (redN q L c)
  | 0 => ⟨h, rfl, ⟨Nat.zero_le _, Nat.zero_le _⟩, (fun x hx => by cases hx), List.nodup_nil⟩
  | c + 1 => by
    have ih := redN_ok hq h c
    rw [redN]
    cases e : pivN (redN q L c).1 (redN q L c).2.length c with
    | none => rw [redS_none e]; exact ⟨ih.res, ih.len, ⟨ih.few.1, by have := ih.few.2; omega⟩, fun x hx => by have := ih.lt x hx; omega, ih.nod⟩
    | some k =>
      have hk := pivN_some e
      rw [ih.len] at hk
      rw [redS_some e]
      refine ⟨elimL_res hq (swapL_res ih.res) (by rw [swapL_len, ih.len]; omega), by rw [elimL_len, swapL_len, ih.len], ?_, ?_, ?_⟩
      · simp only [List.length_append, List.length_singleton]
        have := ih.few; omega
      · intro x hx
        rcases List.mem_append.1 hx with hx | hx
        · have := ih.lt x hx; omega
        · rcases List.mem_singleton.1 hx with rfl; omega
      · simp only
        rw [List.nodup_append]
        refine ⟨ih.nod, by simp, fun x hx y hy e => ?_⟩
        have hy2 := List.mem_singleton.1 hy
        have := ih.lt _ hx; omega
theorem redN_stop {q : Nat} {L : List (List Nat)} {c : Nat} (h : (redN q L c).1.length ≤ (redN q L c).2.length) : ∀ d, c ≤ d → redN q L d = redN q L c
  | 0, hd => by obtain rfl : c = 0 := (by omega); rfl
  | d + 1, hd => by
    by_cases e : c = d + 1
    · rw [e]
    · have ih := redN_stop h d (by omega)
      rw [redN, ih, redS_none (pivN_no h)]
end Go.Proofs.YtinlfogpbologaaDoor
