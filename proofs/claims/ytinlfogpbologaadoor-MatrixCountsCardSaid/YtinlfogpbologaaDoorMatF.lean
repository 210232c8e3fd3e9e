/- Matrices of the call's own: a row of headers, and a block for each row. -/
import Derived.Test.YtinlfogpbologaaDoorMatE
namespace Go.Proofs.YtinlfogpbologaaDoor
open Go.RowKit
set_option linter.unusedVariables false
set_option linter.unusedSimpArgs false
/-- a row: its block, what it reads, what lies behind it -/
structure Rb where
  b : Nat
  l : List Nat
  x : List Value
def Rb.hd (r : Rb) : Value := .slice (some ⟨r.b, 0, none⟩) r.l.length (r.l.length + r.x.length)
def Rb.bx (r : Rb) : Bx := (r.b, 3, ncl r.l ++ r.x)
/-- the boxes of a matrix: headers hs, rows R -/
def mbh (g : Nat) (hs : List Value) (R : List Rb) : List Bx := (g, 22, hs) :: R.map Rb.bx
abbrev mbx (g : Nat) (R : List Rb) : List Bx := mbh g (R.map Rb.hd) R
abbrev mrows (R : List Rb) : List (List Nat) := R.map Rb.l
theorem cons_set_perm {α : Type} {x y : α} : ∀ {T : List α} {k : Nat}, T[k]? = some y → (y :: T.set k x).Perm (x :: T)
  | [], k, h => by simp at h
  | z :: T, 0, h => by
    simp only [List.getElem?_cons_zero, Option.some.injEq] at h
    subst h
    exact List.Perm.swap ..
  | z :: T, k + 1, h => by
    have ih := cons_set_perm (x := x) (T := T) (k := k) (by simpa using h)
    exact (List.Perm.swap ..).trans ((ih.cons z).trans (List.Perm.swap ..))
theorem set_set_perm {α : Type} {x y : α} : ∀ {R : List α} {i k : Nat}, R[i]? = some x → R[k]? = some y → ((R.set i y).set k x).Perm R
  | [], i, k, h, _ => by simp at h
  | z :: R, 0, 0, h, h2 => by
    simp only [List.getElem?_cons_zero, Option.some.injEq] at h
    subst h
    exact List.Perm.refl _
  | z :: R, 0, k + 1, h, h2 => by
    simp only [List.getElem?_cons_zero, Option.some.injEq] at h
    subst h
    exact cons_set_perm (by simpa using h2)
  | z :: R, i + 1, 0, h, h2 => by
    simp only [List.getElem?_cons_zero, Option.some.injEq] at h2
    subst h2
    exact cons_set_perm (by simpa using h)
  | z :: R, i + 1, k + 1, h, h2 => (set_set_perm (R := R) (by simpa using h) (by simpa using h2)).cons z
theorem swapL_perm {α : Type} {R : List α} {i k : Nat} : (swapL R i k).Perm R := by
  unfold swapL
  split
  · exact set_set_perm (by assumption) (by assumption)
  · exact List.Perm.refl _
theorem swapL_map {α β : Type} (f : α → β) {R : List α} {i k : Nat} : swapL (R.map f) i k = (swapL R i k).map f := by
  unfold swapL
  rw [List.getElem?_map, List.getElem?_map]
  cases R[i]? <;> cases R[k]? <;> simp [List.map_set]
section
variable {D0 : Nat → Prop} {w W : World} {F A B : List Bx} {G : List Fct} {g : Nat} {hs : List Value} {R : List Rb} {i j : Nat} {r : Rb}
theorem mbh_hd : (A ++ (mbh g hs R ++ B))[A.length]? = some (g, 22, hs) := by simp [mbh]
theorem mbh_row (h : R[i]? = some r) : (A ++ (mbh g hs R ++ B))[A.length + 1 + i]? = some (r.b, 3, ncl r.l ++ r.x) := by
  have hi := (List.getElem?_eq_some_iff.1 h).1
  rw [List.getElem?_append_right (by omega), show A.length + 1 + i - A.length = i + 1 from by omega]
  unfold mbh
  rw [List.cons_append, List.getElem?_cons_succ, List.getElem?_append_left (by rw [List.length_map]; exact hi), List.getElem?_map, h]
  rfl
theorem Env.mh (E : Env D0 w F G W) (hF : F = A ++ (mbh g hs R ++ B)) : Box w.heap.size g 22 hs W := E.bx A.length (by rw [hF]; exact mbh_hd)
theorem Env.mr (E : Env D0 w F G W) (hF : F = A ++ (mbh g hs R ++ B)) (h : R[i]? = some r) : Box w.heap.size r.b 3 (ncl r.l ++ r.x) W := E.bx (A.length + 1 + i) (by rw [hF]; exact mbh_row h)
theorem Env.mhd (E : Env D0 w F G W) (hF : F = A ++ (mbx g R ++ B)) (h : R[i]? = some r) : W.cell? ⟨g, i, none⟩ = some (.slice (some ⟨r.b, 0, none⟩) r.l.length (r.l.length + r.x.length)) :=
  (E.mh hF).cell i (by rw [List.getElem?_map, h]; rfl)
theorem Env.mcell (E : Env D0 w F G W) (hF : F = A ++ (mbh g hs R ++ B)) (h : R[i]? = some r) (hj : j < r.l.length) : W.cell? ⟨r.b, j, none⟩ = some (.int .i64 (r.l[j] : Nat)) := (E.mr hF h).cell j (ncl_app_get _ _ _ hj)
theorem Env.mset (E : Env D0 w F G W) (hF : F = A ++ (mbh g hs R ++ B)) (h : R[i]? = some r) (hj : j < r.l.length) (v : Nat) : Env D0 w (A ++ (mbh g hs (R.set i ⟨r.b, r.l.set j v, r.x⟩) ++ B)) G (W.setCell ⟨r.b, j, none⟩ (.int .i64 (v : Nat))) := by
  subst hF
  have hi := (List.getElem?_eq_some_iff.1 h).1
  have E2 := E.set (A.length + 1 + i) j (.int .i64 (v : Nat)) (mbh_row h)
  rw [ncl_app_set _ _ _ _ hj] at E2
  have e : (A ++ (mbh g hs R ++ B)).set (A.length + 1 + i) (r.b, 3, ncl (r.l.set j v) ++ r.x) = A ++ (mbh g hs (R.set i ⟨r.b, r.l.set j v, r.x⟩) ++ B) := by
    rw [List.set_append_right _ _ (by omega), show A.length + 1 + i - A.length = i + 1 from by omega]
    unfold mbh
    rw [List.cons_append, List.set_cons_succ, List.set_append_left _ _ (by rw [List.length_map]; exact hi), List.map_set]
    rfl
  rw [e] at E2
  exact E2
theorem hd_set (h : R[i]? = some r) (v : Nat) : (R.set i ⟨r.b, r.l.set j v, r.x⟩).map Rb.hd = R.map Rb.hd := by
  apply List.ext_getElem?
  intro k
  rw [List.getElem?_map, List.getElem?_map, List.getElem?_set]
  by_cases e : i = k
  · subst e
    rw [if_pos rfl, if_pos (List.getElem?_eq_some_iff.1 h).1, h]
    simp [Rb.hd]
  · rw [if_neg e]
theorem Env.msetx (E : Env D0 w F G W) (hF : F = A ++ (mbx g R ++ B)) (h : R[i]? = some r) (hj : j < r.l.length) (v : Nat) : Env D0 w (A ++ (mbx g (R.set i ⟨r.b, r.l.set j v, r.x⟩) ++ B)) G (W.setCell ⟨r.b, j, none⟩ (.int .i64 (v : Nat))) := by
  have := E.mset hF h hj v
  unfold mbx
  rw [hd_set h]; exact this
theorem Env.mhset (E : Env D0 w F G W) (hF : F = A ++ (mbh g hs R ++ B)) (i : Nat) (v : Value) : Env D0 w (A ++ (mbh g (hs.set i v) R ++ B)) G (W.setCell ⟨g, i, none⟩ v) := by
  subst hF
  have E2 := E.set A.length i v mbh_hd
  have e : (A ++ (mbh g hs R ++ B)).set A.length (g, 22, hs.set i v) = A ++ (mbh g (hs.set i v) R ++ B) := by
    rw [List.set_append_right _ _ (by omega), Nat.sub_self]
    unfold mbh
    rw [List.cons_append, List.set_cons_zero, List.cons_append]
  rw [e] at E2
  exact E2
/-- two headers have been swapped -/
theorem Env.mswap {a b : Nat} {x y : Rb} (E : Env D0 w F G W) (hF : F = A ++ (mbh g (((R.map Rb.hd).set a y.hd).set b x.hd) R ++ B)) (hx : R[a]? = some x) (hy : R[b]? = some y) : Env D0 w (A ++ (mbx g (swapL R a b) ++ B)) G W := by
  subst hF
  have hs : ((R.map Rb.hd).set a y.hd).set b x.hd = (swapL R a b).map Rb.hd := by
    rw [swapL_of hx hy]; simp [List.map_set]
  rw [hs] at E
  refine E.perm ((List.perm_append_left_iff A).2 ((List.perm_append_right_iff B).2 ?_))
  unfold mbx mbh
  exact (List.Perm.map _ swapL_perm.symm).cons _
/-- rows from a on, as a list that a caller reads -/
theorem Env.mmx {a cap : Nat} (E : Env D0 w F G W) (hF : F = A ++ (mbx g R ++ B)) (hc : R.length - a ≤ cap) (hc2 : cap ≤ 9223372036854775807) (hb : ∀ r ∈ R, r.l.length + r.x.length ≤ 9223372036854775807) : Mx W (fun _ => True) (.slice (some ⟨g, a, none⟩) ((mrows R).drop a |>.map nl).length cap) ((mrows R).drop a |>.map nl) := by
  refine ⟨_, cap, rfl, by simpa using hc, hc2, fun hne => ⟨g, a, rfl, ⟨(E.mh hF).lt, trivial⟩, fun k l hl => ?_⟩⟩
  rw [List.getElem?_map, List.getElem?_drop, List.getElem?_map] at hl
  cases h : R[a + k]? with
  | none => rw [h] at hl; cases hl
  | some r =>
    rw [h] at hl
    simp only [Option.map_some, Option.some.injEq] at hl
    subst hl
    refine ⟨_, E.mhd hF h, ⟨_, _, by rw [nl_len], by rw [nl_len]; omega, hb r (List.mem_of_getElem? h), by simp [nl], icl_one _, fun hn => ⟨r.b, 0, rfl, ⟨(E.mr hF h).lt, trivial⟩, fun j u hu => ?_⟩⟩⟩
    rw [Nat.zero_add]
    have hj := (List.getElem?_eq_some_iff.1 hu).1
    rw [List.length_map, nl_len] at hj
    rw [E.mcell hF h hj]
    have := ncl_get r.l j hj
    unfold ncl icl at this
    rw [this] at hu
    exact hu
theorem mrows_get (h : R[i]? = some r) : (mrows R)[i]? = some r.l := by rw [List.getElem?_map, h]; rfl
theorem mrows_set (h : R[i]? = some r) (v : Nat) : mrows (R.set i ⟨r.b, r.l.set j v, r.x⟩) = (mrows R).set i (r.l.set j v) := by unfold mrows; rw [List.map_set]
/-- capacities that slices can have -/
def CapOk (R : List Rb) : Prop := ∀ r ∈ R, r.l.length + r.x.length ≤ 9223372036854775807
theorem CapOk.set (hc : CapOk R) (h : R[i]? = some r) (v : Nat) : CapOk (R.set i ⟨r.b, r.l.set j v, r.x⟩) := by
  intro x hx
  rcases List.mem_or_eq_of_mem_set hx with hx | rfl
  · exact hc x hx
  · simp only [List.length_set]; exact hc r (List.mem_of_getElem? h)
theorem CapOk.swap {a b : Nat} (hc : CapOk R) : CapOk (swapL R a b) := fun x hx => hc x (swapL_mem hx)
end
end Go.Proofs.YtinlfogpbologaaDoor
