/- The plain law of Merge: what joins two tables. -/
import Derived.Test.YtfnnfmefihiefaaSpQ
namespace Go.Proofs.Ytfnnfmefihiefaa
open Go.RowKit
set_option linter.unusedVariables false
set_option linter.unusedSimpArgs false
open Classical in
/-- the first k uses of Y joined to X: the table, and the pairs of uses that differ -/
noncomputable def mgN (X Y : List Us) : Nat → List Us × List (Us × Us)
  | 0 => (X, [])
  | k + 1 => match Y[k]? with
    | none => mgN X Y k
    | some u => match findK (mgN X Y k).1 u.ua u.ub with
      | none => (insU (mgN X Y k).1 (lb (mgN X Y k).1 u.ua u.ub) u, (mgN X Y k).2)
      | some v => if v.sp = u.sp then mgN X Y k else ((mgN X Y k).1, (mgN X Y k).2 ++ [(v, u)])
theorem mgN_new {X Y : List Us} {k : Nat} {u : Us} (h : Y[k]? = some u) (h2 : findK (mgN X Y k).1 u.ua u.ub = none) : mgN X Y (k + 1) = (insU (mgN X Y k).1 (lb (mgN X Y k).1 u.ua u.ub) u, (mgN X Y k).2) := by
  rw [mgN, h]; simp only [h2]
theorem mgN_same {X Y : List Us} {k : Nat} {u v : Us} (h : Y[k]? = some u) (h2 : findK (mgN X Y k).1 u.ua u.ub = some v) (h3 : v.sp = u.sp) : mgN X Y (k + 1) = mgN X Y k := by
  rw [mgN, h]; simp only [h2]; rw [if_pos h3]
theorem mgN_diff {X Y : List Us} {k : Nat} {u v : Us} (h : Y[k]? = some u) (h2 : findK (mgN X Y k).1 u.ua u.ub = some v) (h3 : ¬ v.sp = u.sp) : mgN X Y (k + 1) = ((mgN X Y k).1, (mgN X Y k).2 ++ [(v, u)]) := by
  rw [mgN, h]; simp only [h2]; rw [if_neg h3]
/-- a step, by its ways -/
theorem mgN_cases {X Y : List Us} {k : Nat} {u : Us} (h : Y[k]? = some u) : (findK (mgN X Y k).1 u.ua u.ub = none ∧ mgN X Y (k + 1) = (insU (mgN X Y k).1 (lb (mgN X Y k).1 u.ua u.ub) u, (mgN X Y k).2)) ∨
    (∃ v, findK (mgN X Y k).1 u.ua u.ub = some v ∧ v.sp = u.sp ∧ mgN X Y (k + 1) = mgN X Y k) ∨ ∃ v, findK (mgN X Y k).1 u.ua u.ub = some v ∧ ¬ v.sp = u.sp ∧ mgN X Y (k + 1) = ((mgN X Y k).1, (mgN X Y k).2 ++ [(v, u)]) := by
  cases e : findK (mgN X Y k).1 u.ua u.ub with
  | none => exact .inl ⟨rfl, mgN_new h e⟩
  | some v =>
    by_cases h3 : v.sp = u.sp
    · exact .inr (.inl ⟨v, rfl, h3, mgN_same h e h3⟩)
    · exact .inr (.inr ⟨v, rfl, h3, mgN_diff h e h3⟩)
theorem mgN_out {X Y : List Us} {k : Nat} (h : Y[k]? = none) : mgN X Y (k + 1) = mgN X Y k := by rw [mgN, h]
theorem mgN_srt {X Y : List Us} (h : SrtT X) : ∀ k, SrtT (mgN X Y k).1
  | 0 => h
  | k + 1 => by
    cases e : Y[k]? with
    | none => rw [mgN_out e]; exact mgN_srt h k
    | some u =>
      rcases mgN_cases (X := X) e with ⟨h1, h2⟩ | ⟨v, h1, _, h2⟩ | ⟨v, h1, _, h2⟩
      · rw [h2]; exact srt_ins (mgN_srt h k) ⟨rfl, rfl⟩ h1
      · rw [h2]; exact mgN_srt h k
      · rw [h2]; exact mgN_srt h k
theorem mgN_len {X Y : List Us} : ∀ k, X.length ≤ (mgN X Y k).1.length ∧ (mgN X Y k).1.length ≤ X.length + k ∧ (mgN X Y k).2.length ≤ k
  | 0 => ⟨Nat.le_refl _, Nat.le_refl _, Nat.le_refl _⟩
  | k + 1 => by
    obtain ⟨h0, h1, h2⟩ := mgN_len (X := X) (Y := Y) k
    cases e : Y[k]? with
    | none => rw [mgN_out e]; exact ⟨h0, by omega, by omega⟩
    | some u =>
      rcases mgN_cases (X := X) e with ⟨_, h3⟩ | ⟨v, _, _, h3⟩ | ⟨v, _, _, h3⟩
      · rw [h3]; simp only; rw [insU_length _ _ _ (lb_le _ _ _)]; exact ⟨by omega, by omega, by omega⟩
      · rw [h3]; exact ⟨h0, by omega, by omega⟩
      · rw [h3]; exact ⟨h0, by simp only; omega, by simp only [List.length_append, List.length_singleton]; omega⟩
theorem mgN_mem {X Y : List Us} {u : Us} : ∀ k, u ∈ (mgN X Y k).1 → u ∈ X ∨ ∃ j, j < k ∧ Y[j]? = some u
  | 0, h => .inl h
  | k + 1, h => by
    have step : u ∈ (mgN X Y k).1 → u ∈ X ∨ ∃ j, j < k + 1 ∧ Y[j]? = some u := fun h => by
      rcases mgN_mem k h with h | ⟨j, hj, e⟩
      · exact .inl h
      · exact .inr ⟨j, by omega, e⟩
    cases e : Y[k]? with
    | none => rw [mgN_out e] at h; exact step h
    | some v =>
      rcases mgN_cases (X := X) e with ⟨_, h3⟩ | ⟨v, _, _, h3⟩ | ⟨v, _, _, h3⟩
      · rw [h3] at h
        rcases mem_insU h with rfl | h
        · exact .inr ⟨k, Nat.lt_succ_self _, e⟩
        · exact step h
      · rw [h3] at h; exact step h
      · rw [h3] at h; exact step h
theorem mgN_old {X Y : List Us} {u : Us} (h : u ∈ X) : ∀ k, u ∈ (mgN X Y k).1
  | 0 => h
  | k + 1 => by
    cases e : Y[k]? with
    | none => rw [mgN_out e]; exact mgN_old h k
    | some v =>
      rcases mgN_cases (X := X) e with ⟨_, h3⟩ | ⟨v, _, _, h3⟩ | ⟨v, _, _, h3⟩
      · rw [h3]; exact mem_insU_iff.2 (.inr (mgN_old h k))
      · rw [h3]; exact mgN_old h k
      · rw [h3]; exact mgN_old h k
/-- what came in from Y is no key that comes later there -/
theorem mgN_find {X Y : List Us} (hs : SrtT X) (hy : SrtT Y) {k : Nat} {u : Us} (hu : Y[k]? = some u) : findK (mgN X Y k).1 u.ua u.ub = findK X u.ua u.ub := by
  have key : ∀ v ∈ (mgN X Y k).1, v.ua = u.ua ∧ v.ub = u.ub → v ∈ X := by
    intro v hv hk
    rcases mgN_mem k hv with h | ⟨j, hj, e⟩
    · exact h
    · have := hy.uniq e hu hk.1 hk.2; omega
  cases e : findK X u.ua u.ub with
  | some v =>
    obtain ⟨h1, h2⟩ := (findK_iff hs).1 e
    exact (findK_iff (mgN_srt hs k)).2 ⟨mgN_old h1 k, h2⟩
  | none => exact findK_none.2 fun v hv hk => findK_none.1 e v (key v hv hk) hk
theorem mgN_use {P : Us → Prop} {X Y : List Us} (hx : ∀ u ∈ X, P u) (hy : ∀ u ∈ Y, P u) (k : Nat) : ∀ u ∈ (mgN X Y k).1, P u := fun u hu => by
  rcases mgN_mem k hu with h | ⟨j, _, e⟩
  · exact hx u h
  · exact hy u (List.mem_of_getElem? e)
theorem mgN_pair {X Y : List Us} {p : Us × Us} : ∀ k, p ∈ (mgN X Y k).2 → p.1 ∈ (mgN X Y k).1 ∧ p.2 ∈ Y ∧ p.1.ua = p.2.ua ∧ p.1.ub = p.2.ub ∧ ¬ p.1.sp = p.2.sp
  | 0, h => by cases h
  | k + 1, h => by
    cases e : Y[k]? with
    | none => rw [mgN_out e] at h ⊢; exact mgN_pair k h
    | some v =>
      rcases mgN_cases (X := X) e with ⟨_, h3⟩ | ⟨v, _, _, h3⟩ | ⟨q, h1, h2, h3⟩
      · rw [h3] at h ⊢
        obtain ⟨k1, k2⟩ := mgN_pair k h
        exact ⟨mem_insU_iff.2 (.inr k1), k2⟩
      · rw [h3] at h ⊢; exact mgN_pair k h
      · rw [h3] at h ⊢
        rcases List.mem_append.1 h with h | h
        · exact mgN_pair k h
        · obtain rfl : p = (q, v) := by simpa using h
          exact ⟨List.mem_of_find?_eq_some h1, List.mem_of_getElem? e, (keyB_iff.1 (List.find?_some h1)).1, (keyB_iff.1 (List.find?_some h1)).2, h2⟩
open Classical in
noncomputable def mergeRes (X Y : List Us) : List Us × List (Us × Us) × Int :=
  if ¬ ValidT X ∨ ¬ ValidT Y then ([], [], 1)
  else if 2000 < (mgN X Y Y.length).1.length then ([], [], 5)
  else ((mgN X Y Y.length).1, (mgN X Y Y.length).2, 0)
theorem mergeRes_bad {X Y : List Us} (h : ¬ ValidT X ∨ ¬ ValidT Y) : mergeRes X Y = ([], [], 1) := by unfold mergeRes; rw [if_pos h]
theorem mergeRes_full {X Y : List Us} (h : ValidT X) (h2 : ValidT Y) (h4 : 2000 < (mgN X Y Y.length).1.length) : mergeRes X Y = ([], [], 5) := by unfold mergeRes; rw [if_neg (by simp [h, h2]), if_pos h4]
theorem mergeRes_ok {X Y : List Us} (h : ValidT X) (h2 : ValidT Y) (h4 : ¬ 2000 < (mgN X Y Y.length).1.length) : mergeRes X Y = ((mgN X Y Y.length).1, (mgN X Y Y.length).2, 0) := by unfold mergeRes; rw [if_neg (by simp [h, h2]), if_neg h4]
theorem mgN_valid {X Y : List Us} (h : ValidT X) (h2 : ValidT Y) (h4 : ¬ 2000 < (mgN X Y Y.length).1.length) : ValidT (mgN X Y Y.length).1 :=
  ⟨by omega, mgN_use h.2.1 h2.2.1 _, mgN_srt h.2.2 _⟩
end Go.Proofs.Ytfnnfmefihiefaa
