/- The plain law of tables: the place of a key, what is put in, what is joined. -/
import Derived.Test.YtfnnfmefihiefaaSpO
namespace Go.Proofs.Ytfnnfmefihiefaa
open Go.RowKit
set_option linter.unusedVariables false
set_option linter.unusedSimpArgs false
theorem ltK_trans {a b c d e f : Int} (h : ltK a b c d) (h' : ltK c d e f) : ltK a b e f := by unfold ltK at *; omega
theorem ltK_irr (a b : Int) : ¬ ltK a b a b := by unfold ltK; omega
theorem ltK_tri (a b c d : Int) : ltK a b c d ∨ (a = c ∧ b = d) ∨ ltK c d a b := by unfold ltK; omega
def lb (L : List Us) (a b : Int) : Nat := (L.takeWhile (fun u => decide (ltK u.ua u.ub a b))).length
def keyB (a b : Int) (u : Us) : Bool := u.ua == a && u.ub == b
theorem keyB_iff {a b : Int} {u : Us} : keyB a b u = true ↔ u.ua = a ∧ u.ub = b := by simp [keyB]
def findK (L : List Us) (a b : Int) : Option Us := L.find? (keyB a b)
theorem SrtT.lt {L : List Us} (h : SrtT L) : ∀ (d i : Nat) {u v : Us}, L[i]? = some u → L[i + d + 1]? = some v → ltK u.ua u.ub v.ua v.ub := by
  intro d
  induction d with
  | zero => intro i u v hu hv; exact h i u v hu hv
  | succ d ih =>
    intro i u v hu hv
    have hl := (List.getElem?_eq_some_iff.1 hv).1
    exact ltK_trans (ih i hu (List.getElem?_eq_getElem (show i + d + 1 < L.length by omega))) (h (i + d + 1) _ v (List.getElem?_eq_getElem (by omega)) hv)
theorem SrtT.lt' {L : List Us} (h : SrtT L) {i j : Nat} {u v : Us} (hij : i < j) (hu : L[i]? = some u) (hv : L[j]? = some v) : ltK u.ua u.ub v.ua v.ub := by
  obtain ⟨d, rfl⟩ : ∃ d, j = i + d + 1 := ⟨j - i - 1, by omega⟩
  exact h.lt d i hu hv
theorem SrtT.uniq {L : List Us} (h : SrtT L) {i j : Nat} {u v : Us} (hu : L[i]? = some u) (hv : L[j]? = some v) (ha : u.ua = v.ua) (hb : u.ub = v.ub) : i = j := by
  rcases Nat.lt_trichotomy i j with e | e | e
  · have := h.lt' e hu hv; rw [ha, hb] at this; exact absurd this (ltK_irr _ _)
  · exact e
  · have := h.lt' e hv hu; rw [ha, hb] at this; exact absurd this (ltK_irr _ _)
theorem SrtT.same {L : List Us} (h : SrtT L) {u v : Us} (hu : u ∈ L) (hv : v ∈ L) (ha : u.ua = v.ua) (hb : u.ub = v.ub) : u = v := by
  obtain ⟨i, hi, rfl⟩ := List.getElem_of_mem hu
  obtain ⟨j, hj, rfl⟩ := List.getElem_of_mem hv
  have := h.uniq (List.getElem?_eq_getElem hi) (List.getElem?_eq_getElem hj) ha hb
  subst this; rfl
theorem takeWhile_get {α : Type} (p : α → Bool) : ∀ (L : List α) (k : Nat) {x : α}, L[k]? = some x → k < (L.takeWhile p).length → p x = true
  | [], k, x, h, _ => by simp at h
  | y :: L, k, x, h, hk => by
    rw [List.takeWhile_cons] at hk
    split at hk
    · rename_i hy
      cases k with
      | zero => simp only [List.getElem?_cons_zero, Option.some.injEq] at h; subst h; exact hy
      | succ k => exact takeWhile_get p L k (by simpa using h) (by simpa using hk)
    · simp at hk
theorem takeWhile_stop {α : Type} (p : α → Bool) : ∀ (L : List α) {x : α}, L[(L.takeWhile p).length]? = some x → p x = false
  | [], x, h => by simp at h
  | y :: L, x, h => by
    rw [List.takeWhile_cons] at h
    split at h
    · exact takeWhile_stop p L (by simpa using h)
    · rename_i hy
      simp only [List.length_nil, List.getElem?_cons_zero, Option.some.injEq] at h
      subst h
      simpa using hy
theorem takeWhile_le {α : Type} (p : α → Bool) (L : List α) : (L.takeWhile p).length ≤ L.length := (List.takeWhile_prefix p).length_le
theorem lb_le (L : List Us) (a b : Int) : lb L a b ≤ L.length := takeWhile_le _ _
theorem place_lb {L : List Us} (h : SrtT L) (a b : Int) : PlaceK L a b (lb L a b) := by
  refine ⟨lb_le L a b, fun k u hu hk => of_decide_eq_true (takeWhile_get _ L k hu hk), fun k u hu hk hlt => ?_⟩
  have hl := (List.getElem?_eq_some_iff.1 hu).1
  have h0 := List.getElem?_eq_getElem (l := L) (i := lb L a b) (by omega)
  have hs := of_decide_eq_false (takeWhile_stop _ L h0)
  by_cases e : lb L a b = k
  · have h1 : L[lb L a b]? = some u := by rw [e]; exact hu
    rw [h1] at h0; cases h0; exact hs hlt
  · exact hs (ltK_trans (h.lt' (by omega) h0 hu) hlt)
theorem PlaceK.at {L : List Us} (h : SrtT L) {a b : Int} {i j : Nat} {u : Us} (hp : PlaceK L a b i) (hu : L[j]? = some u) (ha : u.ua = a) (hb : u.ub = b) : i = j := by
  have h1 : ¬ j < i := fun hj => by have := hp.2.1 j u hu hj; rw [ha, hb] at this; exact ltK_irr _ _ this
  rcases Nat.lt_or_eq_of_le (Nat.le_of_not_lt h1) with e | e
  · exfalso
    have hi := List.getElem?_eq_getElem (l := L) (i := i) (by have := (List.getElem?_eq_some_iff.1 hu).1; omega)
    have h2 := h.lt' e hi hu
    rw [ha, hb] at h2
    exact hp.2.2 i _ hi (Nat.le_refl _) h2
  · exact e
theorem findK_iff {L : List Us} (h : SrtT L) {a b : Int} {u : Us} : findK L a b = some u ↔ u ∈ L ∧ u.ua = a ∧ u.ub = b := by
  constructor
  · intro e
    exact ⟨List.mem_of_find?_eq_some e, keyB_iff.1 (List.find?_some e)⟩
  · rintro ⟨h1, h2, h3⟩
    cases hf : findK L a b with
    | none => exact absurd (keyB_iff.2 ⟨h2, h3⟩) (by simpa using List.find?_eq_none.1 hf u h1)
    | some v =>
      have hv := keyB_iff.1 (List.find?_some hf)
      rw [h.same (List.mem_of_find?_eq_some hf) h1 (hv.1.trans h2.symm) (hv.2.trans h3.symm)]
theorem findK_none {L : List Us} {a b : Int} : findK L a b = none ↔ ∀ u ∈ L, ¬ (u.ua = a ∧ u.ub = b) := by
  unfold findK
  rw [List.find?_eq_none]
  exact ⟨fun h u hu e => h u hu (keyB_iff.2 e), fun h u hu e => h u hu (keyB_iff.1 e)⟩
theorem findK_at {L : List Us} (h : SrtT L) {a b : Int} {u : Us} (e : findK L a b = some u) : L[lb L a b]? = some u := by
  obtain ⟨h1, h2, h3⟩ := (findK_iff h).1 e
  obtain ⟨j, hj, rfl⟩ := List.getElem_of_mem h1
  have := (place_lb h a b).at h (List.getElem?_eq_getElem hj) h2 h3
  rw [this]; exact List.getElem?_eq_getElem hj
theorem found_lb {L : List Us} (h : SrtT L) (a b : Int) : FoundK L a b (lb L a b) (findK L a b).isSome := by
  unfold FoundK
  cases e : findK L a b with
  | some u =>
    obtain ⟨_, h2, h3⟩ := (findK_iff h).1 e
    exact ⟨fun _ => ⟨u, findK_at h e, h2, h3⟩, fun _ => rfl⟩
  | none =>
    refine ⟨fun h => Bool.noConfusion h, ?_⟩
    rintro ⟨u, h1, h2, h3⟩
    exact absurd ⟨h2, h3⟩ (findK_none.1 e u (List.mem_of_getElem? h1))
theorem insU_get {α : Type} {X : List α} {i : Nat} (hi : i ≤ X.length) (x : α) (k : Nat) : (insU X i x)[k]? = if k < i then X[k]? else if k = i then some x else X[k - 1]? := by
  unfold insU
  have hl : (X.take i).length = i := by rw [List.length_take]; omega
  by_cases h1 : k < i
  · rw [if_pos h1, List.getElem?_append_left (by omega), List.getElem?_take, if_pos h1]
  · rw [if_neg h1, List.getElem?_append_right (by omega), hl]
    by_cases h2 : k = i
    · subst h2; simp
    · rw [if_neg h2, show k - i = (k - i - 1) + 1 by omega, List.getElem?_cons_succ, List.getElem?_drop, show i + (k - i - 1) = k - 1 by omega]
theorem srt_ins {L : List Us} (h : SrtT L) {a b : Int} {u : Us} (hu : u.ua = a ∧ u.ub = b) (hn : findK L a b = none) : SrtT (insU L (lb L a b) u) := by
  obtain ⟨p1, p2, p3⟩ := place_lb h a b
  intro i x y hx hy
  rw [insU_get p1] at hx hy
  by_cases h1 : i + 1 < lb L a b
  · rw [if_pos (by omega)] at hx; rw [if_pos h1] at hy; exact h i x y hx hy
  · rw [if_neg h1] at hy
    by_cases h2 : i + 1 = lb L a b
    · rw [if_pos (by omega)] at hx; rw [if_pos h2] at hy; cases hy
      rw [hu.1, hu.2]; exact p2 i x hx (by omega)
    · rw [if_neg h2] at hy
      simp only [Nat.add_sub_cancel] at hy
      by_cases h3 : i = lb L a b
      · rw [if_neg (by omega), if_pos h3] at hx; cases hx
        rw [hu.1, hu.2]
        have h4 := p3 i y hy (by omega)
        rcases ltK_tri y.ua y.ub a b with e | e | e
        · exact absurd e h4
        · exact absurd e (findK_none.1 hn y (List.mem_of_getElem? hy))
        · exact e
      · rw [if_neg (by omega), if_neg h3] at hx
        have : i - 1 + 1 = i := by omega
        exact h (i - 1) x y hx (by rw [this]; exact hy)
theorem mem_insU_iff {α : Type} {X : List α} {i : Nat} {x y : α} : y ∈ insU X i x ↔ y = x ∨ y ∈ X := by
  constructor
  · exact mem_insU
  · intro h
    unfold insU
    rcases h with rfl | h
    · simp
    · rw [← List.take_append_drop i X] at h
      rcases List.mem_append.1 h with h | h <;> simp [h]
/-! ### Put -/
def leafB (s : Sp) (k : Nat) : Int := match s.lv[k]? with | some x => x.1 | none => 0
theorem leafB_eq {s : Sp} {k : Nat} (h : k < s.lv.length) : leafB s k = s.lv[k].1 := by unfold leafB; rw [List.getElem?_eq_getElem h]
/-- a spend's use of leaf number k -/
def useOf (s : Sp) (k : Nat) : Us := ⟨cInt s.cn 4, leafB s k, s, (k : Int)⟩
def putN (s : Sp) (L : List Us) : Nat → List Us × List Us
  | 0 => (L, [])
  | k + 1 => match findK (putN s L k).1 (cInt s.cn 4) (leafB s k) with
    | some u => ((putN s L k).1, (putN s L k).2 ++ [u])
    | none => (insU (putN s L k).1 (lb (putN s L k).1 (cInt s.cn 4) (leafB s k)) (useOf s k), (putN s L k).2)
theorem putN_some {s : Sp} {L : List Us} {k : Nat} {u : Us} (h : findK (putN s L k).1 (cInt s.cn 4) (leafB s k) = some u) : putN s L (k + 1) = ((putN s L k).1, (putN s L k).2 ++ [u]) := by
  rw [putN, h]
theorem putN_none {s : Sp} {L : List Us} {k : Nat} (h : findK (putN s L k).1 (cInt s.cn 4) (leafB s k) = none) : putN s L (k + 1) = (insU (putN s L k).1 (lb (putN s L k).1 (cInt s.cn 4) (leafB s k)) (useOf s k), (putN s L k).2) := by
  rw [putN, h]
theorem putN_srt {s : Sp} {L : List Us} (h : SrtT L) : ∀ k, SrtT (putN s L k).1
  | 0 => h
  | k + 1 => by
    cases e : findK (putN s L k).1 (cInt s.cn 4) (leafB s k) with
    | some u => rw [putN_some e]; exact putN_srt h k
    | none => rw [putN_none e]; exact srt_ins (putN_srt h k) ⟨rfl, rfl⟩ e
theorem putN_len {s : Sp} {L : List Us} : ∀ k, L.length ≤ (putN s L k).1.length ∧ (putN s L k).1.length ≤ L.length + k ∧ (putN s L k).2.length ≤ k
  | 0 => ⟨Nat.le_refl _, Nat.le_refl _, Nat.le_refl _⟩
  | k + 1 => by
    obtain ⟨h0, h1, h2⟩ := putN_len (s := s) (L := L) k
    cases e : findK (putN s L k).1 (cInt s.cn 4) (leafB s k) with
    | some u => rw [putN_some e]; exact ⟨h0, by simp only; omega, by simp only [List.length_append, List.length_singleton]; omega⟩
    | none => rw [putN_none e]; simp only; rw [insU_length _ _ _ (lb_le _ _ _)]; exact ⟨by omega, by omega, by omega⟩
theorem putN_mem {s : Sp} {L : List Us} {u : Us} : ∀ k, u ∈ (putN s L k).1 → u ∈ L ∨ ∃ j, j < k ∧ u = useOf s j
  | 0, h => .inl h
  | k + 1, h => by
    have step : u ∈ (putN s L k).1 → u ∈ L ∨ ∃ j, j < k + 1 ∧ u = useOf s j := fun h => by
      rcases putN_mem k h with h | ⟨j, hj, rfl⟩
      · exact .inl h
      · exact .inr ⟨j, by omega, rfl⟩
    cases e : findK (putN s L k).1 (cInt s.cn 4) (leafB s k) with
    | some v => rw [putN_some e] at h; exact step h
    | none =>
      rw [putN_none e] at h
      rcases mem_insU h with rfl | h
      · exact .inr ⟨k, Nat.lt_succ_self _, rfl⟩
      · exact step h
theorem putN_old {s : Sp} {L : List Us} {u : Us} (h : u ∈ L) : ∀ k, u ∈ (putN s L k).1
  | 0 => h
  | k + 1 => by
    cases e : findK (putN s L k).1 (cInt s.cn 4) (leafB s k) with
    | some v => rw [putN_some e]; exact putN_old h k
    | none => rw [putN_none e]; exact mem_insU_iff.2 (.inr (putN_old h k))
theorem putN_use {s : Sp} {L : List Us} (hs : SrtT L) (h : ∀ u ∈ L, UseOk u) (hst : StOk s) {k : Nat} (hk : k ≤ s.lv.length) : ∀ u ∈ (putN s L k).1, UseOk u := by
  intro u hu
  rcases putN_mem k hu with hu | ⟨j, hj, rfl⟩
  · exact h u hu
  · have hjl : j < s.lv.length := by omega
    exact ⟨hst, Int.natCast_nonneg _, by simpa [useOf] using hjl, rfl, by simp [useOf, leafB_eq hjl]⟩
/-- what was put in by one spend is no leaf that comes later -/
theorem putN_find {s : Sp} {L : List Us} (hs : SrtT L) (hst : StOk s) {k : Nat} (hk : k < s.lv.length) : findK (putN s L k).1 (cInt s.cn 4) (leafB s k) = findK L (cInt s.cn 4) (leafB s k) := by
  have key : ∀ u ∈ (putN s L k).1, u.ua = cInt s.cn 4 ∧ u.ub = leafB s k → u ∈ L := by
    intro u hu hk2
    rcases putN_mem k hu with h | ⟨j, hj, rfl⟩
    · exact h
    · exfalso
      have : leafB s j = leafB s k := hk2.2
      rw [leafB_eq hk, leafB_eq (by omega)] at this
      exact hst.2.2.2 k hk j (by omega) hj this
  cases e : findK L (cInt s.cn 4) (leafB s k) with
  | some u =>
    obtain ⟨h1, h2⟩ := (findK_iff hs).1 e
    exact (findK_iff (putN_srt hs k)).2 ⟨putN_old h1 k, h2⟩
  | none => exact findK_none.2 fun u hu hk2 => findK_none.1 e u (key u hu hk2) hk2
open Classical in
noncomputable def putRes (L : List Us) (s : Sp) : List Us × List Us × Int :=
  if ¬ ValidT L ∨ ¬ StOk s then ([], [], 1)
  else if ∃ u ∈ L, u.sp = s then ([], [], 8)
  else if 2000 < (putN s L s.lv.length).1.length then ([], [], 5)
  else ((putN s L s.lv.length).1, (putN s L s.lv.length).2, 0)
theorem putRes_bad {L : List Us} {s : Sp} (h : ¬ ValidT L ∨ ¬ StOk s) : putRes L s = ([], [], 1) := by unfold putRes; rw [if_pos h]
theorem putRes_twice {L : List Us} {s : Sp} (h : ValidT L) (h2 : StOk s) (h3 : ∃ u ∈ L, u.sp = s) : putRes L s = ([], [], 8) := by unfold putRes; rw [if_neg (by simp [h, h2]), if_pos h3]
theorem putRes_full {L : List Us} {s : Sp} (h : ValidT L) (h2 : StOk s) (h3 : ¬ ∃ u ∈ L, u.sp = s) (h4 : 2000 < (putN s L s.lv.length).1.length) : putRes L s = ([], [], 5) := by unfold putRes; rw [if_neg (by simp [h, h2]), if_neg h3, if_pos h4]
theorem putRes_ok {L : List Us} {s : Sp} (h : ValidT L) (h2 : StOk s) (h3 : ¬ ∃ u ∈ L, u.sp = s) (h4 : ¬ 2000 < (putN s L s.lv.length).1.length) : putRes L s = ((putN s L s.lv.length).1, (putN s L s.lv.length).2, 0) := by unfold putRes; rw [if_neg (by simp [h, h2]), if_neg h3, if_neg h4]
theorem putN_valid {L : List Us} {s : Sp} (h : ValidT L) (h2 : StOk s) (h4 : ¬ 2000 < (putN s L s.lv.length).1.length) : ValidT (putN s L s.lv.length).1 :=
  ⟨by omega, putN_use h.2.2 h.2.1 h2 (Nat.le_refl _), putN_srt h.2.2 _⟩
end Go.Proofs.Ytfnnfmefihiefaa
