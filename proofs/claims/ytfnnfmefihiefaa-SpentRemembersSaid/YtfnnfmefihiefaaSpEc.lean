/- The plain law of order: which leaves a table has does not depend on the order of the spends. -/
import Derived.Test.YtfnnfmefihiefaaSpEb
import Derived.Test.YtfnnfmefihiefaaSpBa
namespace Go.Proofs.Ytfnnfmefihiefaa
open Go.RowKit
set_option linter.unusedVariables false
set_option linter.unusedSimpArgs false
/-- a table behind one more spend: unchanged with an error -/
noncomputable def putS (L : List Us) (s : Sp) : List Us := if (putRes L s).2.2 = 0 then (putRes L s).1 else L
/-- what a table holds that took the n spends of P -/
structure TabOf (P : Sp → Prop) (n : Nat) (L : List Us) : Prop where
  valid : ValidT L
  len : L.length ≤ 32 * n
  by_ : ∀ u ∈ L, P u.sp
  key : ∀ a b, (∃ u ∈ L, u.ua = a ∧ u.ub = b) ↔ ∃ s, P s ∧ StOk s ∧ cInt s.cn 4 = a ∧ ∃ j, j < s.lv.length ∧ leafB s j = b
theorem TabOf.nil : TabOf (fun _ => False) 0 [] := ⟨valid_nil, Nat.zero_le _, fun u hu => (by cases hu), fun a b => ⟨fun ⟨u, hu, _⟩ => (by cases hu), fun ⟨s, h, _⟩ => h.elim⟩⟩
theorem TabOf.cast {P Q : Sp → Prop} {n m : Nat} {L : List Us} (h : TabOf P n L) (e : ∀ s, P s ↔ Q s) (en : n = m) : TabOf Q m L := by
  subst en
  have : P = Q := funext fun s => propext (e s)
  exact this ▸ h
theorem putN_key {s : Sp} {L : List Us} {a b : Int} : ∀ k, (∃ u ∈ (putN s L k).1, u.ua = a ∧ u.ub = b) ↔ (∃ u ∈ L, u.ua = a ∧ u.ub = b) ∨ (cInt s.cn 4 = a ∧ ∃ j, j < k ∧ leafB s j = b)
  | 0 => ⟨fun h => .inl h, fun h => h.elim id fun ⟨_, j, hj, _⟩ => absurd hj (Nat.not_lt_zero _)⟩
  | k + 1 => by
    have ih := putN_key (s := s) (L := L) (a := a) (b := b) k
    cases e : findK (putN s L k).1 (cInt s.cn 4) (leafB s k) with
    | some v =>
      rw [putN_some e]
      have hv := keyB_iff.1 (List.find?_some e)
      have hm := List.mem_of_find?_eq_some e
      constructor
      · intro h
        rcases ih.1 h with h | ⟨h1, j, hj, h2⟩
        · exact .inl h
        · exact .inr ⟨h1, j, by omega, h2⟩
      · rintro (h | ⟨h1, j, hj, h2⟩)
        · exact ih.2 (.inl h)
        · by_cases ej : j = k
          · subst ej
            exact ⟨v, hm, hv.1.trans h1, hv.2.trans h2⟩
          · exact ih.2 (.inr ⟨h1, j, by omega, h2⟩)
    | none =>
      rw [putN_none e]
      constructor
      · rintro ⟨u, hu, h1, h2⟩
        rcases mem_insU hu with rfl | hu
        · exact .inr ⟨h1, k, Nat.lt_succ_self _, h2⟩
        · rcases ih.1 ⟨u, hu, h1, h2⟩ with h | ⟨h1, j, hj, h2⟩
          · exact .inl h
          · exact .inr ⟨h1, j, by omega, h2⟩
      · intro h
        have hh : (∃ u ∈ (putN s L k).1, u.ua = a ∧ u.ub = b) ∨ (cInt s.cn 4 = a ∧ leafB s k = b) := by
          rcases h with h | ⟨h1, j, hj, h2⟩
          · exact .inl (ih.2 (.inl h))
          · by_cases ej : j = k
            · subst ej; exact .inr ⟨h1, h2⟩
            · exact .inl (ih.2 (.inr ⟨h1, j, by omega, h2⟩))
        rcases hh with ⟨u, hu, h⟩ | ⟨h1, h2⟩
        · exact ⟨u, mem_insU_iff.2 (.inr hu), h⟩
        · exact ⟨useOf s k, mem_insU_iff.2 (.inl rfl), h1, h2⟩
theorem TabOf.notFull {P : Sp → Prop} {n : Nat} {L : List Us} {s : Sp} (h : TabOf P n L) (hn : n ≤ 20) (hs : StOk s) : ¬ 2000 < (putN s L s.lv.length).1.length := by
  have h1 := (putN_len (s := s) (L := L) s.lv.length).2.1
  have h2 := h.len
  have h3 := hs.2.1
  omega
/-- the errors of a put -/
theorem TabOf.cases {P : Sp → Prop} {n : Nat} {L : List Us} (s : Sp) (h : TabOf P n L) (hn : n ≤ 20) : (¬ StOk s ∧ putRes L s = ([], [], 1)) ∨ (StOk s ∧ (∃ u ∈ L, u.sp = s) ∧ putRes L s = ([], [], 8)) ∨
    (StOk s ∧ ¬ (∃ u ∈ L, u.sp = s) ∧ putRes L s = ((putN s L s.lv.length).1, (putN s L s.lv.length).2, 0)) := by
  by_cases hs : StOk s
  · by_cases ht : ∃ u ∈ L, u.sp = s
    · exact .inr (.inl ⟨hs, ht, putRes_twice h.valid hs ht⟩)
    · exact .inr (.inr ⟨hs, ht, putRes_ok h.valid hs ht (h.notFull hn hs)⟩)
  · exact .inl ⟨hs, putRes_bad (.inr hs)⟩
theorem putS_no {L : List Us} {s : Sp} {A B : List Us} {e : Int} (h : putRes L s = (A, B, e)) (he : ¬ e = 0) : putS L s = L := by unfold putS; rw [h, if_neg he]
theorem putS_yes {L : List Us} {s : Sp} {A B : List Us} (h : putRes L s = (A, B, 0)) : putS L s = A := by unfold putS; rw [h, if_pos rfl]
theorem TabOf.put {P : Sp → Prop} {n : Nat} {L : List Us} (s : Sp) (h : TabOf P n L) (hn : n ≤ 20) : TabOf (fun t => P t ∨ t = s) (n + 1) (putS L s) := by
  have hlen := h.len
  rcases h.cases s hn with ⟨hs, e⟩ | ⟨hs, ⟨u, hu, hus⟩, e⟩ | ⟨hs, ht, e⟩
  · rw [putS_no e (by decide)]
    refine ⟨h.valid, by omega, fun u hu => .inl (h.by_ u hu), fun a b => (h.key a b).trans ⟨fun ⟨t, h1, h2⟩ => ⟨t, .inl h1, h2⟩, ?_⟩⟩
    rintro ⟨t, h1 | rfl, h2⟩
    · exact ⟨t, h1, h2⟩
    · exact absurd h2.1 hs
  · rw [putS_no e (by decide)]
    refine ⟨h.valid, by omega, fun u hu => .inl (h.by_ u hu), fun a b => (h.key a b).trans ⟨fun ⟨t, h1, h2⟩ => ⟨t, .inl h1, h2⟩, ?_⟩⟩
    rintro ⟨t, h1 | rfl, h2⟩
    · exact ⟨t, h1, h2⟩
    · exact ⟨t, hus ▸ h.by_ u hu, h2⟩
  · rw [putS_yes e]
    have hf := h.notFull hn hs
    have h1 := (putN_len (s := s) (L := L) s.lv.length).2.1
    have h3 := hs.2.1
    refine ⟨putN_valid h.valid hs hf, by omega, fun u hu => ?_, fun a b => (putN_key _).trans ⟨?_, ?_⟩⟩
    · rcases putN_mem _ hu with hu | ⟨j, _, rfl⟩
      · exact .inl (h.by_ u hu)
      · exact .inr rfl
    · rintro (hk | ⟨k1, k2⟩)
      · obtain ⟨t, k1, k2⟩ := (h.key a b).1 hk
        exact ⟨t, .inl k1, k2⟩
      · exact ⟨s, .inr rfl, hs, k1, k2⟩
    · rintro ⟨t, k1 | rfl, k2⟩
      · exact .inl ((h.key a b).2 ⟨t, k1, k2⟩)
      · exact .inr k2.2
/-! ### two tables of the same keys -/
def SameKeys (X Y : List Us) : Prop := X.length = Y.length ∧ ∀ (i : Nat) (u v : Us), X[i]? = some u → Y[i]? = some v → u.ua = v.ua ∧ u.ub = v.ub
theorem srt_tail {x : Us} {X : List Us} (h : SrtT (x :: X)) : SrtT X := fun i u v hu hv => h (i + 1) u v (by simpa using hu) (by simpa using hv)
theorem srt_head {x : Us} {X : List Us} (h : SrtT (x :: X)) : ∀ u ∈ X, ltK x.ua x.ub u.ua u.ub := by
  intro u hu
  obtain ⟨j, hj, rfl⟩ := List.getElem_of_mem hu
  exact h.lt' (i := 0) (j := j + 1) (by omega) (by simp) (by simp [List.getElem?_eq_getElem hj])
theorem keys_eq : ∀ (X Y : List Us), SrtT X → SrtT Y → (∀ a b, (∃ u ∈ X, u.ua = a ∧ u.ub = b) ↔ ∃ u ∈ Y, u.ua = a ∧ u.ub = b) → SameKeys X Y
  | [], [], _, _, _ => ⟨rfl, fun i u v h => by simp at h⟩
  | [], y :: Y, _, _, h => by
    obtain ⟨u, hu, _⟩ := (h y.ua y.ub).2 ⟨y, by simp, rfl, rfl⟩
    cases hu
  | x :: X, [], _, _, h => by
    obtain ⟨u, hu, _⟩ := (h x.ua x.ub).1 ⟨x, by simp, rfl, rfl⟩
    cases hu
  | x :: X, y :: Y, hx, hy, h => by
    have h0 : x.ua = y.ua ∧ x.ub = y.ub := by
      obtain ⟨v, hv, k1, k2⟩ := (h x.ua x.ub).1 ⟨x, by simp, rfl, rfl⟩
      obtain ⟨u, hu, j1, j2⟩ := (h y.ua y.ub).2 ⟨y, by simp, rfl, rfl⟩
      rcases List.mem_cons.1 hv with rfl | hv
      · exact ⟨k1.symm, k2.symm⟩
      · rcases List.mem_cons.1 hu with rfl | hu
        · exact ⟨j1, j2⟩
        · have l1 := srt_head hy v hv
          have l2 := srt_head hx u hu
          rw [k1, k2] at l1
          rw [j1, j2] at l2
          exact absurd (ltK_trans l1 l2) (ltK_irr _ _)
    have ih := keys_eq X Y (srt_tail hx) (srt_tail hy) fun a b => by
      constructor
      · rintro ⟨u, hu, k1, k2⟩
        obtain ⟨v, hv, j1, j2⟩ := (h a b).1 ⟨u, List.mem_cons_of_mem _ hu, k1, k2⟩
        rcases List.mem_cons.1 hv with rfl | hv
        · have l1 := srt_head hx u hu
          rw [h0.1, h0.2, k1, k2, j1, j2] at l1
          exact absurd l1 (ltK_irr _ _)
        · exact ⟨v, hv, j1, j2⟩
      · rintro ⟨v, hv, k1, k2⟩
        obtain ⟨u, hu, j1, j2⟩ := (h a b).2 ⟨v, List.mem_cons_of_mem _ hv, k1, k2⟩
        rcases List.mem_cons.1 hu with rfl | hu
        · have l1 := srt_head hy v hv
          rw [← h0.1, ← h0.2, k1, k2, j1, j2] at l1
          exact absurd l1 (ltK_irr _ _)
        · exact ⟨u, hu, j1, j2⟩
    refine ⟨by simp [ih.1], fun i u v hu hv => ?_⟩
    cases i with
    | zero =>
      simp only [List.getElem?_cons_zero, Option.some.injEq] at hu hv
      subst hu hv
      exact h0
    | succ i => exact ih.2 i u v (by simpa using hu) (by simpa using hv)
theorem SameKeys.refl (X : List Us) : SameKeys X X := ⟨rfl, fun i u v hu hv => by rw [hu] at hv; cases hv; exact ⟨rfl, rfl⟩⟩
theorem TabOf.same {P : Sp → Prop} {n m : Nat} {X Y : List Us} (hx : TabOf P n X) (hy : TabOf P m Y) : SameKeys X Y := keys_eq X Y hx.valid.2.2 hy.valid.2.2 fun a b => (hx.key a b).trans (hy.key a b).symm
open Classical in
/-- how many of the first k uses differ -/
noncomputable def diffN (X Y : List Us) : Nat → Nat
  | 0 => 0
  | k + 1 => if (X[k]?.map Us.sp) = (Y[k]?.map Us.sp) then diffN X Y k else diffN X Y k + 1
theorem diffN_same {X Y : List Us} {k : Nat} {u v : Us} (hu : X[k]? = some u) (hv : Y[k]? = some v) (h : u.sp = v.sp) : diffN X Y (k + 1) = diffN X Y k := by
  rw [diffN, hu, hv, if_pos (by simp [h])]
theorem diffN_diff {X Y : List Us} {k : Nat} {u v : Us} (hu : X[k]? = some u) (hv : Y[k]? = some v) (h : ¬ u.sp = v.sp) : diffN X Y (k + 1) = diffN X Y k + 1 := by
  rw [diffN, hu, hv, if_neg (by simpa using h)]
theorem diffN_le {X Y : List Us} : ∀ k, diffN X Y k ≤ k
  | 0 => Nat.le_refl _
  | k + 1 => by
    have := diffN_le (X := X) (Y := Y) k
    rw [diffN]; split <;> omega
theorem diffN_refl (X : List Us) : ∀ k, diffN X X k = 0
  | 0 => rfl
  | k + 1 => by rw [diffN, if_pos rfl]; exact diffN_refl X k
theorem mgN_keys {X Y : List Us} (hs : SrtT X) (hk : SameKeys X Y) : ∀ k, k ≤ Y.length → (mgN X Y k).1 = X ∧ (mgN X Y k).2.length = diffN X Y k
  | 0, _ => ⟨rfl, rfl⟩
  | k + 1, hl => by
    obtain ⟨h1, h2⟩ := mgN_keys hs hk k (by omega)
    have hy : Y[k]? = some Y[k] := List.getElem?_eq_getElem (by omega)
    have hx : X[k]? = some (X[k]'(by rw [hk.1]; omega)) := List.getElem?_eq_getElem (by rw [hk.1]; omega)
    generalize Y[k] = v at hy
    generalize X[k]'_ = u at hx
    have hkk := hk.2 k u v hx hy
    have hf : findK (mgN X Y k).1 v.ua v.ub = some u := by rw [h1]; exact (findK_iff hs).2 ⟨List.mem_of_getElem? hx, hkk⟩
    by_cases e : u.sp = v.sp
    · rw [mgN_same hy hf e, diffN_same hx hy e]; exact ⟨h1, h2⟩
    · rw [mgN_diff hy hf e, diffN_diff hx hy e]
      exact ⟨h1, by rw [List.length_append, h2]; rfl⟩
/-- two tables of the same keys merged -/
theorem merge_keys {X Y : List Us} (hx : ValidT X) (hy : ValidT Y) (hk : SameKeys X Y) : ∃ C, mergeRes X Y = (X, C, 0) ∧ C.length = diffN X Y Y.length ∧ ∀ p ∈ C, p.1.ua = p.2.ua ∧ p.1.ub = p.2.ub ∧ ¬ p.1.sp = p.2.sp := by
  obtain ⟨h1, h2⟩ := mgN_keys hx.2.2 hk Y.length (Nat.le_refl _)
  refine ⟨(mgN X Y Y.length).2, ?_, h2, fun p hp => (mgN_pair _ hp).2.2⟩
  rw [mergeRes_ok hx hy (by rw [h1]; have := hx.1; omega), h1]
theorem merge_self {X : List Us} (hx : ValidT X) : mergeRes X X = (X, [], 0) := by
  obtain ⟨C, h1, h2, _⟩ := merge_keys hx hx (SameKeys.refl X)
  rw [diffN_refl] at h2
  rw [h1, List.length_eq_zero_iff.1 h2]
/-! ### the loop over spends -/
theorem TabOf.take {S : List Sp} {i : Nat} {L : List Us} {s : Sp} (hi : S[i]? = some s) (hn : i ≤ 20) (h : TabOf (fun t => t ∈ S.take i) i L) : TabOf (fun t => t ∈ S.take (i + 1)) (i + 1) (putS L s) := by
  obtain ⟨hl, rfl⟩ := List.getElem?_eq_some_iff.1 hi
  have e : ∀ t, (t ∈ S.take i ∨ t = S[i]) ↔ t ∈ S.take (i + 1) := fun t => by
    rw [List.take_succ_eq_append_getElem hl, List.mem_append, List.mem_singleton]
  exact (h.put S[i] hn).cast e rfl
theorem TabOf.drop {S : List Sp} {i j : Nat} {L : List Us} {s : Sp} (hj : S[j]? = some s) (hij : j + 1 + i = S.length) (hn : i ≤ 20) (h : TabOf (fun t => t ∈ S.drop (S.length - i)) i L) : TabOf (fun t => t ∈ S.drop (S.length - (i + 1))) (i + 1) (putS L s) := by
  obtain ⟨hl, rfl⟩ := List.getElem?_eq_some_iff.1 hj
  have e : ∀ t, (t ∈ S.drop (S.length - i) ∨ t = S[j]) ↔ t ∈ S.drop (S.length - (i + 1)) := fun t => by
    rw [show S.length - (i + 1) = j by omega, List.drop_eq_getElem_cons hl, show S.length - i = j + 1 by omega, List.mem_cons]
    exact or_comm
  exact (h.put S[j] hn).cast e rfl
theorem TabOf.both {S : List Sp} {X Y : List Us} (hx : TabOf (fun t => t ∈ S.take S.length) S.length X) (hy : TabOf (fun t => t ∈ S.drop (S.length - S.length)) S.length Y) : SameKeys X Y := by
  rw [Nat.sub_self] at hy
  refine (hx.cast (Q := fun t => t ∈ S) (fun t => by rw [List.take_length]) rfl).same (hy.cast (Q := fun t => t ∈ S) (fun t => by rw [List.drop_zero]) rfl)
theorem TabOf.take0 {S : List Sp} : TabOf (fun t => t ∈ S.take 0) 0 [] := TabOf.nil.cast (fun t => by simp) rfl
theorem TabOf.drop0 {S : List Sp} : TabOf (fun t => t ∈ S.drop (S.length - 0)) 0 [] := TabOf.nil.cast (fun t => by simp) rfl
end Go.Proofs.Ytfnnfmefihiefaa
