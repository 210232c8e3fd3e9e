/- The plain law of SpentRemembers: what the map of first uses says of the table. -/
import Derived.Test.YtfnnfmefihiefaaSpGb
namespace Go.Proofs.Ytfnnfmefihiefaa
open Go.RowKit
set_option linter.unusedVariables false
set_option linter.unusedSimpArgs false
abbrev ca (s : Sp) : Int := cInt s.cn 4
/-- behind i spends: the table, the map of first uses, the spends that were stored -/
structure RmI (S : List Sp) (i : Nat) (L : List Us) (M : Mk) (st : List Int) : Prop where
  tab : TabOf (fun t => t ∈ S.take i) i L
  hit : ∀ a b k, M a b = some k → k < i ∧ ∃ u ∈ L, u.ua = a ∧ u.ub = b ∧ S[k]? = some u.sp
  all : ∀ u ∈ L, (M u.ua u.ub).isSome = true
  sto : ∀ x ∈ st, ∃ k : Nat, x = (k : Int) ∧ k < i ∧ ∃ s, S[k]? = some s ∧ ∀ j, j < s.lv.length → (M (ca s) (leafB s j)).isSome = true
  mem : ∀ a b k, M a b = some k → (k : Int) ∈ st
theorem RmI.start {S : List Sp} : RmI S 0 [] (fun _ _ => none) [] := ⟨TabOf.take0, (fun a b k h => by cases h), (fun u h => by cases h), (fun x h => by cases h), (fun a b k h => by cases h)⟩
section
variable {S : List Sp} {i : Nat} {L : List Us} {M : Mk} {st : List Int} {s : Sp}
theorem RmI.find (h : RmI S i L M st) (a b : Int) : (∃ k u, M a b = some k ∧ findK L a b = some u ∧ u.ua = a ∧ u.ub = b ∧ S[k]? = some u.sp ∧ k < i) ∨ (M a b = none ∧ findK L a b = none) := by
  cases e : M a b with
  | some k =>
    obtain ⟨h1, u, hu, h2, h3, h4⟩ := h.hit a b k e
    exact .inl ⟨k, u, rfl, (findK_iff h.tab.valid.2.2).2 ⟨hu, h2, h3⟩, h2, h3, h4, h1⟩
  | none =>
    refine .inr ⟨rfl, findK_none.2 fun u hu hk => ?_⟩
    have := h.all u hu
    rw [hk.1, hk.2, e] at this
    cases this
theorem RmI.same (h : RmI S i L M st) (hs : StOk s) : st.any (fun x => sameK S M s x) = true ↔ ∃ u ∈ L, u.sp = s := by
  rw [List.any_eq_true]
  constructor
  · rintro ⟨x, hx, h1⟩
    obtain ⟨k, rfl, hk, t, ht, hj⟩ := h.sto x hx
    unfold sameK at h1
    rw [Int.toNat_natCast, ht, Bool.and_eq_true] at h1
    obtain ⟨e1, e2⟩ := h1
    obtain rfl := eqSp_iff.1 e1
    obtain ⟨p, hp, e3⟩ := List.any_eq_true.1 e2
    obtain ⟨j, hjl, rfl⟩ := List.getElem_of_mem hp
    have e4 := hj j hjl
    rw [leafB_eq hjl] at e4
    obtain ⟨k', hk'⟩ := Option.isSome_iff_exists.1 e4
    unfold usedB at e3
    rw [show M (cInt t.cn 4) t.lv[j].1 = some k' from hk'] at e3
    have e5 : k' = k := by
      have e6 : ((k' : Nat) : Int) = (k : Int) := by simpa using e3
      omega
    subst e5
    obtain ⟨_, u, hu, _, _, h6⟩ := h.hit _ _ _ hk'
    rw [ht] at h6
    exact ⟨u, hu, (Option.some.inj h6).symm⟩
  · rintro ⟨u, hu, rfl⟩
    obtain ⟨k, hk⟩ := Option.isSome_iff_exists.1 (h.all u hu)
    obtain ⟨_, hlf, hlt, ha, hb⟩ := h.tab.valid.2.1 u hu
    obtain ⟨h1, v, hv, h2, h3, h4⟩ := h.hit _ _ _ hk
    obtain rfl := h.tab.valid.2.2.same hv hu h2 h3
    refine ⟨(k : Int), h.mem _ _ _ hk, ?_⟩
    unfold sameK
    rw [Int.toNat_natCast, h4, Bool.and_eq_true]
    refine ⟨eqSp_iff.2 rfl, List.any_eq_true.2 ⟨v.sp.lv[v.lf.toNat], List.getElem_mem hlt, ?_⟩⟩
    unfold usedB
    rw [← ha, ← hb, hk]
    simp
/-- the map behind j leaves of spend number i -/
def mN (M : Mk) (s : Sp) (i : Nat) : Nat → Mk
  | 0 => M
  | j + 1 => match mN M s i j (ca s) (leafB s j) with
    | some _ => mN M s i j
    | none => putM (mN M s i j) (ca s) (leafB s j) i
theorem mN_used {j k : Nat} (h : mN M s i j (ca s) (leafB s j) = some k) : mN M s i (j + 1) = mN M s i j := by rw [mN, h]
theorem mN_new {j : Nat} (h : mN M s i j (ca s) (leafB s j) = none) : mN M s i (j + 1) = putM (mN M s i j) (ca s) (leafB s j) i := by rw [mN, h]
theorem mN_old {a b : Int} {k : Nat} (h : M a b = some k) : ∀ j, mN M s i j a b = some k
  | 0 => h
  | j + 1 => by
    have ih := mN_old h j
    cases e : mN M s i j (ca s) (leafB s j) with
    | some k' => rw [mN_used e]; exact ih
    | none =>
      rw [mN_new e]
      unfold putM
      split
      · rename_i h2
        rw [h2.1, h2.2, e] at ih
        cases ih
      · exact ih
theorem mN_cases {a b : Int} {k : Nat} : ∀ j, mN M s i j a b = some k → M a b = some k ∨ (M a b = none ∧ k = i ∧ a = ca s ∧ ∃ j', j' < j ∧ leafB s j' = b)
  | 0, h => .inl h
  | j + 1, h => by
    have step : mN M s i j a b = some k → M a b = some k ∨ (M a b = none ∧ k = i ∧ a = ca s ∧ ∃ j', j' < j + 1 ∧ leafB s j' = b) := fun h => by
      rcases mN_cases j h with h | ⟨h0, h1, h2, j', h3, h4⟩
      · exact .inl h
      · exact .inr ⟨h0, h1, h2, j', by omega, h4⟩
    cases e : mN M s i j (ca s) (leafB s j) with
    | some k' => rw [mN_used e] at h; exact step h
    | none =>
      rw [mN_new e] at h
      unfold putM at h
      split at h
      · rename_i h2
        refine .inr ⟨?_, (Option.some.inj h).symm, h2.1, j, Nat.lt_succ_self _, h2.2.symm⟩
        cases e2 : M a b with
        | none => rfl
        | some k' =>
          have := mN_old (s := s) (i := i) e2 j
          rw [h2.1, h2.2, e] at this
          cases this
      · exact step h
theorem mN_done {j' : Nat} : ∀ j, j' < j → (mN M s i j (ca s) (leafB s j')).isSome = true
  | 0, h => absurd h (Nat.not_lt_zero _)
  | j + 1, h => by
    by_cases e : j' = j
    · subst e
      cases e : mN M s i j' (ca s) (leafB s j') with
      | some k' => rw [mN_used e, e]; rfl
      | none => rw [mN_new e]; unfold putM; rw [if_pos ⟨rfl, rfl⟩]; rfl
    · have ih := mN_done j (by omega : j' < j)
      cases e : mN M s i j (ca s) (leafB s j) with
      | some k' => rw [mN_used e]; exact ih
      | none =>
        rw [mN_new e]
        unfold putM
        split
        · rfl
        · exact ih
/-- what comes later was not put in by this spend -/
theorem mN_find (hs : StOk s) {j : Nat} (hj : j < s.lv.length) : mN M s i j (ca s) (leafB s j) = M (ca s) (leafB s j) := by
  cases e : mN M s i j (ca s) (leafB s j) with
  | some k =>
    rcases mN_cases j e with h | ⟨_, _, _, j', h1, h2⟩
    · exact h.symm
    · rw [leafB_eq hj, leafB_eq (by omega)] at h2
      exact absurd h2 (hs.2.2.2 j hj j' (by omega) h1)
  | none =>
    cases e2 : M (ca s) (leafB s j) with
    | none => rfl
    | some k => rw [mN_old e2 j] at e; cases e
/-- the conflicts found so far stand at the front -/
theorem putN_pre {L : List Us} {j : Nat} : ∀ n, j ≤ n → ∃ r, (putN s L n).2 = (putN s L j).2 ++ r
  | 0, h => ⟨[], by obtain rfl : j = 0 := (by omega); simp⟩
  | n + 1, h => by
    by_cases e : j = n + 1
    · exact ⟨[], by rw [e]; simp⟩
    · obtain ⟨r, hr⟩ := putN_pre n (by omega : j ≤ n)
      cases e2 : findK (putN s L n).1 (cInt s.cn 4) (leafB s n) with
      | some u => rw [putN_some e2]; exact ⟨r ++ [u], by simp only; rw [hr, List.append_assoc]⟩
      | none => rw [putN_none e2]; exact ⟨r, hr⟩
/-- a leaf of a spend that is put in: used before, or new -/
theorem RmI.leaf (h : RmI S i L M st) (hs : StOk s) {j : Nat} (hj : j < s.lv.length) :
    (∃ k u, mN M s i j (ca s) (leafB s j) = some k ∧ mN M s i (j + 1) = mN M s i j ∧ (putN s L (j + 1)).1.length = (putN s L j).1.length ∧ (putN s L (j + 1)).2.length = (putN s L j).2.length + 1 ∧
      (putN s L s.lv.length).2[(putN s L j).2.length]? = some u ∧ u.ua = ca s ∧ u.ub = leafB s j ∧ S[k]? = some u.sp ∧ k < i) ∨
    (mN M s i j (ca s) (leafB s j) = none ∧ mN M s i (j + 1) = putM (mN M s i j) (ca s) (leafB s j) i ∧ (putN s L (j + 1)).1.length = (putN s L j).1.length + 1 ∧ (putN s L (j + 1)).2.length = (putN s L j).2.length) := by
  have hf := putN_find (L := L) h.tab.valid.2.2 hs hj
  have hm := mN_find (M := M) (i := i) hs hj
  rcases h.find (ca s) (leafB s j) with ⟨k, u, h1, h2, h3, h4, h5, h6⟩ | ⟨h1, h2⟩
  · rw [h1] at hm
    rw [h2] at hf
    refine .inl ⟨k, u, hm, mN_used hm, by rw [putN_some hf], by rw [putN_some hf]; simp, ?_, h3, h4, h5, h6⟩
    obtain ⟨r, hr⟩ := putN_pre (s := s) (L := L) (j := j + 1) s.lv.length (by omega)
    rw [hr, putN_some hf]
    simp
  · rw [h1] at hm
    rw [h2] at hf
    exact .inr ⟨hm, mN_new hm, by rw [putN_none hf]; simp only; rw [insU_length _ _ _ (lb_le _ _ _)], by rw [putN_none hf]⟩
/-- a spend that is refused -/
theorem RmI.skip (h : RmI S i L M st) (hi : S[i]? = some s) (hn : i ≤ 20) (he : putS L s = L) : RmI S (i + 1) L M st := by
  have ht := TabOf.take hi hn h.tab
  rw [he] at ht
  exact ⟨ht, fun a b k e => ⟨by have := (h.hit a b k e).1; omega, (h.hit a b k e).2⟩, h.all, fun x hx => by
    obtain ⟨k, h1, h2, h3⟩ := h.sto x hx
    exact ⟨k, h1, by omega, h3⟩, h.mem⟩
/-- a spend that is stored -/
theorem RmI.put (h : RmI S i L M st) (hi : S[i]? = some s) (hn : i ≤ 20) (hs : StOk s) (he : putS L s = (putN s L s.lv.length).1) : RmI S (i + 1) (putN s L s.lv.length).1 (mN M s i s.lv.length) (st ++ [(i : Int)]) := by
  have ht := TabOf.take hi hn h.tab
  rw [he] at ht
  refine ⟨ht, fun a b k e => ?_, fun u hu => ?_, fun x hx => ?_, fun a b k e => ?_⟩
  · rcases mN_cases _ e with e | ⟨e0, rfl, rfl, j, hj, hb⟩
    · obtain ⟨h1, u, hu, h2⟩ := h.hit a b k e
      exact ⟨by omega, u, putN_old hu _, h2⟩
    · refine ⟨Nat.lt_succ_self _, ?_⟩
      obtain ⟨u, hu, h1, h2⟩ := (putN_key (s := s) (L := L) s.lv.length).2 (.inr ⟨rfl, j, hj, hb⟩)
      refine ⟨u, hu, h1, h2, ?_⟩
      rcases putN_mem _ hu with hu | ⟨j', _, rfl⟩
      · have := h.all u hu
        rw [h1, h2] at this
        rw [show M (cInt s.cn 4) b = none from e0] at this
        cases this
      · exact hi
  · rcases putN_mem _ hu with hu | ⟨j, hj, rfl⟩
    · obtain ⟨k, hk⟩ := Option.isSome_iff_exists.1 (h.all u hu)
      rw [mN_old hk]; rfl
    · exact mN_done _ hj
  · rcases List.mem_append.1 hx with hx | hx
    · obtain ⟨k, h1, h2, t, h3, h4⟩ := h.sto x hx
      refine ⟨k, h1, by omega, t, h3, fun j hj => ?_⟩
      obtain ⟨k', hk'⟩ := Option.isSome_iff_exists.1 (h4 j hj)
      rw [mN_old hk']; rfl
    · obtain rfl : x = (i : Int) := by simpa using hx
      exact ⟨i, rfl, Nat.lt_succ_self _, s, hi, fun j hj => mN_done _ hj⟩
  · rcases mN_cases _ e with e | ⟨_, rfl, _⟩
    · exact List.mem_append.2 (.inl (h.mem a b k e))
    · simp
theorem RmI.inb (h : RmI S i L M st) (hi : i ≤ S.length) : ∀ x ∈ st, InB S.length x := fun x hx => by
  obtain ⟨k, h1, h2, _⟩ := h.sto x hx
  exact ⟨k, h1, by omega⟩
/-- a key of the map, as Find answers it -/
theorem RmI.key (h : RmI S i L M st) {a b : Int} {k : Nat} (hk : M a b = some k) : ∃ u, findK L a b = some u ∧ u.ua = a ∧ u.ub = b ∧ S[k]? = some u.sp ∧ k < i ∧ ∃ j : Nat, u.lf = (j : Int) ∧ ∃ hj : j < u.sp.lv.length, u.sp.lv[j].1 = b := by
  rcases h.find a b with ⟨k', u, h1, h2, h3, h4, h5, h6⟩ | ⟨h1, _⟩
  · rw [hk] at h1
    cases h1
    have hu := ((findK_iff h.tab.valid.2.2).1 h2).1
    obtain ⟨_, hlf, hlt, _, hb⟩ := h.tab.valid.2.1 u hu
    exact ⟨u, h2, h3, h4, h5, h6, u.lf.toNat, by omega, hlt, by rw [← hb, h4]⟩
  · rw [hk] at h1; cases h1
end
end Go.Proofs.Ytfnnfmefihiefaa
