/- Known and Done: what the program computes, told as relations. -/
import Derived.Test.YtbcfcdcomboljaaSesK
import Derived.Test.YtbcfcdcomboljaaSesR
import Derived.Test.YtbcfcdcomboljaaSesT
namespace Go.Proofs.Ytbcfcdcomboljaa
open Go.RowKit
set_option linter.unusedVariables false
/-- F, called with a session and a message, returns a and c -/
def KnLike (F : Nat) (S : Ses) (M : Msg) (a : Msg) (c : Int) : Prop := ∀ (D : Nat → Prop) (xa da ya : Option Addr) (xk dj yk : Nat) (w : World), Fct.at w D (.bs (.slice xa S.rq.body.length xk) S.rq.body) → Fct.at w D (.ms (.slice da S.dn.length dj) S.dn) → Fct.at w D (.bs (.slice ya M.body.length yk) M.body) → Calls Try.prog F #[.agg #[.int .i64 S.nx, .bool S.wt, .int .i64 S.rq.fr, .int .i64 S.rq.to_, .int .i64 S.rq.kd, .int .i64 S.rq.nm, .slice xa S.rq.body.length xk, .slice da S.dn.length dj, .int .i64 S.tr], .agg #[.int .i64 M.fr, .int .i64 M.to_, .int .i64 M.kd, .int .i64 M.nm, .slice ya M.body.length yk]] w fun e w' => RetME (fun b => D b ∨ w.heap.size ≤ b) a c e w' ∧ Below w.heap.size w w'
/-- F, called with a session and two messages, returns a and c -/
def DnLike (F : Nat) (S : Ses) (M A : Msg) (a : Ses) (c : Int) : Prop := ∀ (D : Nat → Prop) (xa da ya za : Option Addr) (xk dj yk zk : Nat) (w : World), Fct.at w D (.bs (.slice xa S.rq.body.length xk) S.rq.body) → Fct.at w D (.ms (.slice da S.dn.length dj) S.dn) → Fct.at w D (.bs (.slice ya M.body.length yk) M.body) → Fct.at w D (.bs (.slice za A.body.length zk) A.body) → Calls Try.prog F #[.agg #[.int .i64 S.nx, .bool S.wt, .int .i64 S.rq.fr, .int .i64 S.rq.to_, .int .i64 S.rq.kd, .int .i64 S.rq.nm, .slice xa S.rq.body.length xk, .slice da S.dn.length dj, .int .i64 S.tr], .agg #[.int .i64 M.fr, .int .i64 M.to_, .int .i64 M.kd, .int .i64 M.nm, .slice ya M.body.length yk], .agg #[.int .i64 A.fr, .int .i64 A.to_, .int .i64 A.kd, .int .i64 A.nm, .slice za A.body.length zk]] w fun e w' => RetSE (fun b => D b ∨ w.heap.size ≤ b) a c e w' ∧ Below w.heap.size w w'
/-- the answer as it is remembered -/
def rem (M A : Msg) : Msg := ⟨M.to_, M.fr, A.kd, M.nm, A.body⟩
/-- no answer to this party is there -/
def NoAns (S : Ses) (M : Msg) : Prop := ∀ k (h : k < S.dn.length), S.dn[k].to_ ≠ M.fr
/-- what Known returns -/
def KnRel (S : Ses) (M : Msg) (a : Msg) (c : Int) : Prop :=
  (¬ (SesOk S ∧ msgOk M = true) ∧ a = M0 ∧ c = 1) ∨ ((SesOk S ∧ msgOk M = true) ∧ ((NoAns S M ∧ a = M0 ∧ c = 7) ∨
    ∃ k, ∃ h : k < S.dn.length, S.dn[k].to_ = M.fr ∧ ((S.dn[k].nm < M.nm ∧ a = M0 ∧ c = 7) ∨ (M.nm < S.dn[k].nm ∧ a = M0 ∧ c = 14) ∨ (S.dn[k].nm = M.nm ∧ a = S.dn[k] ∧ c = 0))))
/-- what Done returns -/
def DnRel (S : Ses) (M A : Msg) (a : Ses) (c : Int) : Prop :=
  (¬ (SesOk S ∧ msgOk M = true ∧ msgOk A = true) ∧ a = S0 ∧ c = 1) ∨ ((SesOk S ∧ msgOk M = true ∧ msgOk A = true) ∧
    ((NoAns S M ∧ ((S.dn.length = 1000 ∧ a = S0 ∧ c = 5) ∨ (¬ S.dn.length = 1000 ∧ ∃ i, Found S.dn M.fr i false ∧ a = ⟨S.nx, S.wt, S.rq, insL S.dn i (rem M A), S.tr⟩ ∧ c = 0))) ∨
    ∃ k, ∃ h : k < S.dn.length, S.dn[k].to_ = M.fr ∧ ((S.dn[k].nm = M.nm ∧ a = S0 ∧ c = 8) ∨ (M.nm < S.dn[k].nm ∧ a = S0 ∧ c = 14) ∨ (S.dn[k].nm < M.nm ∧ a = ⟨S.nx, S.wt, S.rq, S.dn.set k (rem M A), S.tr⟩ ∧ c = 0))))
theorem found_ex {L : List Msg} {c : Int} (hA : Asc L) (hn : ∀ k (h : k < L.length), L[k].to_ ≠ c) : ∃ i, Found L c i false := by
  have key : ∀ n, n ≤ L.length → ∃ i, i ≤ n ∧ (∀ k (h : k < L.length), k < i → L[k].to_ < c) ∧ (∀ k (h : k < L.length), i ≤ k → k < n → c ≤ L[k].to_) := by
    intro n
    induction n with
    | zero => intro _; exact ⟨0, Nat.le_refl _, fun k _ h => absurd h (Nat.not_lt_zero _), fun k _ _ h => absurd h (Nat.not_lt_zero _)⟩
    | succ n ih =>
      intro hl
      obtain ⟨i, h1, h2, h3⟩ := ih (by omega)
      have hnl : n < L.length := by omega
      by_cases hc : L[n].to_ < c
      · refine ⟨n + 1, Nat.le_refl _, fun k hk hkn => ?_, fun k hk h h' => by omega⟩
        by_cases e : k = n
        · subst e; exact hc
        · have := hA k n hk hnl (by omega); omega
      · refine ⟨i, by omega, h2, fun k hk hik hkn => ?_⟩
        by_cases e : k = n
        · subst e; omega
        · exact h3 k hk hik (by omega)
  obtain ⟨i, h1, h2, h3⟩ := key L.length (Nat.le_refl _)
  exact ⟨i, h1, h2, fun k hk hik => h3 k hk hik hk, by simp; exact fun h => hn i h⟩
theorem found_uniq {L : List Msg} {c : Int} {i j : Nat} {t u : Bool} (h : Found L c i t) (g : Found L c j u) : i = j := by
  obtain ⟨h1, h2, h3, _⟩ := h
  obtain ⟨g1, g2, g3, _⟩ := g
  rcases Nat.lt_trichotomy i j with e | e | e
  · have hi : i < L.length := by omega
    have := h3 i hi (Nat.le_refl _); have := g2 i hi e; omega
  · exact e
  · have hi : j < L.length := by omega
    have := g3 j hi (Nat.le_refl _); have := h2 j hi e; omega
theorem opn {w : World} {D : Nat → Prop} {da : Option Addr} {n dj : Nat} {L : List Msg} (h : Fct.at w D (.ms (.slice da n dj) L)) (hl : L ≠ []) : ∃ b off, da = some ⟨b, off, none⟩ := by
  obtain ⟨b, off, j, e⟩ := Ms.open h hl
  simp only [Value.slice.injEq] at e
  exact ⟨b, off, e.1⟩
theorem known_p {S : Ses} {M a : Msg} {c : Int} (h : KnRel S M a c) : KnLike 15 S M a c := by
  obtain ⟨nx, wt, ⟨fr, to_, kd, nm, body⟩, dn, tr⟩ := S
  obtain ⟨fr2, to2, kd2, nm2, body2⟩ := M
  intro D xa da ya xk dj yk w hx hy hz
  rcases h with ⟨h, rfl, rfl⟩ | ⟨⟨h, hm⟩, ⟨hn, rfl, rfl⟩ | ⟨k, hk, hto, hc⟩⟩
  · by_cases hS : SesOk ⟨nx, wt, ⟨fr, to_, kd, nm, body⟩, dn, tr⟩
    · cases hm : msgOk ⟨fr2, to2, kd2, nm2, body2⟩
      · exact Known_1b nx fr to_ kd nm tr wt body dn fr2 to2 kd2 nm2 body2 hx hy hz hS hm
      · exact absurd ⟨hS, hm⟩ h
    · exact Known_1a nx fr to_ kd nm tr wt body dn fr2 to2 kd2 nm2 body2 hx hy hz hS
  · exact Known_7n nx fr to_ kd nm tr wt body dn fr2 to2 kd2 nm2 body2 hx hy hz h hm hn
  have hne : dn ≠ [] := fun e => by subst e; exact absurd hk (Nat.not_lt_zero _)
  obtain ⟨db, df, rfl⟩ := opn hy hne
  rcases hc with ⟨hc, rfl, rfl⟩ | ⟨hc, rfl, rfl⟩ | ⟨hc, rfl, rfl⟩
  · exact Known_7l nx fr to_ kd nm tr wt body dn fr2 to2 kd2 nm2 body2 k hx hy hz h hm ⟨hk, hto, hc⟩
  · exact Known_14 nx fr to_ kd nm tr wt body dn fr2 to2 kd2 nm2 body2 k hx hy hz h hm ⟨hk, hto, hc⟩
  · have hg : dn.getD k M0 = dn[k] := by
      have hk' : k < dn.length := hk
      simp [List.getD, hk']
    show Calls _ _ _ _ fun e w' => RetME _ dn[k] 0 e w' ∧ _
    rw [← hg]
    exact Known_ok nx fr to_ kd nm tr wt body dn fr2 to2 kd2 nm2 body2 k hx hy hz h hm hk ⟨hto, hc⟩
theorem kn_ex (S : Ses) (M : Msg) : ∃ a c, KnRel S M a c := by
  by_cases h : SesOk S ∧ msgOk M = true
  case neg => exact ⟨M0, 1, .inl ⟨h, rfl, rfl⟩⟩
  by_cases hf : ∃ k, ∃ h : k < S.dn.length, S.dn[k].to_ = M.fr
  case neg => exact ⟨M0, 7, .inr ⟨h, .inl ⟨fun k hk e => hf ⟨k, hk, e⟩, rfl, rfl⟩⟩⟩
  obtain ⟨k, hk, hto⟩ := hf
  rcases Int.lt_trichotomy S.dn[k].nm M.nm with hc | hc | hc
  · exact ⟨M0, 7, .inr ⟨h, .inr ⟨k, hk, hto, .inl ⟨hc, rfl, rfl⟩⟩⟩⟩
  · exact ⟨S.dn[k], 0, .inr ⟨h, .inr ⟨k, hk, hto, .inr (.inr ⟨hc, rfl, rfl⟩)⟩⟩⟩
  · exact ⟨M0, 14, .inr ⟨h, .inr ⟨k, hk, hto, .inr (.inl ⟨hc, rfl, rfl⟩)⟩⟩⟩
theorem done_p {S a : Ses} {M A : Msg} {c : Int} (h : DnRel S M A a c) : DnLike 17 S M A a c := by
  obtain ⟨nx, wt, ⟨fr, to_, kd, nm, body⟩, dn, tr⟩ := S
  obtain ⟨fr2, to2, kd2, nm2, body2⟩ := M
  obtain ⟨fr3, to3, kd3, nm3, body3⟩ := A
  intro D xa da ya za xk dj yk zk w hx hy hz hv
  rcases h with ⟨h, rfl, rfl⟩ | ⟨⟨h, hm, ha⟩, ⟨hn, ⟨h9, rfl, rfl⟩ | ⟨h9, i, hi, rfl, rfl⟩⟩ | ⟨k, hk, hto, hc⟩⟩
  · by_cases hS : SesOk ⟨nx, wt, ⟨fr, to_, kd, nm, body⟩, dn, tr⟩
    · cases hm : msgOk ⟨fr2, to2, kd2, nm2, body2⟩
      · exact Done_1b nx fr to_ kd nm tr wt body dn fr2 to2 kd2 nm2 body2 fr3 to3 kd3 nm3 body3 hx hy hz hv hS hm
      · cases ha : msgOk ⟨fr3, to3, kd3, nm3, body3⟩
        · exact Done_1c nx fr to_ kd nm tr wt body dn fr2 to2 kd2 nm2 body2 fr3 to3 kd3 nm3 body3 hx hy hz hv hS hm ha
        · exact absurd ⟨hS, hm, ha⟩ h
    · exact Done_1a nx fr to_ kd nm tr wt body dn fr2 to2 kd2 nm2 body2 fr3 to3 kd3 nm3 body3 hx hy hz hv hS
  · exact Done_5 nx fr to_ kd nm tr wt body dn fr2 to2 kd2 nm2 body2 fr3 to3 kd3 nm3 body3 hx hy hz hv h hm ha hn h9
  · cases da with
    | some da =>
      refine (Done_insA nx fr to_ kd nm tr wt body dn fr2 to2 kd2 nm2 body2 fr3 to3 kd3 nm3 body3 hx hy hz hv h hm ha hn h9).mono ?_
      rintro e w' ⟨⟨j, hj, hr⟩, hb⟩
      obtain rfl := found_uniq hi hj
      exact ⟨hr, hb⟩
    | none =>
      have hd : dn = [] := Classical.byContradiction fun hl => by obtain ⟨b, off, e⟩ := opn hy hl; exact absurd e (by simp)
      subst hd
      obtain rfl := (found_nil hi).1
      exact Done_insN nx fr to_ kd nm tr wt body fr2 to2 kd2 nm2 body2 fr3 to3 kd3 nm3 body3 hx hy hz hv h hm ha
  have hne : dn ≠ [] := fun e => by subst e; exact absurd hk (Nat.not_lt_zero _)
  obtain ⟨db, df, rfl⟩ := opn hy hne
  rcases hc with ⟨hc, rfl, rfl⟩ | ⟨hc, rfl, rfl⟩ | ⟨hc, rfl, rfl⟩
  · exact Done_8 nx fr to_ kd nm tr wt body dn fr2 to2 kd2 nm2 body2 fr3 to3 kd3 nm3 body3 k hx hy hz hv h hm ha ⟨hk, hto, hc⟩
  · exact Done_14 nx fr to_ kd nm tr wt body dn fr2 to2 kd2 nm2 body2 fr3 to3 kd3 nm3 body3 k hx hy hz hv h hm ha ⟨hk, hto, hc⟩
  · exact Done_rep nx fr to_ kd nm tr wt body dn fr2 to2 kd2 nm2 body2 fr3 to3 kd3 nm3 body3 k hx hy hz hv h hm ha ⟨hk, hto, hc⟩
theorem dn_ex (S : Ses) (M A : Msg) : ∃ a c, DnRel S M A a c := by
  by_cases h : SesOk S ∧ msgOk M = true ∧ msgOk A = true
  case neg => exact ⟨S0, 1, .inl ⟨h, rfl, rfl⟩⟩
  by_cases hf : ∃ k, ∃ h : k < S.dn.length, S.dn[k].to_ = M.fr
  case neg =>
    have hn : ∀ k (h : k < S.dn.length), S.dn[k].to_ ≠ M.fr := fun k hk e => hf ⟨k, hk, e⟩
    by_cases h9 : S.dn.length = 1000
    · exact ⟨S0, 5, .inr ⟨h, .inl ⟨hn, .inl ⟨h9, rfl, rfl⟩⟩⟩⟩
    · obtain ⟨i, hi⟩ := found_ex (asc_of h.1.2.2.2) hn
      exact ⟨_, 0, .inr ⟨h, .inl ⟨hn, .inr ⟨h9, i, hi, rfl, rfl⟩⟩⟩⟩
  obtain ⟨k, hk, hto⟩ := hf
  rcases Int.lt_trichotomy S.dn[k].nm M.nm with hc | hc | hc
  · exact ⟨_, 0, .inr ⟨h, .inr ⟨k, hk, hto, .inr (.inr ⟨hc, rfl, rfl⟩)⟩⟩⟩
  · exact ⟨S0, 8, .inr ⟨h, .inr ⟨k, hk, hto, .inl ⟨hc, rfl, rfl⟩⟩⟩⟩
  · exact ⟨S0, 14, .inr ⟨h, .inr ⟨k, hk, hto, .inr (.inl ⟨hc, rfl, rfl⟩)⟩⟩⟩
theorem rem_ok {M A : Msg} (hM : msgOk M = true) (hA : msgOk A = true) : msgOk (rem M A) = true := by
  unfold msgOk rem at *
  simp only [Bool.and_eq_true, decide_eq_true_eq] at *
  exact ⟨⟨⟨⟨⟨hM.1.1.1.1.2, hM.1.1.1.1.1⟩, hA.1.1.1.2⟩, hM.1.1.2⟩, hM.1.2⟩, hA.2⟩
theorem upTo_iff {L : List Msg} : UpTo L L.length ↔ (∀ i (h : i < L.length), msgOk L[i] = true) ∧ Asc L := by
  constructor
  · exact fun h => ⟨fun i hi => (h i hi hi).1, asc_of h⟩
  · rintro ⟨h, hA⟩ i hi _
    exact ⟨h i hi, fun j hj e => hA j i hj hi (by omega)⟩
theorem set_up {L : List Msg} {k : Nat} {M : Msg} (hU : UpTo L L.length) (hk : k < L.length) (hM : msgOk M = true) (hto : M.to_ = L[k].to_) : UpTo (L.set k M) (L.set k M).length := by
  rw [upTo_iff] at *
  obtain ⟨h1, h2⟩ := hU
  have hg : ∀ i (h : i < (L.set k M).length), (L.set k M)[i].to_ = (L[i]'(by simpa using h)).to_ := by
    intro i h
    rw [List.getElem_set]
    split
    · rename_i e; subst e; exact hto
    · rfl
  refine ⟨fun i hi => ?_, fun i j hi hj hij => ?_⟩
  · rw [List.getElem_set]
    split
    · exact hM
    · exact h1 i _
  · rw [hg i hi, hg j hj]; exact h2 i j _ _ hij
theorem ins_up {L : List Msg} {k : Nat} {M : Msg} (hU : UpTo L L.length) (hf : Found L M.to_ k false) (hM : msgOk M = true) : UpTo (insL L k M) (insL L k M).length := by
  rw [upTo_iff] at *
  obtain ⟨h1, h2⟩ := hU
  obtain ⟨f1, f2, f3, f4⟩ := hf
  have hl := insL_length L k M f1
  have hg : ∀ i (h : i < (insL L k M).length), (i < k ∧ ∃ h : i < L.length, (insL L k M)[i] = L[i]) ∨ (i = k ∧ (insL L k M)[i] = M) ∨ (k < i ∧ ∃ h : i - 1 < L.length, (insL L k M)[i] = L[i - 1]) := by
    intro i h
    have e := insL_get L k M f1 i
    rw [List.getElem?_eq_getElem h] at e
    by_cases c1 : i < k
    · rw [if_pos c1, List.getElem?_eq_getElem (by omega)] at e
      exact .inl ⟨c1, by omega, Option.some.inj e⟩
    · rw [if_neg c1] at e
      by_cases c2 : i = k
      · rw [if_pos c2] at e
        exact .inr (.inl ⟨c2, Option.some.inj e⟩)
      · rw [if_neg c2, List.getElem?_eq_getElem (by omega)] at e
        exact .inr (.inr ⟨by omega, by omega, Option.some.inj e⟩)
  have hne : ∀ i (h : i < L.length), L[i].to_ ≠ M.to_ ∨ i ≠ k := by
    intro i h
    by_cases c : i = k
    · subst c
      exact .inl fun e => by have := f4.2 ⟨h, e⟩; simp at this
    · exact .inr c
  refine ⟨fun i hi => ?_, fun i j hi hj hij => ?_⟩
  · rcases hg i hi with ⟨_, h, e⟩ | ⟨_, e⟩ | ⟨_, h, e⟩ <;> rw [e]
    · exact h1 _ _
    · exact hM
    · exact h1 _ _
  · rcases hg i hi with ⟨ci, hi', ei⟩ | ⟨ci, ei⟩ | ⟨ci, hi', ei⟩ <;> rcases hg j hj with ⟨cj, hj', ej⟩ | ⟨cj, ej⟩ | ⟨cj, hj', ej⟩ <;> rw [ei, ej] <;> (try omega)
    · exact h2 _ _ _ _ hij
    · exact f2 _ _ ci
    · exact h2 _ _ _ _ (by omega)
    · have g3 := f3 (j - 1) hj' (by omega)
      by_cases c : j - 1 = k
      · rcases hne (j - 1) hj' with g | g
        · omega
        · exact absurd c g
      · have hkl : k < L.length := by omega
        have := f3 k hkl (Nat.le_refl _)
        have := h2 k (j - 1) hkl hj' (by omega)
        omega
    · exact h2 _ _ _ _ (by omega)
theorem DnRel.ok {S : Ses} {M A : Msg} {a : Ses} {c : Int} (h : DnRel S M A a c) : (c = 0 → SesOk a) ∧ (c ≠ 0 → a = S0) := by
  rcases h with ⟨_, rfl, rfl⟩ | ⟨⟨hS, hM, hA⟩, ⟨hn, ⟨_, rfl, rfl⟩ | ⟨h9, i, hf, rfl, rfl⟩⟩ | ⟨k, hk, hto, ⟨_, rfl, rfl⟩ | ⟨_, rfl, rfl⟩ | ⟨hc, rfl, rfl⟩⟩⟩
  · exact ⟨(fun h => absurd h (by decide)), fun _ => rfl⟩
  · exact ⟨(fun h => absurd h (by decide)), fun _ => rfl⟩
  · refine ⟨fun _ => ?_, fun h => absurd rfl h⟩
    obtain ⟨⟨h1, h2, h3⟩, hT, hE, hU⟩ := hS
    refine ⟨⟨h1, h2, ?_⟩, hT, hE, ins_up hU hf (rem_ok hM hA)⟩
    have := insL_length S.dn i (rem M A) hf.1
    dsimp only
    omega
  · exact ⟨(fun h => absurd h (by decide)), fun _ => rfl⟩
  · exact ⟨(fun h => absurd h (by decide)), fun _ => rfl⟩
  · refine ⟨fun _ => ?_, fun h => absurd rfl h⟩
    obtain ⟨⟨h1, h2, h3⟩, hT, hE, hU⟩ := hS
    exact ⟨⟨h1, h2, by simpa using h3⟩, hT, hE, set_up hU hk (rem_ok hM hA) hto.symm⟩
theorem DnRel.fair {S : Ses} {M A : Msg} {a : Ses} {c : Int} (h : DnRel S M A a c) : Fair a := by
  by_cases e : c = 0
  · exact (h.ok.1 e).fair
  · rw [h.ok.2 e]; exact ⟨by decide, by decide, fun k h => absurd h (by simp [S0])⟩
theorem KnRel.len {S : Ses} {M : Msg} {a : Msg} {c : Int} (h : KnRel S M a c) : a.body.length ≤ 1000000 := by
  rcases h with ⟨_, rfl, rfl⟩ | ⟨⟨hS, hM⟩, ⟨hn, rfl, rfl⟩ | ⟨k, hk, hto, ⟨_, rfl, rfl⟩ | ⟨_, rfl, rfl⟩ | ⟨hc, rfl, rfl⟩⟩⟩
  · decide
  · decide
  · decide
  · decide
  · exact hS.fair.2.2 k hk
end Go.Proofs.Ytbcfcdcomboljaa
