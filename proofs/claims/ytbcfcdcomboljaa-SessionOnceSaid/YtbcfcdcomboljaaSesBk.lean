/- Known and Done in a row: what SessionKeeps says, of the relations alone. -/
import Derived.Test.YtbcfcdcomboljaaSesBp
namespace Go.Proofs.Ytbcfcdcomboljaa
open Go.RowKit
set_option linter.unusedVariables false
theorem asc_mem {L : List Msg} (hA : Asc L) {m n : Msg} (hm : m ∈ L) (hn : n ∈ L) (e : m.to_ = n.to_) : m = n := by
  obtain ⟨i, hi, rfl⟩ := List.getElem_of_mem hm
  obtain ⟨j, hj, rfl⟩ := List.getElem_of_mem hn
  rcases Nat.lt_trichotomy i j with h | h | h
  · have := hA i j hi hj h; omega
  · subst h; rfl
  · have := hA j i hj hi h; omega
theorem KnRel.at {S : Ses} {O a m : Msg} {c : Int} (h : KnRel S O a c) (hS : SesOk S) (hO : msgOk O = true) (hm : m ∈ S.dn) (he : m.to_ = O.fr) :
    (m.nm < O.nm ∧ a = M0 ∧ c = 7) ∨ (O.nm < m.nm ∧ a = M0 ∧ c = 14) ∨ (m.nm = O.nm ∧ a = m ∧ c = 0) := by
  have hA := asc_of hS.2.2.2
  rcases h with ⟨h, _⟩ | ⟨_, ⟨hn, _, _⟩ | ⟨k, hk, hto, h⟩⟩
  · exact absurd ⟨hS, hO⟩ h
  · obtain ⟨i, hi, rfl⟩ := List.getElem_of_mem hm
    exact absurd he (hn i hi)
  · obtain rfl : m = S.dn[k] := asc_mem hA hm (List.getElem_mem hk) (by omega)
    exact h
theorem KnRel.none {S : Ses} {O a : Msg} {c : Int} (h : KnRel S O a c) (hS : SesOk S) (hO : msgOk O = true) (hm : ∀ m ∈ S.dn, m.to_ ≠ O.fr) : a = M0 ∧ c = 7 := by
  rcases h with ⟨h, _⟩ | ⟨_, ⟨hn, h⟩ | ⟨k, hk, hto, h⟩⟩
  · exact absurd ⟨hS, hO⟩ h
  · exact h
  · exact absurd hto (hm _ (List.getElem_mem hk))
theorem KnRel.bad {S : Ses} {O a : Msg} {c : Int} (h : KnRel S O a c) (hO : msgOk O = false) : a = M0 ∧ c = 1 := by
  rcases h with ⟨_, h⟩ | ⟨h, _⟩
  · exact h
  · rw [hO] at h; exact absurd h.2 (by decide)
/-- what Done did, by members -/
theorem DnRel.mem {S T : Ses} {M A : Msg} (h : DnRel S M A T 0) : SesOk S ∧ SesOk T ∧ msgOk M = true ∧ msgOk A = true ∧ rem M A ∈ T.dn ∧ (∀ m, m.to_ ≠ M.fr → (m ∈ T.dn ↔ m ∈ S.dn)) ∧ T.nx = S.nx ∧ T.wt = S.wt ∧ T.rq = S.rq ∧ T.tr = S.tr := by
  have hT := h.ok.1 rfl
  rcases h with ⟨_, _, h⟩ | ⟨⟨hS, hM, hA⟩, ⟨hn, ⟨_, _, h⟩ | ⟨h9, i, hf, rfl, _⟩⟩ | ⟨k, hk, hto, ⟨_, _, h⟩ | ⟨_, _, h⟩ | ⟨hc, rfl, _⟩⟩⟩
  · exact absurd h (by decide)
  · exact absurd h (by decide)
  · refine ⟨hS, hT, hM, hA, by simp [insL], fun m hm => ?_, rfl, rfl, rfl, rfl⟩
    show m ∈ insL S.dn i (rem M A) ↔ _
    have hne : m ≠ rem M A := fun e => hm (by rw [e]; rfl)
    simp only [insL, List.mem_append, List.mem_cons, hne, false_or]
    rw [← List.mem_append, List.take_append_drop]
  · exact absurd h (by decide)
  · exact absurd h (by decide)
  · refine ⟨hS, hT, hM, hA, ?_, fun m hm => ?_, rfl, rfl, rfl, rfl⟩
    · show rem M A ∈ S.dn.set k (rem M A)
      exact List.mem_set hk _
    · show m ∈ S.dn.set k (rem M A) ↔ _
      have hne : m ≠ rem M A := fun e => hm (by rw [e]; rfl)
      constructor
      · intro h
        rcases List.mem_or_eq_of_mem_set h with h | h
        · exact h
        · exact absurd h hne
      · intro h
        obtain ⟨j, hj, rfl⟩ := List.getElem_of_mem h
        have hjk : k ≠ j := fun e => by subst e; exact hm hto
        have e : (S.dn.set k (rem M A))[j]'(by simpa using hj) = S.dn[j] := by rw [List.getElem_set_ne hjk]
        rw [← e]
        exact List.getElem_mem _
theorem keeps_known {S T : Ses} {M A a : Msg} {c : Int} (h : DnRel S M A T 0) (k : KnRel T M a c) : a = rem M A ∧ c = 0 := by
  obtain ⟨hS, hT, hM, hA, hr, ho, _⟩ := h.mem
  rcases k.at hT hM hr rfl with ⟨h, _⟩ | ⟨h, _⟩ | ⟨_, h⟩
  · exact absurd h (Int.lt_irrefl _)
  · exact absurd h (Int.lt_irrefl _)
  · exact h
theorem keeps_twice {S T U : Ses} {M A : Msg} {c : Int} (h : DnRel S M A T 0) (k : DnRel T M A U c) : U = S0 ∧ c = 8 := by
  obtain ⟨hS, hT, hM, hA, hr, ho, _⟩ := h.mem
  have hAs := asc_of hT.2.2.2
  rcases k with ⟨h, _⟩ | ⟨_, ⟨hn, _⟩ | ⟨k, hk, hto, h⟩⟩
  · exact absurd ⟨hT, hM, hA⟩ h
  · obtain ⟨i, hi, e⟩ := List.getElem_of_mem hr
    exact absurd (by rw [e]; rfl) (hn i hi)
  · have e : T.dn[k] = rem M A := asc_mem hAs (List.getElem_mem hk) hr hto
    rw [e] at h
    rcases h with ⟨_, h⟩ | ⟨h, _⟩ | ⟨h, _⟩
    · exact h
    · exact absurd h (Int.lt_irrefl _)
    · exact absurd h (Int.lt_irrefl _)
theorem keeps_other {S T : Ses} {M A O x y : Msg} {c d : Int} (h : DnRel S M A T 0) (k : KnRel S O x c) (l : KnRel T O y d) (hne : O.fr ≠ M.fr) : x = y ∧ c = d := by
  obtain ⟨hS, hT, hM, hA, hr, ho, _⟩ := h.mem
  cases hO : msgOk O
  · obtain ⟨rfl, rfl⟩ := k.bad hO; obtain ⟨rfl, rfl⟩ := l.bad hO; exact ⟨rfl, rfl⟩
  by_cases hm : ∃ m ∈ S.dn, m.to_ = O.fr
  · obtain ⟨m, hm, he⟩ := hm
    have hm' : m ∈ T.dn := (ho m (by rw [he]; exact hne)).2 hm
    have e1 := k.at hS hO hm he
    have e2 := l.at hT hO hm' he
    rcases e1 with ⟨h1, rfl, rfl⟩ | ⟨h1, rfl, rfl⟩ | ⟨h1, rfl, rfl⟩ <;> rcases e2 with ⟨h2, rfl, rfl⟩ | ⟨h2, rfl, rfl⟩ | ⟨h2, rfl, rfl⟩ <;> first | exact ⟨rfl, rfl⟩ | omega
  · have h1 : ∀ m ∈ S.dn, m.to_ ≠ O.fr := fun m hm2 e => hm ⟨m, hm2, e⟩
    have h2 : ∀ m ∈ T.dn, m.to_ ≠ O.fr := fun m hm2 e => hm ⟨m, (ho m (by rw [e]; exact hne)).1 hm2, e⟩
    obtain ⟨rfl, rfl⟩ := k.none hS hO h1
    obtain ⟨rfl, rfl⟩ := l.none hT hO h2
    exact ⟨rfl, rfl⟩
theorem keeps_same {S T : Ses} {M A O y : Msg} {d : Int} (h : DnRel S M A T 0) (l : KnRel T O y d) (he : O.fr = M.fr) : d ≠ 7 ∨ M.nm < O.nm := by
  obtain ⟨hS, hT, hM, hA, hr, ho, _⟩ := h.mem
  cases hO : msgOk O
  · exact .inl (by rw [(l.bad hO).2]; decide)
  rcases l.at hT hO hr he.symm with ⟨h, _⟩ | ⟨h, _, rfl⟩ | ⟨h, _, rfl⟩
  · exact .inr h
  · exact .inl (by decide)
  · exact .inl (by decide)
end Go.Proofs.Ytbcfcdcomboljaa
