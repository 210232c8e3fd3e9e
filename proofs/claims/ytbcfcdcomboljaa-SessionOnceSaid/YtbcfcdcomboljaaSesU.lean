/- session.Valid, part u -/
import Derived.Test.YtbcfcdcomboljaaSesD
namespace Go.Proofs.Ytbcfcdcomboljaa
open Go.RowKit
set_option linter.unusedVariables false
/-- the messages of a list before the k-th are valid, and ascend by their receivers -/
def UpTo (L : List Msg) (k : Nat) : Prop := ∀ i (h : i < L.length), i < k → msgOk L[i] = true ∧ ∀ j (h' : j < L.length), i = j + 1 → L[j].to_ < L[i].to_
/-- a session is valid -/
def HeadOk (S : Ses) : Prop := 0 ≤ S.nx ∧ S.nx ≤ 1073741824 ∧ S.dn.length ≤ 1000
def SesOk (S : Ses) : Prop := HeadOk S ∧ (S.wt = true → msgOk S.rq = true ∧ S.rq.nm = S.nx - 1 ∧ 1 ≤ S.tr ∧ S.tr ≤ 100) ∧ (S.wt = false → msgZ S.rq = true ∧ S.tr = 0) ∧ UpTo S.dn S.dn.length
/-- the first message that breaks the order, or is not valid -/
theorem first_bad {L : List Msg} : ∀ n, ¬ UpTo L n → ∃ k, ∃ h : k < L.length, UpTo L k ∧ (msgOk L[k] = false ∨ (msgOk L[k] = true ∧ ∃ j, ∃ h' : j < L.length, k = j + 1 ∧ L[k].to_ ≤ L[j].to_)) := by
  intro n
  induction n with
  | zero => intro h; exact absurd (fun i _ hi => by omega) h
  | succ n ih =>
    intro h
    by_cases hn : UpTo L n
    · by_cases hl : n < L.length
      · refine ⟨n, hl, hn, ?_⟩
        cases hm : msgOk L[n]
        · exact .inl rfl
        · refine .inr ⟨rfl, ?_⟩
          apply Classical.byContradiction
          intro hc
          apply h
          intro i hi hin
          by_cases e : i = n
          · subst e
            refine ⟨hm, fun j hj he => ?_⟩
            apply Classical.byContradiction
            intro hle
            exact hc ⟨j, hj, he, by omega⟩
          · exact hn i hi (by omega)
      · exact absurd (fun i hi _ => hn i hi (by omega)) h
    · exact ih hn
end Go.Proofs.Ytbcfcdcomboljaa
