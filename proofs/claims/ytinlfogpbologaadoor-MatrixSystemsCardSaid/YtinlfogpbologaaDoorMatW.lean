/- The kernel has as many vectors as there are free columns. -/
import Derived.Test.YtinlfogpbologaaDoorMatQ
namespace Go.Proofs.YtinlfogpbologaaDoor
set_option linter.unusedVariables false
set_option linter.unusedSimpArgs false
theorem count_nodup {f : Nat} : ∀ {P : List Nat}, P.Nodup → P.count f = if P.contains f = true then 1 else 0
  | [], _ => by simp
  | p :: P, h => by
    rw [List.nodup_cons] at h
    have ih := count_nodup (f := f) h.2
    rw [List.count_cons, ih]
    by_cases e : p = f
    · subst e
      have : P.contains p = false := by
        cases hc : P.contains p with
        | false => rfl
        | true => exact absurd (by simpa using hc) h.1
      rw [this]; simp
    · have e2 : (p == f) = false := beq_eq_false_iff_ne.2 e
      have e3 : (f == p) = false := beq_eq_false_iff_ne.2 (fun h => e h.symm)
      rw [e2, List.contains_cons, e3]; simp
theorem below_step {f : Nat} : ∀ P : List Nat, (P.filter (fun x => decide (x < f + 1))).length = (P.filter (fun x => decide (x < f))).length + P.count f
  | [] => by simp
  | p :: P => by
    have ih := below_step (f := f) P
    rw [List.filter_cons, List.filter_cons, List.count_cons]
    by_cases e : p = f
    · subst e
      rw [if_pos (by simp), if_neg (by simp), List.length_cons, ih]; simp; omega
    · have e2 : (p == f) = false := beq_eq_false_iff_ne.2 e
      rw [e2]
      by_cases h : p < f
      · rw [if_pos (decide_eq_true (by omega)), if_pos (decide_eq_true h), List.length_cons, List.length_cons, ih]; simp; omega
      · rw [if_neg (by simp; omega), if_neg (by simpa using h), ih]; simp
section
variable {q n : Nat} {P : List Nat} {M : List (List Nat)}
theorem kerL_count (h : P.Nodup) : ∀ f, (kerL q n P M f).length + (P.filter (fun x => decide (x < f))).length = f
  | 0 => by simp [kerL]
  | f + 1 => by
    have ih := kerL_count h f
    rw [below_step, count_nodup h, kerL]
    split
    · omega
    · rw [List.length_append, List.length_singleton]; omega
theorem kerL_len (h : P.Nodup) (hl : ∀ x ∈ P, x < n) : (kerL q n P M n).length = n - P.length := by
  have h1 := kerL_count (q := q) (n := n) (M := M) h n
  have h2 : P.filter (fun x => decide (x < n)) = P := List.filter_eq_self.2 fun x hx => decide_eq_true (hl x hx)
  rw [h2] at h1
  omega
end
end Go.Proofs.YtinlfogpbologaaDoor
