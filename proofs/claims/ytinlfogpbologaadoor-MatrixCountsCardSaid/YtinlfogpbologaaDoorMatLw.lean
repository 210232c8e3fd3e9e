/- matrix: what the laws use. -/
import Derived.Test.YtinlfogpbologaaDoorMatLc
import Derived.Test.YtinlfogpbologaaDoorMatM
import Derived.Test.YtinlfogpbologaaDoorMatS
namespace Go.Proofs.YtinlfogpbologaaDoor
open Go.RowKit DivMath WordMath
set_option linter.unusedVariables false
set_option linter.unusedSimpArgs false
section
variable {D : Nat → Prop} {q : Int} {p n m : Nat} {L K : List (List Nat)} {M N : List (List Int)} {xa ya : Option Addr} {xk yk : Nat} {w : World}
theorem mMulN_b (hx : Fct.at w D (.mx (.slice xa L.length xk) (L.map nl))) (hy : Fct.at w D (.mx (.slice ya N.length yk) N)) (hl : Laid w) (hv : MvI p n L) (hu : mvB (p : Int) N = false) :
    Calls Tryd.prog 42 #[.int .i64 (p : Nat), .slice xa L.length xk, .slice ya N.length yk] w fun e w' => e = .returned (.tuple #[.slice none 0 0, .int .i64 1]) ∧ Below w.heap.size w w' := by
  have h := mMul_b (p : Int) (L.map nl) N (xa := xa) (xk := xk) (ya := ya) (yk := yk) (D := D) (w := w) (by rw [List.length_map]; exact hx) hy hl (by have := hv.qT; unfold Top at this; omega) (mv_of hv) hu
  rw [List.length_map] at h
  exact h
theorem rMValidN (hx : Fct.at w D (.mx (.slice xa L.length xk) (L.map nl))) (hv : MvI p n L) :
    Calls Tryd.prog 34 #[.int .i64 (p : Nat), .slice xa L.length xk] w fun e w' => e = .returned (.bool true) ∧ Below w.heap.size w w' := by
  have h := rMValid_c (p : Int) (L.map nl) (xa := xa) (xk := xk) (D := D) (w := w) (by rw [List.length_map]; exact hx) (by have := hv.qT; unfold Top at this; omega) (mv_of hv)
  rw [List.length_map] at h
  exact h
theorem rVecN {x : List Nat} (hx : Fct.at w D (.rw (.slice xa x.length xk) x.length 1 (ncl x))) (h : ∀ c ∈ x, c < p) (hm : x.length ≤ 1000000) :
    Calls Tryd.prog 35 #[.int .i64 (p : Nat), .slice xa x.length xk] w fun e w' => e = .returned (.bool true) ∧ Below w.heap.size w w' := by
  have h2 := rVector_c (p : Int) (nl x) (xa := xa) (xk := xk) (D := D) (w := w) (by rw [nl_len]; exact hx) (nl_all h) (by rw [nl_len]; exact hm)
  rw [nl_len] at h2
  exact h2
theorem rSameN (hx : Fct.at w D (.mx (.slice xa L.length xk) (L.map nl))) (hy : Fct.at w D (.mx (.slice ya L.length yk) (L.map nl))) (hm : L.length ≤ 1000) (hr : ∀ r ∈ L, r.length ≤ 1000) :
    Calls Tryd.prog 37 #[.slice xa L.length xk, .slice ya L.length yk] w fun e w' => e = .returned (.bool true) ∧ Below w.heap.size w w' := by
  have h := rSame_c (L.map nl) (L.map nl) (xa := xa) (xk := xk) (ya := ya) (yk := yk) (D := D) (w := w) (t := true) (by rw [List.length_map]; exact hx) (by rw [List.length_map]; exact hy) (by rw [List.length_map]; omega) (fun r h => by obtain ⟨s, hs, rfl⟩ := List.mem_map.1 h; rw [nl_len]; have := hr s hs; omega) (by rw [beq_iff_eq])
  rw [List.length_map] at h
  exact h
end
theorem mulT_len {q n : Nat} {L K : List (List Nat)} : (mulT q n L K).length = L.length := by simp [mulT]
theorem mulT_row {q n : Nat} {L K : List (List Nat)} : ∀ r ∈ mulT q n L K, r.length = n := by
  intro r hr
  obtain ⟨i, _, rfl⟩ := List.mem_map.1 hr
  exact tab_len _ _
end Go.Proofs.YtinlfogpbologaaDoor
