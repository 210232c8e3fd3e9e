/- specieref14: Prime. -/
import Derived.Test.YtinlfogpbologaaDoorMatB
import Derived.Test.YtinlfogpbologaaDoorMatNl
namespace Go.Proofs.YtinlfogpbologaaDoor
open Go.RowKit DivMath WordMath
set_option linter.unusedVariables false
set_option linter.unusedSimpArgs false
set_option maxHeartbeats 1000000 in
theorem rPrime_c (q : Int) (w : World) {t : Bool} (hn : -9223372036854775808 ≤ q) (ht : fieldB q = t) :
    Calls Tryd.prog 77 #[.int .i64 q] w fun e w' => e = .returned (.bool t) ∧ Below w.heap.size w w' := by
  by_cases h2 : q < 2
  · have d0 : decide (2 ≤ q) = false := decide_eq_false (by omega)
    have htb : t = false := by
      rw [← ht]; unfold fieldB Pri.isP; rw [if_pos (by omega), Bool.and_false]
    subst htb
    clear ht
    go_enter Tryd.func77, Tryd.ntmps77
    go_wp2
    go_ret
    exact ⟨rfl, Below.refl _ _⟩
  have d0 : decide (2 ≤ q) = true := decide_eq_true (by omega)
  by_cases h : q < 2305843009213693952
  · have d1 : decide (q < 2305843009213693952) = true := decide_eq_true h
    obtain ⟨b, hb⟩ : ∃ b, b = Pri.isP q.toNat := ⟨_, rfl⟩
    have htb : t = b := by rw [← ht, hb]; unfold fieldB; rw [d1, Bool.true_and]
    have cc := rIs_c q w ⟨hn, by omega⟩
    rw [← hb] at cc
    have CC := Lib.hid cc
    subst htb
    clear ht hb cc hn h h2
    go_enter Tryd.func77, Tryd.ntmps77
    go_wp2_with fail
    refine CC.out.mono ?_
    rintro e w1 ⟨rfl, hB⟩
    go_wp2
    go_ret
    exact ⟨rfl, hB⟩
  · have d1 : decide (q < 2305843009213693952) = false := decide_eq_false h
    have htb : t = false := by rw [← ht]; unfold fieldB; rw [d1, Bool.false_and]
    subst htb
    clear ht
    go_enter Tryd.func77, Tryd.ntmps77
    go_wp2
    go_ret
    exact ⟨rfl, Below.refl _ _⟩
end Go.Proofs.YtinlfogpbologaaDoor
