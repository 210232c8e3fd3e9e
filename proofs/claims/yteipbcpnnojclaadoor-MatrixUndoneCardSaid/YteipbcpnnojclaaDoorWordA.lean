/- The contracts of package word's functions without loops, and of those of the reference that belong to them. -/
import Derived.Test.YteipbcpnnojclaaDoorDivC
namespace Go.Proofs.YteipbcpnnojclaaDoor
open Go.RowKit DivMath
set_option linter.unusedVariables false

/-- 2^61: the limit of moduli -/
def Top : Int := 2305843009213693952
/-- the error of 'check' -/
def chk (a b m : Int) : Int := if m < 1 ∨ Top ≤ m then 1 else if (0 ≤ a ∧ a < m) ∧ (0 ≤ b ∧ b < m) then 0 else 2

theorem chk_cases (a b m : Int) : ((m < 1 ∨ Top ≤ m) ∧ chk a b m = 1) ∨ ((1 ≤ m ∧ m < Top) ∧ ¬ ((0 ≤ a ∧ a < m) ∧ (0 ≤ b ∧ b < m)) ∧ chk a b m = 2) ∨ ((1 ≤ m ∧ m < Top) ∧ (0 ≤ a ∧ a < m) ∧ (0 ≤ b ∧ b < m) ∧ chk a b m = 0) := by
  unfold chk
  by_cases h1 : m < 1 ∨ Top ≤ m
  · exact Or.inl ⟨h1, if_pos h1⟩
  · rw [if_neg h1]
    by_cases h2 : (0 ≤ a ∧ a < m) ∧ (0 ≤ b ∧ b < m)
    · exact Or.inr (Or.inr ⟨by omega, h2.1, h2.2, if_pos h2⟩)
    · exact Or.inr (Or.inl ⟨by omega, h2, if_neg h2⟩)

def resid (a m : Int) : Bool := decide (0 ≤ a ∧ a < m)

set_option maxHeartbeats 400000 in
theorem residue_c (a m : Int) (w : World) :
    Calls Tryd.prog 113 #[.int .i64 a, .int .i64 m] w fun e w' => e = .returned (.bool (resid a m)) ∧ w = w' := by
  by_cases h1 : 0 ≤ a
  · have e : resid a m = decide (a < m) := by simp [resid, h1]
    rw [e]
    go_enter Tryd.func113, Tryd.ntmps113
    go_wp2
    go_ret
    exact ⟨rfl, rfl⟩
  · have e : resid a m = false := by simp [resid]; omega
    rw [e]
    go_enter Tryd.func113, Tryd.ntmps113
    go_wp2
    go_ret
    exact ⟨rfl, rfl⟩

set_option maxHeartbeats 400000 in
theorem check_c (a b m : Int) (w : World) :
    Calls Tryd.prog 72 #[.int .i64 a, .int .i64 b, .int .i64 m] w fun e w' => e = .returned (.int .i64 (chk a b m)) ∧ w = w' := by
  rcases chk_cases a b m with ⟨h | h, hc⟩ | ⟨⟨h1, h2⟩, h3, hc⟩ | ⟨⟨h1, h2⟩, h3, h4, hc⟩
  · rw [hc]; clear hc
    go_enter Tryd.func72, Tryd.ntmps72
    go_wp2
    go_ret
    exact ⟨rfl, rfl⟩
  · rw [hc]; clear hc
    unfold Top at h
    have h0 : decide (m < 1) = false := decide_eq_false (by omega)
    go_enter Tryd.func72, Tryd.ntmps72
    go_wp2
    go_ret
    exact ⟨rfl, rfl⟩
  · rw [hc]; clear hc
    unfold Top at h2
    have h0 : decide (m < 1) = false := decide_eq_false (by omega)
    have h5 : decide (2305843009213693952 ≤ m) = false := decide_eq_false (by omega)
    by_cases ha : 0 ≤ a ∧ a < m
    · have r1 : resid a m = true := decide_eq_true ha
      have r2 : resid b m = false := decide_eq_false (by omega)
      clear h1 h2 h3 ha
      go_enter Tryd.func72, Tryd.ntmps72
      go_wp2_with (go_at_call 113; refine (residue_c _ _ _).mono ?_; rintro e w' ⟨rfl, rfl⟩)
      go_ret
      exact ⟨rfl, rfl⟩
    · have r1 : resid a m = false := decide_eq_false ha
      clear h1 h2 h3 ha
      go_enter Tryd.func72, Tryd.ntmps72
      go_wp2_with (go_at_call 113; refine (residue_c _ _ _).mono ?_; rintro e w' ⟨rfl, rfl⟩)
      go_ret
      exact ⟨rfl, rfl⟩
  · rw [hc]; clear hc
    unfold Top at h2
    have h0 : decide (m < 1) = false := decide_eq_false (by omega)
    have h5 : decide (2305843009213693952 ≤ m) = false := decide_eq_false (by omega)
    have r1 : resid a m = true := decide_eq_true h3
    have r2 : resid b m = true := decide_eq_true h4
    clear h1 h2 h3 h4
    go_enter Tryd.func72, Tryd.ntmps72
    go_wp2_with (go_at_call 113; refine (residue_c _ _ _).mono ?_; rintro e w' ⟨rfl, rfl⟩)
    go_ret
    exact ⟨rfl, rfl⟩
end Go.Proofs.YteipbcpnnojclaaDoor
