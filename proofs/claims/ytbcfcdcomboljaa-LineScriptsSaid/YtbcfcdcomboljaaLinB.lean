/- line: whether a number lies within a range, whether a message or a fate is valid; the reference's too. -/
import Derived.Test.YtbcfcdcomboljaaSesB
namespace Go.Proofs.Ytbcfcdcomboljaa
open Go.RowKit
set_option linter.unusedVariables false
def wth (n m : Int) : Bool := decide (0 ≤ n) && decide (n ≤ m)
theorem within_c (n m : Int) (w : World) : Calls Try.prog 70 #[.int .i64 n, .int .i64 m] w fun e w' => e = .returned (.bool (wth n m)) ∧ w' = w := by
  unfold wth
  go_enter Try.func70, Try.ntmps70
  go_wp2
  all_goals go_ret
  all_goals simp_all
  all_goals (try omega)
  all_goals (try (rw [Bool.eq_iff_iff]; simp; try omega))
theorem rIn_c (n l m : Int) (w : World) : Calls Try.prog 58 #[.int .i64 n, .int .i64 l, .int .i64 m] w fun e w' => e = .returned (.bool (decide (l ≤ n) && decide (n ≤ m))) ∧ w' = w := by
  go_enter Try.func58, Try.ntmps58
  go_wp2
  all_goals go_ret
  all_goals simp_all
  all_goals (try omega)
  all_goals (try (rw [Bool.eq_iff_iff]; simp; try omega))
theorem lmessage_c (M : Msg) (ao : Option Addr) (cap : Nat) (w : World) : Calls Try.prog 60 #[mval M (.slice ao M.body.length cap)] w fun e w' => e = .returned (.bool (msgOk M)) ∧ Below w.heap.size w w' := by
  obtain ⟨fr, to_, kd, nm, body⟩ := M
  unfold msgOk mval par
  dsimp only
  generalize body.length = n
  go_enter Try.func60, Try.ntmps60
  go_wp2_with (go_at_call 70; refine (within_c _ _ _).mono ?_; rintro e w' ⟨rfl, rfl⟩)
  all_goals go_ret
  all_goals refine ⟨?_, (Below.refl _ _).alloc (Nat.le_refl _) _⟩
  all_goals simp_all [wth]
  all_goals (try omega)
  all_goals (try (rw [Bool.eq_iff_iff]; simp; try omega))
theorem lrMessage_c (M : Msg) (ao : Option Addr) (cap : Nat) (w : World) : Calls Try.prog 46 #[mval M (.slice ao M.body.length cap)] w fun e w' => e = .returned (.bool (msgOk M)) ∧ Below w.heap.size w w' := by
  obtain ⟨fr, to_, kd, nm, body⟩ := M
  unfold msgOk mval par
  dsimp only
  generalize body.length = n
  go_enter Try.func46, Try.ntmps46
  go_wp2_with (go_at_call 58; refine (rIn_c _ _ _ _).mono ?_; rintro e w' ⟨rfl, rfl⟩)
  all_goals go_ret
  all_goals refine ⟨?_, (Below.refl _ _).alloc (Nat.le_refl _) _⟩
  all_goals simp_all
  all_goals (try omega)
  all_goals (try (rw [Bool.eq_iff_iff]; simp; try omega))
/-- a fate is valid -/
def fateOk (c d : Int) : Bool := wth c 3 && wth d 1000000
theorem fate_c (c d : Int) (w : World) : Calls Try.prog 72 #[.agg #[.int .i64 c, .int .i64 d]] w fun e w' => e = .returned (.bool (fateOk c d)) ∧ Below w.heap.size w w' := by
  unfold fateOk
  go_enter Try.func72, Try.ntmps72
  go_wp2_with (go_at_call 70; refine (within_c _ _ _).mono ?_; rintro e w' ⟨rfl, rfl⟩)
  all_goals go_ret
  all_goals refine ⟨?_, (Below.refl _ _).alloc (Nat.le_refl _) _⟩
  all_goals simp_all
end Go.Proofs.Ytbcfcdcomboljaa
