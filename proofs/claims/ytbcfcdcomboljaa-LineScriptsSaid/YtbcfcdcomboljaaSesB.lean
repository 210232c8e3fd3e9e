/- session: whether a message is valid, or empty, whether an answer belongs to a request; the session at the beginning. -/
import Derived.Test.YtbcfcdcomboljaaSesA
namespace Go.Proofs.Ytbcfcdcomboljaa
open Go.RowKit
set_option linter.unusedVariables false

def par (n : Int) : Bool := decide (0 ≤ n) && decide (n ≤ 1000)
theorem party_c (n : Int) (w : World) : Calls Try.prog 76 #[.int .i64 n] w fun e w' => e = .returned (.bool (par n)) ∧ w' = w := by
  unfold par
  go_enter Try.func76, Try.ntmps76
  go_wp2
  all_goals go_ret
  all_goals simp_all
  all_goals (try omega)
  all_goals (try (rw [Bool.eq_iff_iff]; simp; try omega))
/-- a message is valid -/
def msgOk (M : Msg) : Bool := par M.fr && par M.to_ && par M.kd && decide (0 ≤ M.nm) && decide (M.nm ≤ 1073741824) && decide ((M.body.length : Int) ≤ 16384)
/-- the tail of these walks: the answer by cases -/
theorem message_c (M : Msg) (ao : Option Addr) (cap : Nat) (w : World) : Calls Try.prog 49 #[mval M (.slice ao M.body.length cap)] w fun e w' => e = .returned (.bool (msgOk M)) ∧ Below w.heap.size w w' := by
  obtain ⟨fr, to_, kd, nm, body⟩ := M
  unfold msgOk mval
  dsimp only
  generalize body.length = n
  go_enter Try.func49, Try.ntmps49
  go_wp2_with (go_at_call 76; refine (party_c _ _).mono ?_; rintro e w' ⟨rfl, rfl⟩)
  all_goals go_ret
  all_goals refine ⟨?_, (Below.refl _ _).alloc (Nat.le_refl _) _⟩
  all_goals simp_all
  all_goals (try omega)
  all_goals (try (rw [Bool.eq_iff_iff]; simp; try omega))
theorem rMessage_c (M : Msg) (ao : Option Addr) (cap : Nat) (w : World) : Calls Try.prog 52 #[mval M (.slice ao M.body.length cap)] w fun e w' => e = .returned (.bool (msgOk M)) ∧ Below w.heap.size w w' := by
  obtain ⟨fr, to_, kd, nm, body⟩ := M
  unfold msgOk mval par
  dsimp only
  generalize body.length = n
  go_enter Try.func52, Try.ntmps52
  go_wp2
  all_goals go_ret
  all_goals refine ⟨?_, (Below.refl _ _).alloc (Nat.le_refl _) _⟩
  all_goals simp_all
  all_goals (try omega)
  all_goals (try (rw [Bool.eq_iff_iff]; simp; try omega))
/-- a message is the zero message -/
def msgZ (M : Msg) : Bool := decide (M.fr = 0) && decide (M.to_ = 0) && decide (M.kd = 0) && decide (M.nm = 0) && decide (M.body.length = 0)
theorem empty_c (M : Msg) (ao : Option Addr) (cap : Nat) (w : World) : Calls Try.prog 56 #[mval M (.slice ao M.body.length cap)] w fun e w' => e = .returned (.bool (msgZ M)) ∧ Below w.heap.size w w' := by
  obtain ⟨fr, to_, kd, nm, body⟩ := M
  unfold msgZ mval
  dsimp only
  generalize body.length = n
  go_enter Try.func56, Try.ntmps56
  go_wp2
  all_goals go_ret
  all_goals refine ⟨?_, (Below.refl _ _).alloc (Nat.le_refl _) _⟩
  all_goals simp_all
  all_goals (try omega)
  all_goals (try (rw [Bool.eq_iff_iff]; simp; try omega))
/-- an answer belongs to a request -/
def blg (A R : Msg) : Bool := decide (A.fr = R.to_) && decide (A.to_ = R.fr) && decide (A.nm = R.nm)
theorem belongs_c (A R : Msg) (av rv : Value) (w : World) : Calls Try.prog 57 #[mval A av, mval R rv] w fun e w' => e = .returned (.bool (blg A R)) ∧ Below w.heap.size w w' := by
  obtain ⟨fr, to_, kd, nm, body⟩ := A
  obtain ⟨fr2, to2, kd2, nm2, body2⟩ := R
  unfold blg mval
  dsimp only
  go_enter Try.func57, Try.ntmps57
  go_wp2
  all_goals go_ret
  all_goals refine ⟨?_, ((Below.refl _ _).alloc (Nat.le_refl _) _).alloc (by simp) _⟩
  all_goals simp_all
  all_goals (try omega)
  all_goals (try (rw [Bool.eq_iff_iff]; simp; try omega))
theorem rBelongs_c (A R : Msg) (av rv : Value) (w : World) : Calls Try.prog 23 #[mval A av, mval R rv] w fun e w' => e = .returned (.bool (blg A R)) ∧ Below w.heap.size w w' := by
  obtain ⟨fr, to_, kd, nm, body⟩ := A
  obtain ⟨fr2, to2, kd2, nm2, body2⟩ := R
  unfold blg mval
  dsimp only
  go_enter Try.func23, Try.ntmps23
  go_wp2
  all_goals go_ret
  all_goals refine ⟨?_, ((Below.refl _ _).alloc (Nat.le_refl _) _).alloc (by simp) _⟩
  all_goals simp_all
  all_goals (try omega)
  all_goals (try (rw [Bool.eq_iff_iff]; simp; try omega))
def M0 : Msg := ⟨0, 0, 0, 0, []⟩
def S0 : Ses := ⟨0, false, M0, [], 0⟩
theorem New_c (D : Nat → Prop) (w : World) : Calls Try.prog 30 #[] w fun e w' => RetS D S0 e w' ∧ Below w.heap.size w w' := by
  go_enter Try.func30, Try.ntmps30
  go_wp2
  refine bodyPost_ret (v := .agg #[.int .i64 0, .bool false, .int .i64 0, .int .i64 0, .int .i64 0, .int .i64 0, .slice none 0 0, .slice none 0 0, .int .i64 0]) (by simp [results, Try.results30, go_sem]) rfl ?_
  exact ⟨⟨none, 0, none, 0, rfl, Lib.hid (Bs.nil _ _), Lib.hid (Ms.nil _ _)⟩, (Below.refl _ _).alloc (Nat.le_refl _) _⟩
theorem message_v (M : Msg) {t : Bool} (ht : msgOk M = t) (ao : Option Addr) (cap : Nat) (w : World) : Calls Try.prog 49 #[mval M (.slice ao M.body.length cap)] w fun e w' => e = .returned (.bool t) ∧ Below w.heap.size w w' := by
  subst ht; exact message_c M ao cap w
theorem rMessage_v (M : Msg) {t : Bool} (ht : msgOk M = t) (ao : Option Addr) (cap : Nat) (w : World) : Calls Try.prog 52 #[mval M (.slice ao M.body.length cap)] w fun e w' => e = .returned (.bool t) ∧ Below w.heap.size w w' := by
  subst ht; exact rMessage_c M ao cap w
theorem empty_v (M : Msg) {t : Bool} (ht : msgZ M = t) (ao : Option Addr) (cap : Nat) (w : World) : Calls Try.prog 56 #[mval M (.slice ao M.body.length cap)] w fun e w' => e = .returned (.bool t) ∧ Below w.heap.size w w' := by
  subst ht; exact empty_c M ao cap w
theorem belongs_v (A R : Msg) {t : Bool} (ht : blg A R = t) (av rv : Value) (w : World) : Calls Try.prog 57 #[mval A av, mval R rv] w fun e w' => e = .returned (.bool t) ∧ Below w.heap.size w w' := by
  subst ht; exact belongs_c A R av rv w
theorem rBelongs_v (A R : Msg) {t : Bool} (ht : blg A R = t) (av rv : Value) (w : World) : Calls Try.prog 23 #[mval A av, mval R rv] w fun e w' => e = .returned (.bool t) ∧ Below w.heap.size w w' := by
  subst ht; exact rBelongs_c A R av rv w
end Go.Proofs.Ytbcfcdcomboljaa
