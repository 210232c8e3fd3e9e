/- Words in memory: what it means that a slice value reads as a list of words, in a world; and that a block of the call's own holds a list of words. -/
import Derived.Test.YthphmgdmhlimjaaProg
import Derived.WalkKit
import Derived.WalkLawsBesides
import Derived.Lib.Hide
import Derived.Outline
import Derived.BigQuiet
import Derived.Deep.QuietTactic
import Derived.Laws.Bits64b
import Derived.WalkSmall
namespace Go.Proofs.Ythphmgdmhlimjaa
open Go.RowKit
set_option linter.unusedVariables false

/-- a word as a value -/
def u32 (u : Nat) : Value := .int .u32 (u : Int)

/-- the slice value v reads as the words l in the world w -/
def Sl (w : World) (v : Value) (l : List Nat) : Prop :=
  ∃ (ao : Option Addr) (cap : Nat), v = .slice ao l.length cap ∧ l.length ≤ cap ∧ cap ≤ 9223372036854775807 ∧ (∀ u ∈ l, u < 4294967296) ∧
    (l ≠ [] → ∃ b off, ao = some ⟨b, off, none⟩ ∧ b < w.heap.size ∧ ∀ i, i < l.length → w.cell? ⟨b, off + i, none⟩ = some (.int .u32 ((l.getD i 0 : Nat) : Int))) ∧
    (∀ a, ao = some a → a.spot = none)

theorem Sl.below {w w' : World} {v : Value} {l : List Nat} {B : Nat} (h : Sl w v l) (hb : Below B w w') (hB : w.heap.size ≤ B) : Sl w' v l := by
  obtain ⟨ao, cap, h1, h2, h3, h4, h5, h6⟩ := h
  refine ⟨ao, cap, h1, h2, h3, h4, fun hl => ?_, h6⟩
  obtain ⟨b, off, k1, k2, k3⟩ := h5 hl
  exact ⟨b, off, k1, Nat.lt_of_lt_of_le k2 hb.size, fun i hi => (hb.cell (p := ⟨b, off + i, none⟩) (Nat.lt_of_lt_of_le k2 hB)).trans (k3 i hi)⟩

theorem Sl.below' {w w' : World} {v : Value} {l : List Nat} (h : Sl w v l) (hb : Below w.heap.size w w') : Sl w' v l := h.below hb (Nat.le_refl _)

theorem Sl.nil (w : World) : Sl w (.slice none 0 0) [] := ⟨none, 0, rfl, Nat.le_refl _, by omega, by simp, fun h => absurd rfl h, by simp⟩

/-- the words are valid: at most 64, the last one not 0 -/
def vld (l : List Nat) : Bool := decide (l.length ≤ 64 ∧ (l = [] ∨ l.getD (l.length - 1) 0 ≠ 0))

set_option maxHeartbeats 400000 in
theorem Valid_c (v : Value) (l : List Nat) (w : World) (h : Sl w v l) :
    Calls Try.prog 49 #[.agg #[v]] w fun e w' => e = .returned (.bool (vld l)) ∧ Below w.heap.size w w' := by
  obtain ⟨ao, cap, rfl, h1, h2, h3, h4, _⟩ := h
  by_cases k1 : l.length ≤ 64
  · by_cases k2 : l = []
    · subst k2
      have hv : vld [] = true := by decide
      rw [hv]
      clear h3 h4
      go_enter Try.func49, Try.ntmps49
      go_wp2
      go_ret
      exact ⟨rfl, (Below.refl _ _).alloc (Nat.le_refl _) _⟩
    · obtain ⟨b, off, rfl, hb, hc⟩ := h4 k2
      have hlen : 1 ≤ l.length := by cases l; exact absurd rfl k2; simp
      have hcell := hc (l.length - 1) (by omega)
      have hv : vld l = decide (l.getD (l.length - 1) 0 ≠ 0) := by
        unfold vld; rw [Bool.eq_iff_iff]; simp [k1, k2]
      rw [hv]
      generalize l.getD (l.length - 1) 0 = u at *
      generalize l.length = n at *
      clear h3 h4 hc hv k2
      have g1 : decide ((n : Int) ≤ 64) = true := decide_eq_true (by omega)
      have g2 : ((n : Int) == 0) = false := by simp; omega
      go_enter Try.func49, Try.ntmps49
      go_wp2
      go_ret
      exact ⟨by simp; rw [Bool.eq_iff_iff]; simp; try omega, (Below.refl _ _).alloc (Nat.le_refl _) _⟩
  · have hv : vld l = false := decide_eq_false (fun h => k1 h.1)
    rw [hv]
    generalize l.length = n at *
    clear h3 h4 hv
    have g1 : decide ((n : Int) ≤ 64) = false := decide_eq_false (by omega)
    go_enter Try.func49, Try.ntmps49
    go_wp2
    go_ret
    exact ⟨rfl, (Below.refl _ _).alloc (Nat.le_refl _) _⟩
end Go.Proofs.Ythphmgdmhlimjaa
