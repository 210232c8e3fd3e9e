/- The reference's sum. -/
import Derived.Test.YthphmgdmhlimjaaModRa
import Derived.Deep.RegionHeld3
import Derived.IntWalk
namespace Go.Proofs.Ythphmgdmhlimjaa
open Go.RowKit NatMath
set_option linter.unusedVariables false

def lst (f : Nat → Nat) (k : Nat) : List Nat := (List.range k).map f
theorem lst_length (f : Nat → Nat) (k : Nat) : (lst f k).length = k := by simp [lst]
theorem lst_succ (f : Nat → Nat) (k : Nat) : lst f (k + 1) = lst f k ++ [f k] := by simp [lst, List.range_succ]
theorem lst_fill (f : Nat → Nat) (k : Nat) : lst f k = fill f k k := by
  apply List.ext_getElem
  · simp [lst, fill]
  · intro i h1 h2
    simp only [lst, List.length_map, List.length_range] at h1
    simp [lst, fill, h1]
theorem lst_zero (f : Nat → Nat) : lst f 0 = [] := rfl

end Go.Proofs.Ythphmgdmhlimjaa
