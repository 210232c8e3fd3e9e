/- Slices that are written out in the text. -/
import Derived.Test.YthphmgdmhlimjaaModL1
namespace Go.Proofs.Ythphmgdmhlimjaa
open Go.RowKit NatMath
set_option linter.unusedVariables false
theorem digs_of (l : List Nat) (N : Nat) (hw : ∀ u ∈ l, u < 4294967296) (hn : l = [] ∨ l.getD (l.length - 1) 0 ≠ 0) (hv : val l = N) : digs N = l := by
  subst hv; exact digs_val hw hn
theorem EnvB.words {w W : World} {F : List (Nat × Value)} {G : List (Value × List Nat)} (h : EnvB w F G W) (vs : Array Value) (l : List Nat) (N : Nat) (hl : vs = (l.map fun (u : Nat) => Value.int .u32 (u : Int)).toArray) (hd : digs N = l) (g : Nat) (hg : W.heap.size = g) (hlen : l.length ≤ 9223372036854775807 := by decide) :
    EnvB w F ((.slice (some ⟨g, 0, none⟩) l.length l.length, digs N) :: G) (W.alloc (.cells vs 49)) := by
  subst hg hl
  refine (h.alloc _).num ?_
  rw [hd]
  refine ⟨some ⟨W.heap.size, 0, none⟩, l.length, rfl, Nat.le_refl _, hlen, hd ▸ words_digs N, fun _ => ⟨W.heap.size, 0, rfl, by simp, fun i hi => ?_⟩, by rintro a ha; simp only [Option.some.injEq] at ha; rw [← ha]⟩
  rw [Nat.zero_add, World.cell?_alloc_new]
  simp [List.getElem?_eq_getElem hi]
end Go.Proofs.Ythphmgdmhlimjaa
