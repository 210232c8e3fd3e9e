/- Bytes that came in as an argument: opened. -/
import Derived.Test.YtbcfcdcomboljaaSesFrame
namespace Go.Proofs.Ytbcfcdcomboljaa
open Go.ChangeShapes Go.WideShapes Go.ChangeAt Go.RowKit Go.Deep
set_option linter.unusedVariables false
set_option maxRecDepth 100000 in
theorem open_b8 {H : Type} {enc : TypeId × Value → H} {W : World} {r : Reach} {base : Nat} {v : Value} {d : DataW H} {p : List MemPlace} (hv : Value.okWide Try.prog W r base 22 v) (h : DataW.Trod enc Try.prog W 0 (fun _ => true) true 22 v d p) :
    ∃ (l : List Nat) (xa : Option Addr) (xk : Nat), v = .slice xa l.length xk ∧ Fct.at W (fun _ => True) (.bs (.slice xa l.length xk) l) := by
  obtain ⟨a, l0, c, rfl⟩ := okWide_slice Try.underlying22 hv
  obtain ⟨fuel, hf⟩ := h
  obtain ⟨l, hl⟩ := open_bytes (c0 := .slice a l0 c) hf
  obtain ⟨xa, xk, e⟩ := hl.len
  exact ⟨l, xa, xk, e, by rw [← e]; exact hl⟩
end Go.Proofs.Ytbcfcdcomboljaa
