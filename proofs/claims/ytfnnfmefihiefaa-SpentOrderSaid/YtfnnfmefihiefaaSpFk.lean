/- Rows of key records that came in as arguments: opened. -/
import Derived.Test.YtfnnfmefihiefaaSpFr
import Derived.Test.YtfnnfmefihiefaaSpCa
namespace Go.Proofs.Ytfnnfmefihiefaa
open Go.ChangeShapes Go.WideShapes Go.ChangeAt Go.RowKit Go.Deep
set_option linter.unusedVariables false
theorem cells_kr : Try.prog.cellsOf 116 = 11 := wKr.cells
theorem trod_kr {H : Type} {enc : TypeId × Value → H} {W : World} {fuel : Nat} {cs : List Value} {x : DataW H × List MemPlace} (h : DataW.trod enc Try.prog W 0 (fun _ => true) true fuel 116 cs = some x) : ∃ a : List Value, cs = id a ∧ okc 116 a :=
  ⟨cs, rfl, trod_okc (by kernel_rfl) (trod_struct_len Try.underlying116 h) h⟩
set_option maxRecDepth 100000 in
theorem open_kr {H : Type} {enc : TypeId × Value → H} {W : World} {r : Reach} {b0 : Nat} {v : Value} {d : DataW H} {ps : List MemPlace} (hval : Value.okWide Try.prog W r b0 79 v) (hd : DataW.Trod enc Try.prog W 0 (fun _ => true) true 79 v d ps) :
    ∃ (l : List (List Value)) (xa : Option Addr) (xk : Nat), v = .slice xa l.length xk ∧ Fct.at W (fun _ => True) (.rw (.slice xa l.length xk) l.length 11 l.flatten) ∧ ∀ c ∈ l, okc 116 c := by
  obtain ⟨a, l0, c, rfl⟩ := okWide_slice Try.underlying79 hval
  obtain ⟨fuel, hf⟩ := hd
  obtain ⟨L, h1, h2⟩ := open_rows (c0 := .slice a l0 c) [] id (okc 116) Try.underlying79 cells_kr (by omega) trod_kr (fun a h => h.one tKr) (fun a h => h.len wKr) hf
  rw [List.map_id] at h1
  obtain ⟨xa, xk, e⟩ := h1.len
  exact ⟨L, xa, xk, e, by rw [← e]; exact h1, h2⟩
end Go.Proofs.Ytfnnfmefihiefaa
