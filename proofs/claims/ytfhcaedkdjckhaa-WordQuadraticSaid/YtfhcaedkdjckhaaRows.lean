/-
  No cell of these rows narrows 'for every input' (looked for: loops, veiled, ifaces, maps, wideKeys, modest, calm, conditions, laid).
  DERIVED. THE GIVEN ROWS OF THIS SEAT. 10 by the template 'for every input the law returns true; each argument reads behind the call as it read before'; 0 by the template 'total and deterministic' (their statements: YtfhcaedkdjckhaaTotals.lean).
  GIVEN WITH THE SEED: the statements are not yours to turn. If you find one false, say at which input.
  Laid BY PROGRAM, IN A SANDBOX (cutbox-rows.mjs): the forced cells as the released guide's own fill.sh prints them over the translation 5ed8f2d275530367… (all of the seat's roots in one cut). By AI agents, Wed Nov 11 2026. No macro, syntax, notation, axiom, sorry.
-/
import Derived.Test.YtfhcaedkdjckhaaChecked
import GoSem.Claim
import GoSem.ClaimJoined
import GoSem.ClaimMapViews
import Derived.JoinedTies
import Derived.KernelRfl
namespace Go.Proofs.Ytfhcaedkdjckhaa
/- THE CELL 'sum', in the pinned program and in every row, IS THE sha256 OF THE DUMP (.gsa) THAT YtfhcaedkdjckhaaProg.lean LOADS. Nothing in Lean hashes anything: it is a label: what it is worth is what the hold of that sum in a sandbox is worth. -/
noncomputable def Try.pinned : Pinned := { name := "ytfhcaedkdjckhaa", sum := "5ed8f2d2755303672c18ebe8bbd3dbd66f09ee3019a70988adf050fec1a2f9ab", checked := Try.checked }
namespace Rows
def none {H : Type} : Left H := { results := [], args := [] }

/-- 'specielaw01.WordInverses': WHATEVER THE INPUT: true; the input reads as it did. -/
def wordInversesSpec : ChangeSpec := { name := "wordInverses", fn := fun _ => fun
  | [d1, d2] => { results := [.lit (.bool true)], args := [d1, d2] }
  | _ => none }
def wordInversesRow : OpenClaim := { program := "ytfhcaedkdjckhaa", sum := "5ed8f2d2755303672c18ebe8bbd3dbd66f09ee3019a70988adf050fec1a2f9ab", func := "specie/specielaw01.WordInverses", spec := "wordInverses", named := ["math/bits.divideError", "math/bits.overflowError"], apart := false }
def WordInversesSaid : Prop := wordInversesRow.holds Try.pinned (OpenSpec.ofChange wordInversesSpec)

/-- ITS FALSE NEIGHBOUR: 'it returns false'. Refute it at one input. -/
def wordInversesWrong : ChangeSpec := { name := "wordInverses", fn := fun _ => fun
  | [d1, d2] => { results := [.lit (.bool false)], args := [d1, d2] }
  | _ => none }
def WordInversesWrongFalsely : Prop := wordInversesRow.holds Try.pinned (OpenSpec.ofChange wordInversesWrong)

/-- 'specielaw01.WordSolves': WHATEVER THE INPUT: true; the input reads as it did. -/
def wordSolvesSpec : ChangeSpec := { name := "wordSolves", fn := fun _ => fun
  | [d1, d2, d3] => { results := [.lit (.bool true)], args := [d1, d2, d3] }
  | _ => none }
def wordSolvesRow : OpenClaim := { program := "ytfhcaedkdjckhaa", sum := "5ed8f2d2755303672c18ebe8bbd3dbd66f09ee3019a70988adf050fec1a2f9ab", func := "specie/specielaw01.WordSolves", spec := "wordSolves", named := ["math/bits.divideError", "math/bits.overflowError"], apart := false }
def WordSolvesSaid : Prop := wordSolvesRow.holds Try.pinned (OpenSpec.ofChange wordSolvesSpec)

/-- ITS FALSE NEIGHBOUR: 'it returns false'. Refute it at one input. -/
def wordSolvesWrong : ChangeSpec := { name := "wordSolves", fn := fun _ => fun
  | [d1, d2, d3] => { results := [.lit (.bool false)], args := [d1, d2, d3] }
  | _ => none }
def WordSolvesWrongFalsely : Prop := wordSolvesRow.holds Try.pinned (OpenSpec.ofChange wordSolvesWrong)

/-- 'specielaw01.WordSymbols': WHATEVER THE INPUT: true; the input reads as it did. -/
def wordSymbolsSpec : ChangeSpec := { name := "wordSymbols", fn := fun _ => fun
  | [d1, d2] => { results := [.lit (.bool true)], args := [d1, d2] }
  | _ => none }
def wordSymbolsRow : OpenClaim := { program := "ytfhcaedkdjckhaa", sum := "5ed8f2d2755303672c18ebe8bbd3dbd66f09ee3019a70988adf050fec1a2f9ab", func := "specie/specielaw01.WordSymbols", spec := "wordSymbols", named := ["math/bits.divideError", "math/bits.overflowError"], apart := false }
def WordSymbolsSaid : Prop := wordSymbolsRow.holds Try.pinned (OpenSpec.ofChange wordSymbolsSpec)

/-- ITS FALSE NEIGHBOUR: 'it returns false'. Refute it at one input. -/
def wordSymbolsWrong : ChangeSpec := { name := "wordSymbols", fn := fun _ => fun
  | [d1, d2] => { results := [.lit (.bool false)], args := [d1, d2] }
  | _ => none }
def WordSymbolsWrongFalsely : Prop := wordSymbolsRow.holds Try.pinned (OpenSpec.ofChange wordSymbolsWrong)

/-- 'specielaw01.WordSolutions': WHATEVER THE INPUT: true; the input reads as it did. -/
def wordSolutionsSpec : ChangeSpec := { name := "wordSolutions", fn := fun _ => fun
  | [d1, d2, d3] => { results := [.lit (.bool true)], args := [d1, d2, d3] }
  | _ => none }
def wordSolutionsRow : OpenClaim := { program := "ytfhcaedkdjckhaa", sum := "5ed8f2d2755303672c18ebe8bbd3dbd66f09ee3019a70988adf050fec1a2f9ab", func := "specie/specielaw01.WordSolutions", spec := "wordSolutions", named := ["math/bits.divideError", "math/bits.overflowError"], apart := false }
def WordSolutionsSaid : Prop := wordSolutionsRow.holds Try.pinned (OpenSpec.ofChange wordSolutionsSpec)

/-- ITS FALSE NEIGHBOUR: 'it returns false'. Refute it at one input. -/
def wordSolutionsWrong : ChangeSpec := { name := "wordSolutions", fn := fun _ => fun
  | [d1, d2, d3] => { results := [.lit (.bool false)], args := [d1, d2, d3] }
  | _ => none }
def WordSolutionsWrongFalsely : Prop := wordSolutionsRow.holds Try.pinned (OpenSpec.ofChange wordSolutionsWrong)

/-- 'specielaw01.WordSums': WHATEVER THE INPUT: true; the input reads as it did. -/
def wordSumsSpec : ChangeSpec := { name := "wordSums", fn := fun _ => fun
  | [d1, d2, d3] => { results := [.lit (.bool true)], args := [d1, d2, d3] }
  | _ => none }
def wordSumsRow : OpenClaim := { program := "ytfhcaedkdjckhaa", sum := "5ed8f2d2755303672c18ebe8bbd3dbd66f09ee3019a70988adf050fec1a2f9ab", func := "specie/specielaw01.WordSums", spec := "wordSums", named := ["math/bits.divideError", "math/bits.overflowError"], apart := false }
def WordSumsSaid : Prop := wordSumsRow.holds Try.pinned (OpenSpec.ofChange wordSumsSpec)

/-- ITS FALSE NEIGHBOUR: 'it returns false'. Refute it at one input. -/
def wordSumsWrong : ChangeSpec := { name := "wordSums", fn := fun _ => fun
  | [d1, d2, d3] => { results := [.lit (.bool false)], args := [d1, d2, d3] }
  | _ => none }
def WordSumsWrongFalsely : Prop := wordSumsRow.holds Try.pinned (OpenSpec.ofChange wordSumsWrong)

/-- 'specielaw01.WordPowers': WHATEVER THE INPUT: true; the input reads as it did. -/
def wordPowersSpec : ChangeSpec := { name := "wordPowers", fn := fun _ => fun
  | [d1, d2, d3] => { results := [.lit (.bool true)], args := [d1, d2, d3] }
  | _ => none }
def wordPowersRow : OpenClaim := { program := "ytfhcaedkdjckhaa", sum := "5ed8f2d2755303672c18ebe8bbd3dbd66f09ee3019a70988adf050fec1a2f9ab", func := "specie/specielaw01.WordPowers", spec := "wordPowers", named := ["math/bits.divideError", "math/bits.overflowError"], apart := false }
def WordPowersSaid : Prop := wordPowersRow.holds Try.pinned (OpenSpec.ofChange wordPowersSpec)

/-- ITS FALSE NEIGHBOUR: 'it returns false'. Refute it at one input. -/
def wordPowersWrong : ChangeSpec := { name := "wordPowers", fn := fun _ => fun
  | [d1, d2, d3] => { results := [.lit (.bool false)], args := [d1, d2, d3] }
  | _ => none }
def WordPowersWrongFalsely : Prop := wordPowersRow.holds Try.pinned (OpenSpec.ofChange wordPowersWrong)

/-- 'specielaw01.WordExponents': WHATEVER THE INPUT: true; the input reads as it did. -/
def wordExponentsSpec : ChangeSpec := { name := "wordExponents", fn := fun _ => fun
  | [d1, d2, d3, d4, d5] => { results := [.lit (.bool true)], args := [d1, d2, d3, d4, d5] }
  | _ => none }
def wordExponentsRow : OpenClaim := { program := "ytfhcaedkdjckhaa", sum := "5ed8f2d2755303672c18ebe8bbd3dbd66f09ee3019a70988adf050fec1a2f9ab", func := "specie/specielaw01.WordExponents", spec := "wordExponents", named := ["math/bits.divideError", "math/bits.overflowError"], apart := false }
def WordExponentsSaid : Prop := wordExponentsRow.holds Try.pinned (OpenSpec.ofChange wordExponentsSpec)

/-- ITS FALSE NEIGHBOUR: 'it returns false'. Refute it at one input. -/
def wordExponentsWrong : ChangeSpec := { name := "wordExponents", fn := fun _ => fun
  | [d1, d2, d3, d4, d5] => { results := [.lit (.bool false)], args := [d1, d2, d3, d4, d5] }
  | _ => none }
def WordExponentsWrongFalsely : Prop := wordExponentsRow.holds Try.pinned (OpenSpec.ofChange wordExponentsWrong)

/-- 'specielaw01.WordRing': WHATEVER THE INPUT: true; the input reads as it did. -/
def wordRingSpec : ChangeSpec := { name := "wordRing", fn := fun _ => fun
  | [d1, d2, d3, d4] => { results := [.lit (.bool true)], args := [d1, d2, d3, d4] }
  | _ => none }
def wordRingRow : OpenClaim := { program := "ytfhcaedkdjckhaa", sum := "5ed8f2d2755303672c18ebe8bbd3dbd66f09ee3019a70988adf050fec1a2f9ab", func := "specie/specielaw01.WordRing", spec := "wordRing", named := ["math/bits.divideError", "math/bits.overflowError"], apart := false }
def WordRingSaid : Prop := wordRingRow.holds Try.pinned (OpenSpec.ofChange wordRingSpec)

/-- ITS FALSE NEIGHBOUR: 'it returns false'. Refute it at one input. -/
def wordRingWrong : ChangeSpec := { name := "wordRing", fn := fun _ => fun
  | [d1, d2, d3, d4] => { results := [.lit (.bool false)], args := [d1, d2, d3, d4] }
  | _ => none }
def WordRingWrongFalsely : Prop := wordRingRow.holds Try.pinned (OpenSpec.ofChange wordRingWrong)

/-- 'specielaw01.WordReduces': WHATEVER THE INPUT: true; the input reads as it did. -/
def wordReducesSpec : ChangeSpec := { name := "wordReduces", fn := fun _ => fun
  | [d1, d2] => { results := [.lit (.bool true)], args := [d1, d2] }
  | _ => none }
def wordReducesRow : OpenClaim := { program := "ytfhcaedkdjckhaa", sum := "5ed8f2d2755303672c18ebe8bbd3dbd66f09ee3019a70988adf050fec1a2f9ab", func := "specie/specielaw01.WordReduces", spec := "wordReduces", named := ["math/bits.divideError", "math/bits.overflowError"], apart := false }
def WordReducesSaid : Prop := wordReducesRow.holds Try.pinned (OpenSpec.ofChange wordReducesSpec)

/-- ITS FALSE NEIGHBOUR: 'it returns false'. Refute it at one input. -/
def wordReducesWrong : ChangeSpec := { name := "wordReduces", fn := fun _ => fun
  | [d1, d2] => { results := [.lit (.bool false)], args := [d1, d2] }
  | _ => none }
def WordReducesWrongFalsely : Prop := wordReducesRow.holds Try.pinned (OpenSpec.ofChange wordReducesWrong)

/-- 'specielaw01.WordQuadratic': WHATEVER THE INPUT: true; the input reads as it did. -/
def wordQuadraticSpec : ChangeSpec := { name := "wordQuadratic", fn := fun _ => fun
  | [d1, d2, d3] => { results := [.lit (.bool true)], args := [d1, d2, d3] }
  | _ => none }
def wordQuadraticRow : OpenClaim := { program := "ytfhcaedkdjckhaa", sum := "5ed8f2d2755303672c18ebe8bbd3dbd66f09ee3019a70988adf050fec1a2f9ab", func := "specie/specielaw01.WordQuadratic", spec := "wordQuadratic", named := ["math/bits.divideError", "math/bits.overflowError"], apart := false }
def WordQuadraticSaid : Prop := wordQuadraticRow.holds Try.pinned (OpenSpec.ofChange wordQuadraticSpec)

/-- ITS FALSE NEIGHBOUR: 'it returns false'. Refute it at one input. -/
def wordQuadraticWrong : ChangeSpec := { name := "wordQuadratic", fn := fun _ => fun
  | [d1, d2, d3] => { results := [.lit (.bool false)], args := [d1, d2, d3] }
  | _ => none }
def WordQuadraticWrongFalsely : Prop := wordQuadraticRow.holds Try.pinned (OpenSpec.ofChange wordQuadraticWrong)

/- THE SECOND FORM. 'bulk': how many values and letters a reading holds, each counted each time it is reached (what is shared counts as often as it is met; a slice's spare places count too). A statement '..UptoSaid' is the law's where the arguments, and the package variables that the reading takes, are together of bulk at most 1048576: NARROWER than '..Said'. Prove '..Said' where nothing that the law and all that it calls make is longer than what came in: it says more and counts as full. Else prove '..UptoSaid'. A law counts once. -/
mutual
def uptoBulk {H : Type} : DataW H → Nat
  | .lit (.string bytes) => bytes.length + 1
  | .lit _ => 1
  | .nil => 1
  | .ptr d => uptoBulk d + 1
  | .slice elems spare => uptoBulkAll elems + uptoBulkAll spare + 1
  | .agg parts => uptoBulkAll parts + 1
  | .iface _ d => uptoBulk d + 1
  | .map entries => uptoBulkEntries entries + 1
  | .held _ => 1
def uptoBulkAll {H : Type} : List (DataW H) → Nat
  | [] => 0
  | d :: r => uptoBulk d + uptoBulkAll r
def uptoBulkEntries {H : Type} : List (Lit × DataW H) → Nat
  | [] => 0
  | x :: r => uptoBulkEntry x + uptoBulkEntries r
def uptoBulkEntry {H : Type} : Lit × DataW H → Nat
  | (.string bytes, d) => bytes.length + uptoBulk d + 1
  | (_, d) => uptoBulk d + 1
 end
def uptoSmall : (H : Type) → List (DataW H) → Bool := fun _ ds => decide (uptoBulkAll ds ≤ 1048576)
def OpenSpec.upto (s : _root_.Go.ChangeSpec) : _root_.Go.OpenSpec := { _root_.Go.OpenSpec.ofChange s with cond := some uptoSmall }

/-- 'specielaw01.WordInverses', WHERE WHAT IT READS IS OF BULK AT MOST 1048576: true; the input reads as it did. -/
def wordInversesUptoRow : OpenClaim := { program := "ytfhcaedkdjckhaa", sum := "5ed8f2d2755303672c18ebe8bbd3dbd66f09ee3019a70988adf050fec1a2f9ab", func := "specie/specielaw01.WordInverses", spec := "wordInverses", named := ["math/bits.divideError", "math/bits.overflowError"], apart := false, narrowed := true }
def WordInversesUptoSaid : Prop := wordInversesUptoRow.holds Try.pinned (OpenSpec.upto wordInversesSpec)

/-- 'specielaw01.WordSolves', WHERE WHAT IT READS IS OF BULK AT MOST 1048576: true; the input reads as it did. -/
def wordSolvesUptoRow : OpenClaim := { program := "ytfhcaedkdjckhaa", sum := "5ed8f2d2755303672c18ebe8bbd3dbd66f09ee3019a70988adf050fec1a2f9ab", func := "specie/specielaw01.WordSolves", spec := "wordSolves", named := ["math/bits.divideError", "math/bits.overflowError"], apart := false, narrowed := true }
def WordSolvesUptoSaid : Prop := wordSolvesUptoRow.holds Try.pinned (OpenSpec.upto wordSolvesSpec)

/-- 'specielaw01.WordSymbols', WHERE WHAT IT READS IS OF BULK AT MOST 1048576: true; the input reads as it did. -/
def wordSymbolsUptoRow : OpenClaim := { program := "ytfhcaedkdjckhaa", sum := "5ed8f2d2755303672c18ebe8bbd3dbd66f09ee3019a70988adf050fec1a2f9ab", func := "specie/specielaw01.WordSymbols", spec := "wordSymbols", named := ["math/bits.divideError", "math/bits.overflowError"], apart := false, narrowed := true }
def WordSymbolsUptoSaid : Prop := wordSymbolsUptoRow.holds Try.pinned (OpenSpec.upto wordSymbolsSpec)

/-- 'specielaw01.WordSolutions', WHERE WHAT IT READS IS OF BULK AT MOST 1048576: true; the input reads as it did. -/
def wordSolutionsUptoRow : OpenClaim := { program := "ytfhcaedkdjckhaa", sum := "5ed8f2d2755303672c18ebe8bbd3dbd66f09ee3019a70988adf050fec1a2f9ab", func := "specie/specielaw01.WordSolutions", spec := "wordSolutions", named := ["math/bits.divideError", "math/bits.overflowError"], apart := false, narrowed := true }
def WordSolutionsUptoSaid : Prop := wordSolutionsUptoRow.holds Try.pinned (OpenSpec.upto wordSolutionsSpec)

/-- 'specielaw01.WordSums', WHERE WHAT IT READS IS OF BULK AT MOST 1048576: true; the input reads as it did. -/
def wordSumsUptoRow : OpenClaim := { program := "ytfhcaedkdjckhaa", sum := "5ed8f2d2755303672c18ebe8bbd3dbd66f09ee3019a70988adf050fec1a2f9ab", func := "specie/specielaw01.WordSums", spec := "wordSums", named := ["math/bits.divideError", "math/bits.overflowError"], apart := false, narrowed := true }
def WordSumsUptoSaid : Prop := wordSumsUptoRow.holds Try.pinned (OpenSpec.upto wordSumsSpec)

/-- 'specielaw01.WordPowers', WHERE WHAT IT READS IS OF BULK AT MOST 1048576: true; the input reads as it did. -/
def wordPowersUptoRow : OpenClaim := { program := "ytfhcaedkdjckhaa", sum := "5ed8f2d2755303672c18ebe8bbd3dbd66f09ee3019a70988adf050fec1a2f9ab", func := "specie/specielaw01.WordPowers", spec := "wordPowers", named := ["math/bits.divideError", "math/bits.overflowError"], apart := false, narrowed := true }
def WordPowersUptoSaid : Prop := wordPowersUptoRow.holds Try.pinned (OpenSpec.upto wordPowersSpec)

/-- 'specielaw01.WordExponents', WHERE WHAT IT READS IS OF BULK AT MOST 1048576: true; the input reads as it did. -/
def wordExponentsUptoRow : OpenClaim := { program := "ytfhcaedkdjckhaa", sum := "5ed8f2d2755303672c18ebe8bbd3dbd66f09ee3019a70988adf050fec1a2f9ab", func := "specie/specielaw01.WordExponents", spec := "wordExponents", named := ["math/bits.divideError", "math/bits.overflowError"], apart := false, narrowed := true }
def WordExponentsUptoSaid : Prop := wordExponentsUptoRow.holds Try.pinned (OpenSpec.upto wordExponentsSpec)

/-- 'specielaw01.WordRing', WHERE WHAT IT READS IS OF BULK AT MOST 1048576: true; the input reads as it did. -/
def wordRingUptoRow : OpenClaim := { program := "ytfhcaedkdjckhaa", sum := "5ed8f2d2755303672c18ebe8bbd3dbd66f09ee3019a70988adf050fec1a2f9ab", func := "specie/specielaw01.WordRing", spec := "wordRing", named := ["math/bits.divideError", "math/bits.overflowError"], apart := false, narrowed := true }
def WordRingUptoSaid : Prop := wordRingUptoRow.holds Try.pinned (OpenSpec.upto wordRingSpec)

/-- 'specielaw01.WordReduces', WHERE WHAT IT READS IS OF BULK AT MOST 1048576: true; the input reads as it did. -/
def wordReducesUptoRow : OpenClaim := { program := "ytfhcaedkdjckhaa", sum := "5ed8f2d2755303672c18ebe8bbd3dbd66f09ee3019a70988adf050fec1a2f9ab", func := "specie/specielaw01.WordReduces", spec := "wordReduces", named := ["math/bits.divideError", "math/bits.overflowError"], apart := false, narrowed := true }
def WordReducesUptoSaid : Prop := wordReducesUptoRow.holds Try.pinned (OpenSpec.upto wordReducesSpec)

/-- 'specielaw01.WordQuadratic', WHERE WHAT IT READS IS OF BULK AT MOST 1048576: true; the input reads as it did. -/
def wordQuadraticUptoRow : OpenClaim := { program := "ytfhcaedkdjckhaa", sum := "5ed8f2d2755303672c18ebe8bbd3dbd66f09ee3019a70988adf050fec1a2f9ab", func := "specie/specielaw01.WordQuadratic", spec := "wordQuadratic", named := ["math/bits.divideError", "math/bits.overflowError"], apart := false, narrowed := true }
def WordQuadraticUptoSaid : Prop := wordQuadraticUptoRow.holds Try.pinned (OpenSpec.upto wordQuadraticSpec)

end Rows
end Go.Proofs.Ytfhcaedkdjckhaa
