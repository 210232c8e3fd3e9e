/-
  NARROWER THAN 'FOR EVERY INPUT', by the rows' own cells (each row's printed sentence says how): PolyInterpolates: laid · PolyBack: laid · PolyLagrange: laid · PolyDivides: laid · PolyRests: laid · MatrixSolved: laid · MatrixRing: laid · MatrixUndone: laid · PrimeCertifies: laid · PrimeProducts: laid.
  DERIVED. THE GIVEN ROWS OF THIS SEAT. 10 by the template 'for every input the law returns true; each argument reads behind the call as it read before'; 0 by the template 'total and deterministic' (their statements: YteipbcpnnojclaaDoorTotals.lean).
  GIVEN WITH THE SEED: the statements are not yours to turn. If you find one false, say at which input.
  Laid BY PROGRAM, IN A SANDBOX (cutbox-rows.mjs): the forced cells as the released guide's own fill.sh prints them over the translation c1195cde4fc1e7cf… (all of the seat's roots in one cut). By AI agents, Wed Nov 11 2026. No macro, syntax, notation, axiom, sorry.
-/
import Derived.Test.YteipbcpnnojclaaDoorChecked
import GoSem.Claim
import GoSem.ClaimJoined
import GoSem.ClaimMapViews
import Derived.JoinedTies
import Derived.KernelRfl
namespace Go.Proofs.YteipbcpnnojclaaDoor
/- THE CELL 'sum', in the pinned program and in every row, IS THE sha256 OF THE DUMP (.gsa) THAT YteipbcpnnojclaaDoorProg.lean LOADS. Nothing in Lean hashes anything: it is a label: what it is worth is what the hold of that sum in a sandbox is worth. -/
noncomputable def Tryd.pinned : Pinned := { name := "yteipbcpnnojclaadoor", sum := "c1195cde4fc1e7cf4ee993ae590e22e1776af74882954ce86811cf97a43fdfcc", checked := Tryd.checked }
namespace Rows
def none {H : Type} : Left H := { results := [], args := [] }

/- WHAT THE LISTED PACKAGE-LEVEL VARIABLES READ AS WHEN THE CALL BEGINS. Each datum BY PROGRAM (the guide's laid-datum.mjs) off the statement by which the dump's own 'gosem.cut.vars' lays the variable. In a bare row this is a premise. The card (YteipbcpnnojclaaDoorCards.lean) ties it to the program's text. -/
def laid_math_bits_deBruijn64tab {H : Type} : DataW H := .agg [.lit (.int .u8 0), .lit (.int .u8 1), .lit (.int .u8 56), .lit (.int .u8 2), .lit (.int .u8 57), .lit (.int .u8 49), .lit (.int .u8 28), .lit (.int .u8 3), .lit (.int .u8 61), .lit (.int .u8 58), .lit (.int .u8 42), .lit (.int .u8 50), .lit (.int .u8 38), .lit (.int .u8 29), .lit (.int .u8 17), .lit (.int .u8 4), .lit (.int .u8 62), .lit (.int .u8 47), .lit (.int .u8 59), .lit (.int .u8 36), .lit (.int .u8 45), .lit (.int .u8 43), .lit (.int .u8 51), .lit (.int .u8 22), .lit (.int .u8 53), .lit (.int .u8 39), .lit (.int .u8 33), .lit (.int .u8 30), .lit (.int .u8 24), .lit (.int .u8 18), .lit (.int .u8 12), .lit (.int .u8 5), .lit (.int .u8 63), .lit (.int .u8 55), .lit (.int .u8 48), .lit (.int .u8 27), .lit (.int .u8 60), .lit (.int .u8 41), .lit (.int .u8 37), .lit (.int .u8 16), .lit (.int .u8 46), .lit (.int .u8 35), .lit (.int .u8 44), .lit (.int .u8 21), .lit (.int .u8 52), .lit (.int .u8 32), .lit (.int .u8 23), .lit (.int .u8 11), .lit (.int .u8 54), .lit (.int .u8 26), .lit (.int .u8 40), .lit (.int .u8 15), .lit (.int .u8 34), .lit (.int .u8 20), .lit (.int .u8 31), .lit (.int .u8 10), .lit (.int .u8 25), .lit (.int .u8 14), .lit (.int .u8 19), .lit (.int .u8 9), .lit (.int .u8 13), .lit (.int .u8 8), .lit (.int .u8 7), .lit (.int .u8 6)]
def laid_specie_prime_bases {H : Type} : DataW H := .agg [.lit (.int .u64 2), .lit (.int .u64 3), .lit (.int .u64 5), .lit (.int .u64 7), .lit (.int .u64 11), .lit (.int .u64 13), .lit (.int .u64 17), .lit (.int .u64 19), .lit (.int .u64 23), .lit (.int .u64 29), .lit (.int .u64 31), .lit (.int .u64 37)]

/-- 'specielaw13.PolyInterpolates': WHATEVER THE INPUT: true; the input reads as it did. -/
def polyInterpolatesSpec : ChangeSpec := { name := "polyInterpolates", fn := fun _ => fun
  | [d1, d2, d3, d4] => { results := [.lit (.bool true)], args := [d1, d2, d3, d4] }
  | _ => none }
def polyInterpolatesRow : OpenClaim := { program := "yteipbcpnnojclaadoor", sum := "c1195cde4fc1e7cf4ee993ae590e22e1776af74882954ce86811cf97a43fdfcc", func := "specie/specielaw13.PolyInterpolates", spec := "polyInterpolates", unfollowed := true, recurses := true, named := ["specie/prime.bases", "math/bits.deBruijn64tab", "math/bits.divideError", "math/bits.overflowError"], apart := false, laid := [("math/bits.deBruijn64tab", laid_math_bits_deBruijn64tab), ("specie/prime.bases", laid_specie_prime_bases)] }
def PolyInterpolatesSaid : Prop := polyInterpolatesRow.holds Tryd.pinned (OpenSpec.ofChange polyInterpolatesSpec)

/-- ITS FALSE NEIGHBOUR: 'it returns false'. Refute it at one input. -/
def polyInterpolatesWrong : ChangeSpec := { name := "polyInterpolates", fn := fun _ => fun
  | [d1, d2, d3, d4] => { results := [.lit (.bool false)], args := [d1, d2, d3, d4] }
  | _ => none }
def PolyInterpolatesWrongFalsely : Prop := polyInterpolatesRow.holds Tryd.pinned (OpenSpec.ofChange polyInterpolatesWrong)

/-- 'specielaw13.PolyBack': WHATEVER THE INPUT: true; the input reads as it did. -/
def polyBackSpec : ChangeSpec := { name := "polyBack", fn := fun _ => fun
  | [d1, d2, d3] => { results := [.lit (.bool true)], args := [d1, d2, d3] }
  | _ => none }
def polyBackRow : OpenClaim := { program := "yteipbcpnnojclaadoor", sum := "c1195cde4fc1e7cf4ee993ae590e22e1776af74882954ce86811cf97a43fdfcc", func := "specie/specielaw13.PolyBack", spec := "polyBack", unfollowed := true, recurses := true, named := ["specie/prime.bases", "math/bits.deBruijn64tab", "math/bits.divideError", "math/bits.overflowError"], apart := false, laid := [("math/bits.deBruijn64tab", laid_math_bits_deBruijn64tab), ("specie/prime.bases", laid_specie_prime_bases)] }
def PolyBackSaid : Prop := polyBackRow.holds Tryd.pinned (OpenSpec.ofChange polyBackSpec)

/-- ITS FALSE NEIGHBOUR: 'it returns false'. Refute it at one input. -/
def polyBackWrong : ChangeSpec := { name := "polyBack", fn := fun _ => fun
  | [d1, d2, d3] => { results := [.lit (.bool false)], args := [d1, d2, d3] }
  | _ => none }
def PolyBackWrongFalsely : Prop := polyBackRow.holds Tryd.pinned (OpenSpec.ofChange polyBackWrong)

/-- 'specielaw13.PolyLagrange': WHATEVER THE INPUT: true; the input reads as it did. -/
def polyLagrangeSpec : ChangeSpec := { name := "polyLagrange", fn := fun _ => fun
  | [d1, d2, d3, d4] => { results := [.lit (.bool true)], args := [d1, d2, d3, d4] }
  | _ => none }
def polyLagrangeRow : OpenClaim := { program := "yteipbcpnnojclaadoor", sum := "c1195cde4fc1e7cf4ee993ae590e22e1776af74882954ce86811cf97a43fdfcc", func := "specie/specielaw13.PolyLagrange", spec := "polyLagrange", unfollowed := true, recurses := true, named := ["specie/prime.bases", "math/bits.deBruijn64tab", "math/bits.divideError", "math/bits.overflowError"], apart := false, laid := [("math/bits.deBruijn64tab", laid_math_bits_deBruijn64tab), ("specie/prime.bases", laid_specie_prime_bases)] }
def PolyLagrangeSaid : Prop := polyLagrangeRow.holds Tryd.pinned (OpenSpec.ofChange polyLagrangeSpec)

/-- ITS FALSE NEIGHBOUR: 'it returns false'. Refute it at one input. -/
def polyLagrangeWrong : ChangeSpec := { name := "polyLagrange", fn := fun _ => fun
  | [d1, d2, d3, d4] => { results := [.lit (.bool false)], args := [d1, d2, d3, d4] }
  | _ => none }
def PolyLagrangeWrongFalsely : Prop := polyLagrangeRow.holds Tryd.pinned (OpenSpec.ofChange polyLagrangeWrong)

/-- 'specielaw13.PolyDivides': WHATEVER THE INPUT: true; the input reads as it did. -/
def polyDividesSpec : ChangeSpec := { name := "polyDivides", fn := fun _ => fun
  | [d1, d2, d3] => { results := [.lit (.bool true)], args := [d1, d2, d3] }
  | _ => none }
def polyDividesRow : OpenClaim := { program := "yteipbcpnnojclaadoor", sum := "c1195cde4fc1e7cf4ee993ae590e22e1776af74882954ce86811cf97a43fdfcc", func := "specie/specielaw13.PolyDivides", spec := "polyDivides", unfollowed := true, recurses := true, named := ["specie/prime.bases", "math/bits.deBruijn64tab", "math/bits.divideError", "math/bits.overflowError"], apart := false, laid := [("math/bits.deBruijn64tab", laid_math_bits_deBruijn64tab), ("specie/prime.bases", laid_specie_prime_bases)] }
def PolyDividesSaid : Prop := polyDividesRow.holds Tryd.pinned (OpenSpec.ofChange polyDividesSpec)

/-- ITS FALSE NEIGHBOUR: 'it returns false'. Refute it at one input. -/
def polyDividesWrong : ChangeSpec := { name := "polyDivides", fn := fun _ => fun
  | [d1, d2, d3] => { results := [.lit (.bool false)], args := [d1, d2, d3] }
  | _ => none }
def PolyDividesWrongFalsely : Prop := polyDividesRow.holds Tryd.pinned (OpenSpec.ofChange polyDividesWrong)

/-- 'specielaw13.PolyRests': WHATEVER THE INPUT: true; the input reads as it did. -/
def polyRestsSpec : ChangeSpec := { name := "polyRests", fn := fun _ => fun
  | [d1, d2, d3] => { results := [.lit (.bool true)], args := [d1, d2, d3] }
  | _ => none }
def polyRestsRow : OpenClaim := { program := "yteipbcpnnojclaadoor", sum := "c1195cde4fc1e7cf4ee993ae590e22e1776af74882954ce86811cf97a43fdfcc", func := "specie/specielaw13.PolyRests", spec := "polyRests", unfollowed := true, recurses := true, named := ["specie/prime.bases", "math/bits.deBruijn64tab", "math/bits.divideError", "math/bits.overflowError"], apart := false, laid := [("math/bits.deBruijn64tab", laid_math_bits_deBruijn64tab), ("specie/prime.bases", laid_specie_prime_bases)] }
def PolyRestsSaid : Prop := polyRestsRow.holds Tryd.pinned (OpenSpec.ofChange polyRestsSpec)

/-- ITS FALSE NEIGHBOUR: 'it returns false'. Refute it at one input. -/
def polyRestsWrong : ChangeSpec := { name := "polyRests", fn := fun _ => fun
  | [d1, d2, d3] => { results := [.lit (.bool false)], args := [d1, d2, d3] }
  | _ => none }
def PolyRestsWrongFalsely : Prop := polyRestsRow.holds Tryd.pinned (OpenSpec.ofChange polyRestsWrong)

/-- 'specielaw14.MatrixSolved': WHATEVER THE INPUT: true; the input reads as it did. -/
def matrixSolvedSpec : ChangeSpec := { name := "matrixSolved", fn := fun _ => fun
  | [d1, d2, d3, d4] => { results := [.lit (.bool true)], args := [d1, d2, d3, d4] }
  | _ => none }
def matrixSolvedRow : OpenClaim := { program := "yteipbcpnnojclaadoor", sum := "c1195cde4fc1e7cf4ee993ae590e22e1776af74882954ce86811cf97a43fdfcc", func := "specie/specielaw14.MatrixSolved", spec := "matrixSolved", unfollowed := true, recurses := true, named := ["specie/prime.bases", "math/bits.deBruijn64tab", "math/bits.divideError", "math/bits.overflowError"], apart := false, laid := [("math/bits.deBruijn64tab", laid_math_bits_deBruijn64tab), ("specie/prime.bases", laid_specie_prime_bases)] }
def MatrixSolvedSaid : Prop := matrixSolvedRow.holds Tryd.pinned (OpenSpec.ofChange matrixSolvedSpec)

/-- ITS FALSE NEIGHBOUR: 'it returns false'. Refute it at one input. -/
def matrixSolvedWrong : ChangeSpec := { name := "matrixSolved", fn := fun _ => fun
  | [d1, d2, d3, d4] => { results := [.lit (.bool false)], args := [d1, d2, d3, d4] }
  | _ => none }
def MatrixSolvedWrongFalsely : Prop := matrixSolvedRow.holds Tryd.pinned (OpenSpec.ofChange matrixSolvedWrong)

/-- 'specielaw14.MatrixRing': WHATEVER THE INPUT: true; the input reads as it did. -/
def matrixRingSpec : ChangeSpec := { name := "matrixRing", fn := fun _ => fun
  | [d1, d2, d3, d4, d5] => { results := [.lit (.bool true)], args := [d1, d2, d3, d4, d5] }
  | _ => none }
def matrixRingRow : OpenClaim := { program := "yteipbcpnnojclaadoor", sum := "c1195cde4fc1e7cf4ee993ae590e22e1776af74882954ce86811cf97a43fdfcc", func := "specie/specielaw14.MatrixRing", spec := "matrixRing", unfollowed := true, recurses := true, named := ["specie/prime.bases", "math/bits.deBruijn64tab", "math/bits.divideError", "math/bits.overflowError"], apart := false, laid := [("math/bits.deBruijn64tab", laid_math_bits_deBruijn64tab), ("specie/prime.bases", laid_specie_prime_bases)] }
def MatrixRingSaid : Prop := matrixRingRow.holds Tryd.pinned (OpenSpec.ofChange matrixRingSpec)

/-- ITS FALSE NEIGHBOUR: 'it returns false'. Refute it at one input. -/
def matrixRingWrong : ChangeSpec := { name := "matrixRing", fn := fun _ => fun
  | [d1, d2, d3, d4, d5] => { results := [.lit (.bool false)], args := [d1, d2, d3, d4, d5] }
  | _ => none }
def MatrixRingWrongFalsely : Prop := matrixRingRow.holds Tryd.pinned (OpenSpec.ofChange matrixRingWrong)

/-- 'specielaw14.MatrixUndone': WHATEVER THE INPUT: true; the input reads as it did. -/
def matrixUndoneSpec : ChangeSpec := { name := "matrixUndone", fn := fun _ => fun
  | [d1, d2, d3] => { results := [.lit (.bool true)], args := [d1, d2, d3] }
  | _ => none }
def matrixUndoneRow : OpenClaim := { program := "yteipbcpnnojclaadoor", sum := "c1195cde4fc1e7cf4ee993ae590e22e1776af74882954ce86811cf97a43fdfcc", func := "specie/specielaw14.MatrixUndone", spec := "matrixUndone", unfollowed := true, recurses := true, named := ["specie/prime.bases", "math/bits.deBruijn64tab", "math/bits.divideError", "math/bits.overflowError"], apart := false, laid := [("math/bits.deBruijn64tab", laid_math_bits_deBruijn64tab), ("specie/prime.bases", laid_specie_prime_bases)] }
def MatrixUndoneSaid : Prop := matrixUndoneRow.holds Tryd.pinned (OpenSpec.ofChange matrixUndoneSpec)

/-- ITS FALSE NEIGHBOUR: 'it returns false'. Refute it at one input. -/
def matrixUndoneWrong : ChangeSpec := { name := "matrixUndone", fn := fun _ => fun
  | [d1, d2, d3] => { results := [.lit (.bool false)], args := [d1, d2, d3] }
  | _ => none }
def MatrixUndoneWrongFalsely : Prop := matrixUndoneRow.holds Tryd.pinned (OpenSpec.ofChange matrixUndoneWrong)

/-- 'specielaw05.PrimeCertifies': WHATEVER THE INPUT: true; the input reads as it did. -/
def primeCertifiesSpec : ChangeSpec := { name := "primeCertifies", fn := fun _ => fun
  | [d] => { results := [.lit (.bool true)], args := [d] }
  | _ => none }
def primeCertifiesRow : OpenClaim := { program := "yteipbcpnnojclaadoor", sum := "c1195cde4fc1e7cf4ee993ae590e22e1776af74882954ce86811cf97a43fdfcc", func := "specie/specielaw05.PrimeCertifies", spec := "primeCertifies", unfollowed := true, recurses := true, named := ["specie/prime.bases", "math/bits.deBruijn64tab", "math/bits.divideError", "math/bits.overflowError"], apart := false, laid := [("math/bits.deBruijn64tab", laid_math_bits_deBruijn64tab), ("specie/prime.bases", laid_specie_prime_bases)] }
def PrimeCertifiesSaid : Prop := primeCertifiesRow.holds Tryd.pinned (OpenSpec.ofChange primeCertifiesSpec)

/-- ITS FALSE NEIGHBOUR: 'it returns false'. Refute it at one input. -/
def primeCertifiesWrong : ChangeSpec := { name := "primeCertifies", fn := fun _ => fun
  | [d] => { results := [.lit (.bool false)], args := [d] }
  | _ => none }
def PrimeCertifiesWrongFalsely : Prop := primeCertifiesRow.holds Tryd.pinned (OpenSpec.ofChange primeCertifiesWrong)

/-- 'specielaw05.PrimeProducts': WHATEVER THE INPUT: true; the input reads as it did. -/
def primeProductsSpec : ChangeSpec := { name := "primeProducts", fn := fun _ => fun
  | [d] => { results := [.lit (.bool true)], args := [d] }
  | _ => none }
def primeProductsRow : OpenClaim := { program := "yteipbcpnnojclaadoor", sum := "c1195cde4fc1e7cf4ee993ae590e22e1776af74882954ce86811cf97a43fdfcc", func := "specie/specielaw05.PrimeProducts", spec := "primeProducts", unfollowed := true, recurses := true, named := ["specie/prime.bases", "math/bits.deBruijn64tab", "math/bits.divideError", "math/bits.overflowError"], apart := false, laid := [("math/bits.deBruijn64tab", laid_math_bits_deBruijn64tab), ("specie/prime.bases", laid_specie_prime_bases)] }
def PrimeProductsSaid : Prop := primeProductsRow.holds Tryd.pinned (OpenSpec.ofChange primeProductsSpec)

/-- ITS FALSE NEIGHBOUR: 'it returns false'. Refute it at one input. -/
def primeProductsWrong : ChangeSpec := { name := "primeProducts", fn := fun _ => fun
  | [d] => { results := [.lit (.bool false)], args := [d] }
  | _ => none }
def PrimeProductsWrongFalsely : Prop := primeProductsRow.holds Tryd.pinned (OpenSpec.ofChange primeProductsWrong)

/- THE SECOND FORM. 'bulk': how many values and letters a reading holds, each counted each time it is reached (what is shared counts as often as it is met; a slice's spare places count too). A statement '..UptoSaid' is the law's where the arguments, and the package variables that the reading takes, are together of bulk at most 1048576: NARROWER than '..Said'. Prove '..Said' where nothing that the law and all that it calls make is longer than what came in: it says more and counts as full. Else prove '..UptoSaid'. A law counts once. -/
mutual
def uptoBulk {H : Type} : DataW H → Nat
  | .lit (.string bytes) => bytes.length + 1
  | .lit _ => 1
  | .nil => 1
  | .ptr d => uptoBulk d + 1
  | .slice elems spare => uptoBulkAll elems + uptoBulkAll spare + 1
  | .agg parts => uptoBulkAll parts + 1
  | .iface _ d => uptoBulk d + 1
  | .map entries => uptoBulkEntries entries + 1
  | .held _ => 1
def uptoBulkAll {H : Type} : List (DataW H) → Nat
  | [] => 0
  | d :: r => uptoBulk d + uptoBulkAll r
def uptoBulkEntries {H : Type} : List (Lit × DataW H) → Nat
  | [] => 0
  | x :: r => uptoBulkEntry x + uptoBulkEntries r
def uptoBulkEntry {H : Type} : Lit × DataW H → Nat
  | (.string bytes, d) => bytes.length + uptoBulk d + 1
  | (_, d) => uptoBulk d + 1
 end
def uptoSmall : (H : Type) → List (DataW H) → Bool := fun _ ds => decide (uptoBulkAll ds ≤ 1048576)
def OpenSpec.upto (s : _root_.Go.ChangeSpec) : _root_.Go.OpenSpec := { _root_.Go.OpenSpec.ofChange s with cond := some uptoSmall }

/-- 'specielaw13.PolyInterpolates', WHERE WHAT IT READS IS OF BULK AT MOST 1048576: true; the input reads as it did. -/
def polyInterpolatesUptoRow : OpenClaim := { program := "yteipbcpnnojclaadoor", sum := "c1195cde4fc1e7cf4ee993ae590e22e1776af74882954ce86811cf97a43fdfcc", func := "specie/specielaw13.PolyInterpolates", spec := "polyInterpolates", unfollowed := true, recurses := true, named := ["specie/prime.bases", "math/bits.deBruijn64tab", "math/bits.divideError", "math/bits.overflowError"], apart := false, laid := [("math/bits.deBruijn64tab", laid_math_bits_deBruijn64tab), ("specie/prime.bases", laid_specie_prime_bases)], narrowed := true }
def PolyInterpolatesUptoSaid : Prop := polyInterpolatesUptoRow.holds Tryd.pinned (OpenSpec.upto polyInterpolatesSpec)

/-- 'specielaw13.PolyBack', WHERE WHAT IT READS IS OF BULK AT MOST 1048576: true; the input reads as it did. -/
def polyBackUptoRow : OpenClaim := { program := "yteipbcpnnojclaadoor", sum := "c1195cde4fc1e7cf4ee993ae590e22e1776af74882954ce86811cf97a43fdfcc", func := "specie/specielaw13.PolyBack", spec := "polyBack", unfollowed := true, recurses := true, named := ["specie/prime.bases", "math/bits.deBruijn64tab", "math/bits.divideError", "math/bits.overflowError"], apart := false, laid := [("math/bits.deBruijn64tab", laid_math_bits_deBruijn64tab), ("specie/prime.bases", laid_specie_prime_bases)], narrowed := true }
def PolyBackUptoSaid : Prop := polyBackUptoRow.holds Tryd.pinned (OpenSpec.upto polyBackSpec)

/-- 'specielaw13.PolyLagrange', WHERE WHAT IT READS IS OF BULK AT MOST 1048576: true; the input reads as it did. -/
def polyLagrangeUptoRow : OpenClaim := { program := "yteipbcpnnojclaadoor", sum := "c1195cde4fc1e7cf4ee993ae590e22e1776af74882954ce86811cf97a43fdfcc", func := "specie/specielaw13.PolyLagrange", spec := "polyLagrange", unfollowed := true, recurses := true, named := ["specie/prime.bases", "math/bits.deBruijn64tab", "math/bits.divideError", "math/bits.overflowError"], apart := false, laid := [("math/bits.deBruijn64tab", laid_math_bits_deBruijn64tab), ("specie/prime.bases", laid_specie_prime_bases)], narrowed := true }
def PolyLagrangeUptoSaid : Prop := polyLagrangeUptoRow.holds Tryd.pinned (OpenSpec.upto polyLagrangeSpec)

/-- 'specielaw13.PolyDivides', WHERE WHAT IT READS IS OF BULK AT MOST 1048576: true; the input reads as it did. -/
def polyDividesUptoRow : OpenClaim := { program := "yteipbcpnnojclaadoor", sum := "c1195cde4fc1e7cf4ee993ae590e22e1776af74882954ce86811cf97a43fdfcc", func := "specie/specielaw13.PolyDivides", spec := "polyDivides", unfollowed := true, recurses := true, named := ["specie/prime.bases", "math/bits.deBruijn64tab", "math/bits.divideError", "math/bits.overflowError"], apart := false, laid := [("math/bits.deBruijn64tab", laid_math_bits_deBruijn64tab), ("specie/prime.bases", laid_specie_prime_bases)], narrowed := true }
def PolyDividesUptoSaid : Prop := polyDividesUptoRow.holds Tryd.pinned (OpenSpec.upto polyDividesSpec)

/-- 'specielaw13.PolyRests', WHERE WHAT IT READS IS OF BULK AT MOST 1048576: true; the input reads as it did. -/
def polyRestsUptoRow : OpenClaim := { program := "yteipbcpnnojclaadoor", sum := "c1195cde4fc1e7cf4ee993ae590e22e1776af74882954ce86811cf97a43fdfcc", func := "specie/specielaw13.PolyRests", spec := "polyRests", unfollowed := true, recurses := true, named := ["specie/prime.bases", "math/bits.deBruijn64tab", "math/bits.divideError", "math/bits.overflowError"], apart := false, laid := [("math/bits.deBruijn64tab", laid_math_bits_deBruijn64tab), ("specie/prime.bases", laid_specie_prime_bases)], narrowed := true }
def PolyRestsUptoSaid : Prop := polyRestsUptoRow.holds Tryd.pinned (OpenSpec.upto polyRestsSpec)

/-- 'specielaw14.MatrixSolved', WHERE WHAT IT READS IS OF BULK AT MOST 1048576: true; the input reads as it did. -/
def matrixSolvedUptoRow : OpenClaim := { program := "yteipbcpnnojclaadoor", sum := "c1195cde4fc1e7cf4ee993ae590e22e1776af74882954ce86811cf97a43fdfcc", func := "specie/specielaw14.MatrixSolved", spec := "matrixSolved", unfollowed := true, recurses := true, named := ["specie/prime.bases", "math/bits.deBruijn64tab", "math/bits.divideError", "math/bits.overflowError"], apart := false, laid := [("math/bits.deBruijn64tab", laid_math_bits_deBruijn64tab), ("specie/prime.bases", laid_specie_prime_bases)], narrowed := true }
def MatrixSolvedUptoSaid : Prop := matrixSolvedUptoRow.holds Tryd.pinned (OpenSpec.upto matrixSolvedSpec)

/-- 'specielaw14.MatrixRing', WHERE WHAT IT READS IS OF BULK AT MOST 1048576: true; the input reads as it did. -/
def matrixRingUptoRow : OpenClaim := { program := "yteipbcpnnojclaadoor", sum := "c1195cde4fc1e7cf4ee993ae590e22e1776af74882954ce86811cf97a43fdfcc", func := "specie/specielaw14.MatrixRing", spec := "matrixRing", unfollowed := true, recurses := true, named := ["specie/prime.bases", "math/bits.deBruijn64tab", "math/bits.divideError", "math/bits.overflowError"], apart := false, laid := [("math/bits.deBruijn64tab", laid_math_bits_deBruijn64tab), ("specie/prime.bases", laid_specie_prime_bases)], narrowed := true }
def MatrixRingUptoSaid : Prop := matrixRingUptoRow.holds Tryd.pinned (OpenSpec.upto matrixRingSpec)

/-- 'specielaw14.MatrixUndone', WHERE WHAT IT READS IS OF BULK AT MOST 1048576: true; the input reads as it did. -/
def matrixUndoneUptoRow : OpenClaim := { program := "yteipbcpnnojclaadoor", sum := "c1195cde4fc1e7cf4ee993ae590e22e1776af74882954ce86811cf97a43fdfcc", func := "specie/specielaw14.MatrixUndone", spec := "matrixUndone", unfollowed := true, recurses := true, named := ["specie/prime.bases", "math/bits.deBruijn64tab", "math/bits.divideError", "math/bits.overflowError"], apart := false, laid := [("math/bits.deBruijn64tab", laid_math_bits_deBruijn64tab), ("specie/prime.bases", laid_specie_prime_bases)], narrowed := true }
def MatrixUndoneUptoSaid : Prop := matrixUndoneUptoRow.holds Tryd.pinned (OpenSpec.upto matrixUndoneSpec)

/-- 'specielaw05.PrimeCertifies', WHERE WHAT IT READS IS OF BULK AT MOST 1048576: true; the input reads as it did. -/
def primeCertifiesUptoRow : OpenClaim := { program := "yteipbcpnnojclaadoor", sum := "c1195cde4fc1e7cf4ee993ae590e22e1776af74882954ce86811cf97a43fdfcc", func := "specie/specielaw05.PrimeCertifies", spec := "primeCertifies", unfollowed := true, recurses := true, named := ["specie/prime.bases", "math/bits.deBruijn64tab", "math/bits.divideError", "math/bits.overflowError"], apart := false, laid := [("math/bits.deBruijn64tab", laid_math_bits_deBruijn64tab), ("specie/prime.bases", laid_specie_prime_bases)], narrowed := true }
def PrimeCertifiesUptoSaid : Prop := primeCertifiesUptoRow.holds Tryd.pinned (OpenSpec.upto primeCertifiesSpec)

/-- 'specielaw05.PrimeProducts', WHERE WHAT IT READS IS OF BULK AT MOST 1048576: true; the input reads as it did. -/
def primeProductsUptoRow : OpenClaim := { program := "yteipbcpnnojclaadoor", sum := "c1195cde4fc1e7cf4ee993ae590e22e1776af74882954ce86811cf97a43fdfcc", func := "specie/specielaw05.PrimeProducts", spec := "primeProducts", unfollowed := true, recurses := true, named := ["specie/prime.bases", "math/bits.deBruijn64tab", "math/bits.divideError", "math/bits.overflowError"], apart := false, laid := [("math/bits.deBruijn64tab", laid_math_bits_deBruijn64tab), ("specie/prime.bases", laid_specie_prime_bases)], narrowed := true }
def PrimeProductsUptoSaid : Prop := primeProductsUptoRow.holds Tryd.pinned (OpenSpec.upto primeProductsSpec)

end Rows
end Go.Proofs.YteipbcpnnojclaaDoor
