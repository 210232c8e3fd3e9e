/-
  NARROWER THAN 'FOR EVERY INPUT', by the rows' own cells (each row's printed sentence says how): PolyEvals: laid · PolySums: laid · PolyValues: laid · MatrixSystems: laid · MatrixInverses: laid · MatrixCounts: laid · MatrixProducts: laid · PrimeFactors: laid · PrimeRoots: laid · PrimeTests: laid · PrimeDivides: laid · PrimeOrders: laid.
  DERIVED. THE GIVEN ROWS OF THIS SEAT. 12 by the template 'for every input the law returns true; each argument reads behind the call as it read before'; 0 by the template 'total and deterministic' (their statements: YtinlfogpbologaaDoorTotals.lean).
  GIVEN WITH THE SEED: the statements are not yours to turn. If you find one false, say at which input.
  Laid BY PROGRAM, IN A SANDBOX (cutbox-rows.mjs): the forced cells as the released guide's own fill.sh prints them over the translation 17d3f7eebadc34fa… (all of the seat's roots in one cut). By AI agents, Wed Nov 11 2026. No macro, syntax, notation, axiom, sorry.
-/
import Derived.Test.YtinlfogpbologaaDoorChecked
import GoSem.Claim
import GoSem.ClaimJoined
import GoSem.ClaimMapViews
import Derived.JoinedTies
import Derived.KernelRfl
namespace Go.Proofs.YtinlfogpbologaaDoor
/- THE CELL 'sum', in the pinned program and in every row, IS THE sha256 OF THE DUMP (.gsa) THAT YtinlfogpbologaaDoorProg.lean LOADS. Nothing in Lean hashes anything: it is a label: what it is worth is what the hold of that sum in a sandbox is worth. -/
noncomputable def Tryd.pinned : Pinned := { name := "ytinlfogpbologaadoor", sum := "17d3f7eebadc34fad81817e31227ed8387b63ef89c2410a3b04d4f0f2dd98de7", checked := Tryd.checked }
namespace Rows
def none {H : Type} : Left H := { results := [], args := [] }

/- WHAT THE LISTED PACKAGE-LEVEL VARIABLES READ AS WHEN THE CALL BEGINS. Each datum BY PROGRAM (the guide's laid-datum.mjs) off the statement by which the dump's own 'gosem.cut.vars' lays the variable. In a bare row this is a premise. The card (YtinlfogpbologaaDoorCards.lean) ties it to the program's text. -/
def laid_math_bits_deBruijn64tab {H : Type} : DataW H := .agg [.lit (.int .u8 0), .lit (.int .u8 1), .lit (.int .u8 56), .lit (.int .u8 2), .lit (.int .u8 57), .lit (.int .u8 49), .lit (.int .u8 28), .lit (.int .u8 3), .lit (.int .u8 61), .lit (.int .u8 58), .lit (.int .u8 42), .lit (.int .u8 50), .lit (.int .u8 38), .lit (.int .u8 29), .lit (.int .u8 17), .lit (.int .u8 4), .lit (.int .u8 62), .lit (.int .u8 47), .lit (.int .u8 59), .lit (.int .u8 36), .lit (.int .u8 45), .lit (.int .u8 43), .lit (.int .u8 51), .lit (.int .u8 22), .lit (.int .u8 53), .lit (.int .u8 39), .lit (.int .u8 33), .lit (.int .u8 30), .lit (.int .u8 24), .lit (.int .u8 18), .lit (.int .u8 12), .lit (.int .u8 5), .lit (.int .u8 63), .lit (.int .u8 55), .lit (.int .u8 48), .lit (.int .u8 27), .lit (.int .u8 60), .lit (.int .u8 41), .lit (.int .u8 37), .lit (.int .u8 16), .lit (.int .u8 46), .lit (.int .u8 35), .lit (.int .u8 44), .lit (.int .u8 21), .lit (.int .u8 52), .lit (.int .u8 32), .lit (.int .u8 23), .lit (.int .u8 11), .lit (.int .u8 54), .lit (.int .u8 26), .lit (.int .u8 40), .lit (.int .u8 15), .lit (.int .u8 34), .lit (.int .u8 20), .lit (.int .u8 31), .lit (.int .u8 10), .lit (.int .u8 25), .lit (.int .u8 14), .lit (.int .u8 19), .lit (.int .u8 9), .lit (.int .u8 13), .lit (.int .u8 8), .lit (.int .u8 7), .lit (.int .u8 6)]
def laid_specie_prime_bases {H : Type} : DataW H := .agg [.lit (.int .u64 2), .lit (.int .u64 3), .lit (.int .u64 5), .lit (.int .u64 7), .lit (.int .u64 11), .lit (.int .u64 13), .lit (.int .u64 17), .lit (.int .u64 19), .lit (.int .u64 23), .lit (.int .u64 29), .lit (.int .u64 31), .lit (.int .u64 37)]

/-- 'specielaw13.PolyEvals': WHATEVER THE INPUT: true; the input reads as it did. -/
def polyEvalsSpec : ChangeSpec := { name := "polyEvals", fn := fun _ => fun
  | [d1, d2, d3] => { results := [.lit (.bool true)], args := [d1, d2, d3] }
  | _ => none }
def polyEvalsRow : OpenClaim := { program := "ytinlfogpbologaadoor", sum := "17d3f7eebadc34fad81817e31227ed8387b63ef89c2410a3b04d4f0f2dd98de7", func := "specie/specielaw13.PolyEvals", spec := "polyEvals", unfollowed := true, recurses := true, named := ["specie/prime.bases", "math/bits.deBruijn64tab", "math/bits.divideError", "math/bits.overflowError"], apart := false, laid := [("math/bits.deBruijn64tab", laid_math_bits_deBruijn64tab), ("specie/prime.bases", laid_specie_prime_bases)] }
def PolyEvalsSaid : Prop := polyEvalsRow.holds Tryd.pinned (OpenSpec.ofChange polyEvalsSpec)

/-- ITS FALSE NEIGHBOUR: 'it returns false'. Refute it at one input. -/
def polyEvalsWrong : ChangeSpec := { name := "polyEvals", fn := fun _ => fun
  | [d1, d2, d3] => { results := [.lit (.bool false)], args := [d1, d2, d3] }
  | _ => none }
def PolyEvalsWrongFalsely : Prop := polyEvalsRow.holds Tryd.pinned (OpenSpec.ofChange polyEvalsWrong)

/-- 'specielaw13.PolySums': WHATEVER THE INPUT: true; the input reads as it did. -/
def polySumsSpec : ChangeSpec := { name := "polySums", fn := fun _ => fun
  | [d1, d2, d3] => { results := [.lit (.bool true)], args := [d1, d2, d3] }
  | _ => none }
def polySumsRow : OpenClaim := { program := "ytinlfogpbologaadoor", sum := "17d3f7eebadc34fad81817e31227ed8387b63ef89c2410a3b04d4f0f2dd98de7", func := "specie/specielaw13.PolySums", spec := "polySums", unfollowed := true, recurses := true, named := ["specie/prime.bases", "math/bits.deBruijn64tab", "math/bits.divideError", "math/bits.overflowError"], apart := false, laid := [("math/bits.deBruijn64tab", laid_math_bits_deBruijn64tab), ("specie/prime.bases", laid_specie_prime_bases)] }
def PolySumsSaid : Prop := polySumsRow.holds Tryd.pinned (OpenSpec.ofChange polySumsSpec)

/-- ITS FALSE NEIGHBOUR: 'it returns false'. Refute it at one input. -/
def polySumsWrong : ChangeSpec := { name := "polySums", fn := fun _ => fun
  | [d1, d2, d3] => { results := [.lit (.bool false)], args := [d1, d2, d3] }
  | _ => none }
def PolySumsWrongFalsely : Prop := polySumsRow.holds Tryd.pinned (OpenSpec.ofChange polySumsWrong)

/-- 'specielaw13.PolyValues': WHATEVER THE INPUT: true; the input reads as it did. -/
def polyValuesSpec : ChangeSpec := { name := "polyValues", fn := fun _ => fun
  | [d1, d2, d3, d4] => { results := [.lit (.bool true)], args := [d1, d2, d3, d4] }
  | _ => none }
def polyValuesRow : OpenClaim := { program := "ytinlfogpbologaadoor", sum := "17d3f7eebadc34fad81817e31227ed8387b63ef89c2410a3b04d4f0f2dd98de7", func := "specie/specielaw13.PolyValues", spec := "polyValues", unfollowed := true, recurses := true, named := ["specie/prime.bases", "math/bits.deBruijn64tab", "math/bits.divideError", "math/bits.overflowError"], apart := false, laid := [("math/bits.deBruijn64tab", laid_math_bits_deBruijn64tab), ("specie/prime.bases", laid_specie_prime_bases)] }
def PolyValuesSaid : Prop := polyValuesRow.holds Tryd.pinned (OpenSpec.ofChange polyValuesSpec)

/-- ITS FALSE NEIGHBOUR: 'it returns false'. Refute it at one input. -/
def polyValuesWrong : ChangeSpec := { name := "polyValues", fn := fun _ => fun
  | [d1, d2, d3, d4] => { results := [.lit (.bool false)], args := [d1, d2, d3, d4] }
  | _ => none }
def PolyValuesWrongFalsely : Prop := polyValuesRow.holds Tryd.pinned (OpenSpec.ofChange polyValuesWrong)

/-- 'specielaw14.MatrixSystems': WHATEVER THE INPUT: true; the input reads as it did. -/
def matrixSystemsSpec : ChangeSpec := { name := "matrixSystems", fn := fun _ => fun
  | [d1, d2, d3] => { results := [.lit (.bool true)], args := [d1, d2, d3] }
  | _ => none }
def matrixSystemsRow : OpenClaim := { program := "ytinlfogpbologaadoor", sum := "17d3f7eebadc34fad81817e31227ed8387b63ef89c2410a3b04d4f0f2dd98de7", func := "specie/specielaw14.MatrixSystems", spec := "matrixSystems", unfollowed := true, recurses := true, named := ["specie/prime.bases", "math/bits.deBruijn64tab", "math/bits.divideError", "math/bits.overflowError"], apart := false, laid := [("math/bits.deBruijn64tab", laid_math_bits_deBruijn64tab), ("specie/prime.bases", laid_specie_prime_bases)] }
def MatrixSystemsSaid : Prop := matrixSystemsRow.holds Tryd.pinned (OpenSpec.ofChange matrixSystemsSpec)

/-- ITS FALSE NEIGHBOUR: 'it returns false'. Refute it at one input. -/
def matrixSystemsWrong : ChangeSpec := { name := "matrixSystems", fn := fun _ => fun
  | [d1, d2, d3] => { results := [.lit (.bool false)], args := [d1, d2, d3] }
  | _ => none }
def MatrixSystemsWrongFalsely : Prop := matrixSystemsRow.holds Tryd.pinned (OpenSpec.ofChange matrixSystemsWrong)

/-- 'specielaw14.MatrixInverses': WHATEVER THE INPUT: true; the input reads as it did. -/
def matrixInversesSpec : ChangeSpec := { name := "matrixInverses", fn := fun _ => fun
  | [d1, d2] => { results := [.lit (.bool true)], args := [d1, d2] }
  | _ => none }
def matrixInversesRow : OpenClaim := { program := "ytinlfogpbologaadoor", sum := "17d3f7eebadc34fad81817e31227ed8387b63ef89c2410a3b04d4f0f2dd98de7", func := "specie/specielaw14.MatrixInverses", spec := "matrixInverses", unfollowed := true, recurses := true, named := ["specie/prime.bases", "math/bits.deBruijn64tab", "math/bits.divideError", "math/bits.overflowError"], apart := false, laid := [("math/bits.deBruijn64tab", laid_math_bits_deBruijn64tab), ("specie/prime.bases", laid_specie_prime_bases)] }
def MatrixInversesSaid : Prop := matrixInversesRow.holds Tryd.pinned (OpenSpec.ofChange matrixInversesSpec)

/-- ITS FALSE NEIGHBOUR: 'it returns false'. Refute it at one input. -/
def matrixInversesWrong : ChangeSpec := { name := "matrixInverses", fn := fun _ => fun
  | [d1, d2] => { results := [.lit (.bool false)], args := [d1, d2] }
  | _ => none }
def MatrixInversesWrongFalsely : Prop := matrixInversesRow.holds Tryd.pinned (OpenSpec.ofChange matrixInversesWrong)

/-- 'specielaw14.MatrixCounts': WHATEVER THE INPUT: true; the input reads as it did. -/
def matrixCountsSpec : ChangeSpec := { name := "matrixCounts", fn := fun _ => fun
  | [d1, d2, d3] => { results := [.lit (.bool true)], args := [d1, d2, d3] }
  | _ => none }
def matrixCountsRow : OpenClaim := { program := "ytinlfogpbologaadoor", sum := "17d3f7eebadc34fad81817e31227ed8387b63ef89c2410a3b04d4f0f2dd98de7", func := "specie/specielaw14.MatrixCounts", spec := "matrixCounts", unfollowed := true, recurses := true, named := ["specie/prime.bases", "math/bits.deBruijn64tab", "math/bits.divideError", "math/bits.overflowError"], apart := false, laid := [("math/bits.deBruijn64tab", laid_math_bits_deBruijn64tab), ("specie/prime.bases", laid_specie_prime_bases)] }
def MatrixCountsSaid : Prop := matrixCountsRow.holds Tryd.pinned (OpenSpec.ofChange matrixCountsSpec)

/-- ITS FALSE NEIGHBOUR: 'it returns false'. Refute it at one input. -/
def matrixCountsWrong : ChangeSpec := { name := "matrixCounts", fn := fun _ => fun
  | [d1, d2, d3] => { results := [.lit (.bool false)], args := [d1, d2, d3] }
  | _ => none }
def MatrixCountsWrongFalsely : Prop := matrixCountsRow.holds Tryd.pinned (OpenSpec.ofChange matrixCountsWrong)

/-- 'specielaw14.MatrixProducts': WHATEVER THE INPUT: true; the input reads as it did. -/
def matrixProductsSpec : ChangeSpec := { name := "matrixProducts", fn := fun _ => fun
  | [d1, d2, d3, d4] => { results := [.lit (.bool true)], args := [d1, d2, d3, d4] }
  | _ => none }
def matrixProductsRow : OpenClaim := { program := "ytinlfogpbologaadoor", sum := "17d3f7eebadc34fad81817e31227ed8387b63ef89c2410a3b04d4f0f2dd98de7", func := "specie/specielaw14.MatrixProducts", spec := "matrixProducts", unfollowed := true, recurses := true, named := ["specie/prime.bases", "math/bits.deBruijn64tab", "math/bits.divideError", "math/bits.overflowError"], apart := false, laid := [("math/bits.deBruijn64tab", laid_math_bits_deBruijn64tab), ("specie/prime.bases", laid_specie_prime_bases)] }
def MatrixProductsSaid : Prop := matrixProductsRow.holds Tryd.pinned (OpenSpec.ofChange matrixProductsSpec)

/-- ITS FALSE NEIGHBOUR: 'it returns false'. Refute it at one input. -/
def matrixProductsWrong : ChangeSpec := { name := "matrixProducts", fn := fun _ => fun
  | [d1, d2, d3, d4] => { results := [.lit (.bool false)], args := [d1, d2, d3, d4] }
  | _ => none }
def MatrixProductsWrongFalsely : Prop := matrixProductsRow.holds Tryd.pinned (OpenSpec.ofChange matrixProductsWrong)

/-- 'specielaw05.PrimeFactors': WHATEVER THE INPUT: true; the input reads as it did. -/
def primeFactorsSpec : ChangeSpec := { name := "primeFactors", fn := fun _ => fun
  | [d] => { results := [.lit (.bool true)], args := [d] }
  | _ => none }
def primeFactorsRow : OpenClaim := { program := "ytinlfogpbologaadoor", sum := "17d3f7eebadc34fad81817e31227ed8387b63ef89c2410a3b04d4f0f2dd98de7", func := "specie/specielaw05.PrimeFactors", spec := "primeFactors", unfollowed := true, recurses := true, named := ["specie/prime.bases", "math/bits.deBruijn64tab", "math/bits.divideError", "math/bits.overflowError"], apart := false, laid := [("math/bits.deBruijn64tab", laid_math_bits_deBruijn64tab), ("specie/prime.bases", laid_specie_prime_bases)] }
def PrimeFactorsSaid : Prop := primeFactorsRow.holds Tryd.pinned (OpenSpec.ofChange primeFactorsSpec)

/-- ITS FALSE NEIGHBOUR: 'it returns false'. Refute it at one input. -/
def primeFactorsWrong : ChangeSpec := { name := "primeFactors", fn := fun _ => fun
  | [d] => { results := [.lit (.bool false)], args := [d] }
  | _ => none }
def PrimeFactorsWrongFalsely : Prop := primeFactorsRow.holds Tryd.pinned (OpenSpec.ofChange primeFactorsWrong)

/-- 'specielaw05.PrimeRoots': WHATEVER THE INPUT: true; the input reads as it did. -/
def primeRootsSpec : ChangeSpec := { name := "primeRoots", fn := fun _ => fun
  | [d] => { results := [.lit (.bool true)], args := [d] }
  | _ => none }
def primeRootsRow : OpenClaim := { program := "ytinlfogpbologaadoor", sum := "17d3f7eebadc34fad81817e31227ed8387b63ef89c2410a3b04d4f0f2dd98de7", func := "specie/specielaw05.PrimeRoots", spec := "primeRoots", unfollowed := true, recurses := true, named := ["specie/prime.bases", "math/bits.deBruijn64tab", "math/bits.divideError", "math/bits.overflowError"], apart := false, laid := [("math/bits.deBruijn64tab", laid_math_bits_deBruijn64tab), ("specie/prime.bases", laid_specie_prime_bases)] }
def PrimeRootsSaid : Prop := primeRootsRow.holds Tryd.pinned (OpenSpec.ofChange primeRootsSpec)

/-- ITS FALSE NEIGHBOUR: 'it returns false'. Refute it at one input. -/
def primeRootsWrong : ChangeSpec := { name := "primeRoots", fn := fun _ => fun
  | [d] => { results := [.lit (.bool false)], args := [d] }
  | _ => none }
def PrimeRootsWrongFalsely : Prop := primeRootsRow.holds Tryd.pinned (OpenSpec.ofChange primeRootsWrong)

/-- 'specielaw05.PrimeTests': WHATEVER THE INPUT: true; the input reads as it did. -/
def primeTestsSpec : ChangeSpec := { name := "primeTests", fn := fun _ => fun
  | [d] => { results := [.lit (.bool true)], args := [d] }
  | _ => none }
def primeTestsRow : OpenClaim := { program := "ytinlfogpbologaadoor", sum := "17d3f7eebadc34fad81817e31227ed8387b63ef89c2410a3b04d4f0f2dd98de7", func := "specie/specielaw05.PrimeTests", spec := "primeTests", unfollowed := true, recurses := true, named := ["specie/prime.bases", "math/bits.deBruijn64tab", "math/bits.divideError", "math/bits.overflowError"], apart := false, laid := [("math/bits.deBruijn64tab", laid_math_bits_deBruijn64tab), ("specie/prime.bases", laid_specie_prime_bases)] }
def PrimeTestsSaid : Prop := primeTestsRow.holds Tryd.pinned (OpenSpec.ofChange primeTestsSpec)

/-- ITS FALSE NEIGHBOUR: 'it returns false'. Refute it at one input. -/
def primeTestsWrong : ChangeSpec := { name := "primeTests", fn := fun _ => fun
  | [d] => { results := [.lit (.bool false)], args := [d] }
  | _ => none }
def PrimeTestsWrongFalsely : Prop := primeTestsRow.holds Tryd.pinned (OpenSpec.ofChange primeTestsWrong)

/-- 'specielaw05.PrimeDivides': WHATEVER THE INPUT: true; the input reads as it did. -/
def primeDividesSpec : ChangeSpec := { name := "primeDivides", fn := fun _ => fun
  | [d] => { results := [.lit (.bool true)], args := [d] }
  | _ => none }
def primeDividesRow : OpenClaim := { program := "ytinlfogpbologaadoor", sum := "17d3f7eebadc34fad81817e31227ed8387b63ef89c2410a3b04d4f0f2dd98de7", func := "specie/specielaw05.PrimeDivides", spec := "primeDivides", unfollowed := true, recurses := true, named := ["specie/prime.bases", "math/bits.deBruijn64tab", "math/bits.divideError", "math/bits.overflowError"], apart := false, laid := [("math/bits.deBruijn64tab", laid_math_bits_deBruijn64tab), ("specie/prime.bases", laid_specie_prime_bases)] }
def PrimeDividesSaid : Prop := primeDividesRow.holds Tryd.pinned (OpenSpec.ofChange primeDividesSpec)

/-- ITS FALSE NEIGHBOUR: 'it returns false'. Refute it at one input. -/
def primeDividesWrong : ChangeSpec := { name := "primeDivides", fn := fun _ => fun
  | [d] => { results := [.lit (.bool false)], args := [d] }
  | _ => none }
def PrimeDividesWrongFalsely : Prop := primeDividesRow.holds Tryd.pinned (OpenSpec.ofChange primeDividesWrong)

/-- 'specielaw05.PrimeOrders': WHATEVER THE INPUT: true; the input reads as it did. -/
def primeOrdersSpec : ChangeSpec := { name := "primeOrders", fn := fun _ => fun
  | [d] => { results := [.lit (.bool true)], args := [d] }
  | _ => none }
def primeOrdersRow : OpenClaim := { program := "ytinlfogpbologaadoor", sum := "17d3f7eebadc34fad81817e31227ed8387b63ef89c2410a3b04d4f0f2dd98de7", func := "specie/specielaw05.PrimeOrders", spec := "primeOrders", unfollowed := true, recurses := true, named := ["specie/prime.bases", "math/bits.deBruijn64tab", "math/bits.divideError", "math/bits.overflowError"], apart := false, laid := [("math/bits.deBruijn64tab", laid_math_bits_deBruijn64tab), ("specie/prime.bases", laid_specie_prime_bases)] }
def PrimeOrdersSaid : Prop := primeOrdersRow.holds Tryd.pinned (OpenSpec.ofChange primeOrdersSpec)

/-- ITS FALSE NEIGHBOUR: 'it returns false'. Refute it at one input. -/
def primeOrdersWrong : ChangeSpec := { name := "primeOrders", fn := fun _ => fun
  | [d] => { results := [.lit (.bool false)], args := [d] }
  | _ => none }
def PrimeOrdersWrongFalsely : Prop := primeOrdersRow.holds Tryd.pinned (OpenSpec.ofChange primeOrdersWrong)

/- THE SECOND FORM. 'bulk': how many values and letters a reading holds, each counted each time it is reached (what is shared counts as often as it is met; a slice's spare places count too). A statement '..UptoSaid' is the law's where the arguments, and the package variables that the reading takes, are together of bulk at most 1048576: NARROWER than '..Said'. Prove '..Said' where nothing that the law and all that it calls make is longer than what came in: it says more and counts as full. Else prove '..UptoSaid'. A law counts once. -/
mutual
def uptoBulk {H : Type} : DataW H → Nat
  | .lit (.string bytes) => bytes.length + 1
  | .lit _ => 1
  | .nil => 1
  | .ptr d => uptoBulk d + 1
  | .slice elems spare => uptoBulkAll elems + uptoBulkAll spare + 1
  | .agg parts => uptoBulkAll parts + 1
  | .iface _ d => uptoBulk d + 1
  | .map entries => uptoBulkEntries entries + 1
  | .held _ => 1
def uptoBulkAll {H : Type} : List (DataW H) → Nat
  | [] => 0
  | d :: r => uptoBulk d + uptoBulkAll r
def uptoBulkEntries {H : Type} : List (Lit × DataW H) → Nat
  | [] => 0
  | x :: r => uptoBulkEntry x + uptoBulkEntries r
def uptoBulkEntry {H : Type} : Lit × DataW H → Nat
  | (.string bytes, d) => bytes.length + uptoBulk d + 1
  | (_, d) => uptoBulk d + 1
 end
def uptoSmall : (H : Type) → List (DataW H) → Bool := fun _ ds => decide (uptoBulkAll ds ≤ 1048576)
def OpenSpec.upto (s : _root_.Go.ChangeSpec) : _root_.Go.OpenSpec := { _root_.Go.OpenSpec.ofChange s with cond := some uptoSmall }

/-- 'specielaw13.PolyEvals', WHERE WHAT IT READS IS OF BULK AT MOST 1048576: true; the input reads as it did. -/
def polyEvalsUptoRow : OpenClaim := { program := "ytinlfogpbologaadoor", sum := "17d3f7eebadc34fad81817e31227ed8387b63ef89c2410a3b04d4f0f2dd98de7", func := "specie/specielaw13.PolyEvals", spec := "polyEvals", unfollowed := true, recurses := true, named := ["specie/prime.bases", "math/bits.deBruijn64tab", "math/bits.divideError", "math/bits.overflowError"], apart := false, laid := [("math/bits.deBruijn64tab", laid_math_bits_deBruijn64tab), ("specie/prime.bases", laid_specie_prime_bases)], narrowed := true }
def PolyEvalsUptoSaid : Prop := polyEvalsUptoRow.holds Tryd.pinned (OpenSpec.upto polyEvalsSpec)

/-- 'specielaw13.PolySums', WHERE WHAT IT READS IS OF BULK AT MOST 1048576: true; the input reads as it did. -/
def polySumsUptoRow : OpenClaim := { program := "ytinlfogpbologaadoor", sum := "17d3f7eebadc34fad81817e31227ed8387b63ef89c2410a3b04d4f0f2dd98de7", func := "specie/specielaw13.PolySums", spec := "polySums", unfollowed := true, recurses := true, named := ["specie/prime.bases", "math/bits.deBruijn64tab", "math/bits.divideError", "math/bits.overflowError"], apart := false, laid := [("math/bits.deBruijn64tab", laid_math_bits_deBruijn64tab), ("specie/prime.bases", laid_specie_prime_bases)], narrowed := true }
def PolySumsUptoSaid : Prop := polySumsUptoRow.holds Tryd.pinned (OpenSpec.upto polySumsSpec)

/-- 'specielaw13.PolyValues', WHERE WHAT IT READS IS OF BULK AT MOST 1048576: true; the input reads as it did. -/
def polyValuesUptoRow : OpenClaim := { program := "ytinlfogpbologaadoor", sum := "17d3f7eebadc34fad81817e31227ed8387b63ef89c2410a3b04d4f0f2dd98de7", func := "specie/specielaw13.PolyValues", spec := "polyValues", unfollowed := true, recurses := true, named := ["specie/prime.bases", "math/bits.deBruijn64tab", "math/bits.divideError", "math/bits.overflowError"], apart := false, laid := [("math/bits.deBruijn64tab", laid_math_bits_deBruijn64tab), ("specie/prime.bases", laid_specie_prime_bases)], narrowed := true }
def PolyValuesUptoSaid : Prop := polyValuesUptoRow.holds Tryd.pinned (OpenSpec.upto polyValuesSpec)

/-- 'specielaw14.MatrixSystems', WHERE WHAT IT READS IS OF BULK AT MOST 1048576: true; the input reads as it did. -/
def matrixSystemsUptoRow : OpenClaim := { program := "ytinlfogpbologaadoor", sum := "17d3f7eebadc34fad81817e31227ed8387b63ef89c2410a3b04d4f0f2dd98de7", func := "specie/specielaw14.MatrixSystems", spec := "matrixSystems", unfollowed := true, recurses := true, named := ["specie/prime.bases", "math/bits.deBruijn64tab", "math/bits.divideError", "math/bits.overflowError"], apart := false, laid := [("math/bits.deBruijn64tab", laid_math_bits_deBruijn64tab), ("specie/prime.bases", laid_specie_prime_bases)], narrowed := true }
def MatrixSystemsUptoSaid : Prop := matrixSystemsUptoRow.holds Tryd.pinned (OpenSpec.upto matrixSystemsSpec)

/-- 'specielaw14.MatrixInverses', WHERE WHAT IT READS IS OF BULK AT MOST 1048576: true; the input reads as it did. -/
def matrixInversesUptoRow : OpenClaim := { program := "ytinlfogpbologaadoor", sum := "17d3f7eebadc34fad81817e31227ed8387b63ef89c2410a3b04d4f0f2dd98de7", func := "specie/specielaw14.MatrixInverses", spec := "matrixInverses", unfollowed := true, recurses := true, named := ["specie/prime.bases", "math/bits.deBruijn64tab", "math/bits.divideError", "math/bits.overflowError"], apart := false, laid := [("math/bits.deBruijn64tab", laid_math_bits_deBruijn64tab), ("specie/prime.bases", laid_specie_prime_bases)], narrowed := true }
def MatrixInversesUptoSaid : Prop := matrixInversesUptoRow.holds Tryd.pinned (OpenSpec.upto matrixInversesSpec)

/-- 'specielaw14.MatrixCounts', WHERE WHAT IT READS IS OF BULK AT MOST 1048576: true; the input reads as it did. -/
def matrixCountsUptoRow : OpenClaim := { program := "ytinlfogpbologaadoor", sum := "17d3f7eebadc34fad81817e31227ed8387b63ef89c2410a3b04d4f0f2dd98de7", func := "specie/specielaw14.MatrixCounts", spec := "matrixCounts", unfollowed := true, recurses := true, named := ["specie/prime.bases", "math/bits.deBruijn64tab", "math/bits.divideError", "math/bits.overflowError"], apart := false, laid := [("math/bits.deBruijn64tab", laid_math_bits_deBruijn64tab), ("specie/prime.bases", laid_specie_prime_bases)], narrowed := true }
def MatrixCountsUptoSaid : Prop := matrixCountsUptoRow.holds Tryd.pinned (OpenSpec.upto matrixCountsSpec)

/-- 'specielaw14.MatrixProducts', WHERE WHAT IT READS IS OF BULK AT MOST 1048576: true; the input reads as it did. -/
def matrixProductsUptoRow : OpenClaim := { program := "ytinlfogpbologaadoor", sum := "17d3f7eebadc34fad81817e31227ed8387b63ef89c2410a3b04d4f0f2dd98de7", func := "specie/specielaw14.MatrixProducts", spec := "matrixProducts", unfollowed := true, recurses := true, named := ["specie/prime.bases", "math/bits.deBruijn64tab", "math/bits.divideError", "math/bits.overflowError"], apart := false, laid := [("math/bits.deBruijn64tab", laid_math_bits_deBruijn64tab), ("specie/prime.bases", laid_specie_prime_bases)], narrowed := true }
def MatrixProductsUptoSaid : Prop := matrixProductsUptoRow.holds Tryd.pinned (OpenSpec.upto matrixProductsSpec)

/-- 'specielaw05.PrimeFactors', WHERE WHAT IT READS IS OF BULK AT MOST 1048576: true; the input reads as it did. -/
def primeFactorsUptoRow : OpenClaim := { program := "ytinlfogpbologaadoor", sum := "17d3f7eebadc34fad81817e31227ed8387b63ef89c2410a3b04d4f0f2dd98de7", func := "specie/specielaw05.PrimeFactors", spec := "primeFactors", unfollowed := true, recurses := true, named := ["specie/prime.bases", "math/bits.deBruijn64tab", "math/bits.divideError", "math/bits.overflowError"], apart := false, laid := [("math/bits.deBruijn64tab", laid_math_bits_deBruijn64tab), ("specie/prime.bases", laid_specie_prime_bases)], narrowed := true }
def PrimeFactorsUptoSaid : Prop := primeFactorsUptoRow.holds Tryd.pinned (OpenSpec.upto primeFactorsSpec)

/-- 'specielaw05.PrimeRoots', WHERE WHAT IT READS IS OF BULK AT MOST 1048576: true; the input reads as it did. -/
def primeRootsUptoRow : OpenClaim := { program := "ytinlfogpbologaadoor", sum := "17d3f7eebadc34fad81817e31227ed8387b63ef89c2410a3b04d4f0f2dd98de7", func := "specie/specielaw05.PrimeRoots", spec := "primeRoots", unfollowed := true, recurses := true, named := ["specie/prime.bases", "math/bits.deBruijn64tab", "math/bits.divideError", "math/bits.overflowError"], apart := false, laid := [("math/bits.deBruijn64tab", laid_math_bits_deBruijn64tab), ("specie/prime.bases", laid_specie_prime_bases)], narrowed := true }
def PrimeRootsUptoSaid : Prop := primeRootsUptoRow.holds Tryd.pinned (OpenSpec.upto primeRootsSpec)

/-- 'specielaw05.PrimeTests', WHERE WHAT IT READS IS OF BULK AT MOST 1048576: true; the input reads as it did. -/
def primeTestsUptoRow : OpenClaim := { program := "ytinlfogpbologaadoor", sum := "17d3f7eebadc34fad81817e31227ed8387b63ef89c2410a3b04d4f0f2dd98de7", func := "specie/specielaw05.PrimeTests", spec := "primeTests", unfollowed := true, recurses := true, named := ["specie/prime.bases", "math/bits.deBruijn64tab", "math/bits.divideError", "math/bits.overflowError"], apart := false, laid := [("math/bits.deBruijn64tab", laid_math_bits_deBruijn64tab), ("specie/prime.bases", laid_specie_prime_bases)], narrowed := true }
def PrimeTestsUptoSaid : Prop := primeTestsUptoRow.holds Tryd.pinned (OpenSpec.upto primeTestsSpec)

/-- 'specielaw05.PrimeDivides', WHERE WHAT IT READS IS OF BULK AT MOST 1048576: true; the input reads as it did. -/
def primeDividesUptoRow : OpenClaim := { program := "ytinlfogpbologaadoor", sum := "17d3f7eebadc34fad81817e31227ed8387b63ef89c2410a3b04d4f0f2dd98de7", func := "specie/specielaw05.PrimeDivides", spec := "primeDivides", unfollowed := true, recurses := true, named := ["specie/prime.bases", "math/bits.deBruijn64tab", "math/bits.divideError", "math/bits.overflowError"], apart := false, laid := [("math/bits.deBruijn64tab", laid_math_bits_deBruijn64tab), ("specie/prime.bases", laid_specie_prime_bases)], narrowed := true }
def PrimeDividesUptoSaid : Prop := primeDividesUptoRow.holds Tryd.pinned (OpenSpec.upto primeDividesSpec)

/-- 'specielaw05.PrimeOrders', WHERE WHAT IT READS IS OF BULK AT MOST 1048576: true; the input reads as it did. -/
def primeOrdersUptoRow : OpenClaim := { program := "ytinlfogpbologaadoor", sum := "17d3f7eebadc34fad81817e31227ed8387b63ef89c2410a3b04d4f0f2dd98de7", func := "specie/specielaw05.PrimeOrders", spec := "primeOrders", unfollowed := true, recurses := true, named := ["specie/prime.bases", "math/bits.deBruijn64tab", "math/bits.divideError", "math/bits.overflowError"], apart := false, laid := [("math/bits.deBruijn64tab", laid_math_bits_deBruijn64tab), ("specie/prime.bases", laid_specie_prime_bases)], narrowed := true }
def PrimeOrdersUptoSaid : Prop := primeOrdersUptoRow.holds Tryd.pinned (OpenSpec.upto primeOrdersSpec)

end Rows
end Go.Proofs.YtinlfogpbologaaDoor
