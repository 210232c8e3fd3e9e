/-
  DERIVED. GIVEN WITH THE SEED: THE CARDS: each row of YtinlfogpbologaaDoorRows.lean that lists a variable, with what it lists TIED to the program's text (the seventh form; the later family's looks); each row that meets fmt, with fmt's text TOLD by the authors' own Lean function (tested against real Go, not proved from fmt's source: count such statements apart). THE CARD IS WHAT COUNTS. Prove the row's statement (the work); the ties are given (YtinlfogpbologaaDoorTie.lean); close each card by the builder's one call (the guide's Derived/Test/ToyasCard.lean, 'card_holds'). Laid BY PROGRAM, IN A SANDBOX (cutbox-door.mjs). By AI agents, Wed Nov 11 2026. No macro, syntax, notation, axiom, sorry.
-/
import Derived.Test.YtinlfogpbologaaDoorRows
import GoSem.ClaimSeven
namespace Go.Proofs.YtinlfogpbologaaDoor
namespace Rows

/-- THE TIED CARD OF 'specielaw13.PolyEvals'. -/
def polyEvalsCard : Claim7 := { stood := { row := polyEvalsRow, standIns := [], harness := (true, "f9c8044ded96330928ac01d223142a2c16f3bbd2f10814d766471dd274912f29"), looks := false }, kinds := [], alts := [], laidByText := true, laidKinds := [.data, .data], laidTests := true, laidLooks := .later }
def PolyEvalsCardSaid : Prop := Claim7.holds Tryd.pinned (.plain (OpenSpec.ofChange polyEvalsSpec)) polyEvalsCard

/-- THE TIED CARD OF 'specielaw13.PolySums'. -/
def polySumsCard : Claim7 := { stood := { row := polySumsRow, standIns := [], harness := (true, "f9c8044ded96330928ac01d223142a2c16f3bbd2f10814d766471dd274912f29"), looks := false }, kinds := [], alts := [], laidByText := true, laidKinds := [.data, .data], laidTests := true, laidLooks := .later }
def PolySumsCardSaid : Prop := Claim7.holds Tryd.pinned (.plain (OpenSpec.ofChange polySumsSpec)) polySumsCard

/-- THE TIED CARD OF 'specielaw13.PolyValues'. -/
def polyValuesCard : Claim7 := { stood := { row := polyValuesRow, standIns := [], harness := (true, "f9c8044ded96330928ac01d223142a2c16f3bbd2f10814d766471dd274912f29"), looks := false }, kinds := [], alts := [], laidByText := true, laidKinds := [.data, .data], laidTests := true, laidLooks := .later }
def PolyValuesCardSaid : Prop := Claim7.holds Tryd.pinned (.plain (OpenSpec.ofChange polyValuesSpec)) polyValuesCard

/-- THE TIED CARD OF 'specielaw14.MatrixSystems'. -/
def matrixSystemsCard : Claim7 := { stood := { row := matrixSystemsRow, standIns := [], harness := (true, "f9c8044ded96330928ac01d223142a2c16f3bbd2f10814d766471dd274912f29"), looks := false }, kinds := [], alts := [], laidByText := true, laidKinds := [.data, .data], laidTests := true, laidLooks := .later }
def MatrixSystemsCardSaid : Prop := Claim7.holds Tryd.pinned (.plain (OpenSpec.ofChange matrixSystemsSpec)) matrixSystemsCard

/-- THE TIED CARD OF 'specielaw14.MatrixInverses'. -/
def matrixInversesCard : Claim7 := { stood := { row := matrixInversesRow, standIns := [], harness := (true, "f9c8044ded96330928ac01d223142a2c16f3bbd2f10814d766471dd274912f29"), looks := false }, kinds := [], alts := [], laidByText := true, laidKinds := [.data, .data], laidTests := true, laidLooks := .later }
def MatrixInversesCardSaid : Prop := Claim7.holds Tryd.pinned (.plain (OpenSpec.ofChange matrixInversesSpec)) matrixInversesCard

/-- THE TIED CARD OF 'specielaw14.MatrixCounts'. -/
def matrixCountsCard : Claim7 := { stood := { row := matrixCountsRow, standIns := [], harness := (true, "f9c8044ded96330928ac01d223142a2c16f3bbd2f10814d766471dd274912f29"), looks := false }, kinds := [], alts := [], laidByText := true, laidKinds := [.data, .data], laidTests := true, laidLooks := .later }
def MatrixCountsCardSaid : Prop := Claim7.holds Tryd.pinned (.plain (OpenSpec.ofChange matrixCountsSpec)) matrixCountsCard

/-- THE TIED CARD OF 'specielaw14.MatrixProducts'. -/
def matrixProductsCard : Claim7 := { stood := { row := matrixProductsRow, standIns := [], harness := (true, "f9c8044ded96330928ac01d223142a2c16f3bbd2f10814d766471dd274912f29"), looks := false }, kinds := [], alts := [], laidByText := true, laidKinds := [.data, .data], laidTests := true, laidLooks := .later }
def MatrixProductsCardSaid : Prop := Claim7.holds Tryd.pinned (.plain (OpenSpec.ofChange matrixProductsSpec)) matrixProductsCard

/-- THE TIED CARD OF 'specielaw05.PrimeFactors'. -/
def primeFactorsCard : Claim7 := { stood := { row := primeFactorsRow, standIns := [], harness := (true, "f9c8044ded96330928ac01d223142a2c16f3bbd2f10814d766471dd274912f29"), looks := false }, kinds := [], alts := [], laidByText := true, laidKinds := [.data, .data], laidTests := true, laidLooks := .later }
def PrimeFactorsCardSaid : Prop := Claim7.holds Tryd.pinned (.plain (OpenSpec.ofChange primeFactorsSpec)) primeFactorsCard

/-- THE TIED CARD OF 'specielaw05.PrimeRoots'. -/
def primeRootsCard : Claim7 := { stood := { row := primeRootsRow, standIns := [], harness := (true, "f9c8044ded96330928ac01d223142a2c16f3bbd2f10814d766471dd274912f29"), looks := false }, kinds := [], alts := [], laidByText := true, laidKinds := [.data, .data], laidTests := true, laidLooks := .later }
def PrimeRootsCardSaid : Prop := Claim7.holds Tryd.pinned (.plain (OpenSpec.ofChange primeRootsSpec)) primeRootsCard

/-- THE TIED CARD OF 'specielaw05.PrimeTests'. -/
def primeTestsCard : Claim7 := { stood := { row := primeTestsRow, standIns := [], harness := (true, "f9c8044ded96330928ac01d223142a2c16f3bbd2f10814d766471dd274912f29"), looks := false }, kinds := [], alts := [], laidByText := true, laidKinds := [.data, .data], laidTests := true, laidLooks := .later }
def PrimeTestsCardSaid : Prop := Claim7.holds Tryd.pinned (.plain (OpenSpec.ofChange primeTestsSpec)) primeTestsCard

/-- THE TIED CARD OF 'specielaw05.PrimeDivides'. -/
def primeDividesCard : Claim7 := { stood := { row := primeDividesRow, standIns := [], harness := (true, "f9c8044ded96330928ac01d223142a2c16f3bbd2f10814d766471dd274912f29"), looks := false }, kinds := [], alts := [], laidByText := true, laidKinds := [.data, .data], laidTests := true, laidLooks := .later }
def PrimeDividesCardSaid : Prop := Claim7.holds Tryd.pinned (.plain (OpenSpec.ofChange primeDividesSpec)) primeDividesCard

/-- THE TIED CARD OF 'specielaw05.PrimeOrders'. -/
def primeOrdersCard : Claim7 := { stood := { row := primeOrdersRow, standIns := [], harness := (true, "f9c8044ded96330928ac01d223142a2c16f3bbd2f10814d766471dd274912f29"), looks := false }, kinds := [], alts := [], laidByText := true, laidKinds := [.data, .data], laidTests := true, laidLooks := .later }
def PrimeOrdersCardSaid : Prop := Claim7.holds Tryd.pinned (.plain (OpenSpec.ofChange primeOrdersSpec)) primeOrdersCard

/-- THE SECOND FORM's CARD OF 'specielaw13.PolyEvals'. -/
def polyEvalsUptoCard : Claim7 := { stood := { row := polyEvalsUptoRow, standIns := [], harness := (true, "f9c8044ded96330928ac01d223142a2c16f3bbd2f10814d766471dd274912f29"), looks := false }, kinds := [], alts := [], laidByText := true, laidKinds := [.data, .data], laidTests := true, laidLooks := .later }
def PolyEvalsUptoCardSaid : Prop := Claim7.holds Tryd.pinned (.plain (OpenSpec.upto polyEvalsSpec)) polyEvalsUptoCard

/-- THE SECOND FORM's CARD OF 'specielaw13.PolySums'. -/
def polySumsUptoCard : Claim7 := { stood := { row := polySumsUptoRow, standIns := [], harness := (true, "f9c8044ded96330928ac01d223142a2c16f3bbd2f10814d766471dd274912f29"), looks := false }, kinds := [], alts := [], laidByText := true, laidKinds := [.data, .data], laidTests := true, laidLooks := .later }
def PolySumsUptoCardSaid : Prop := Claim7.holds Tryd.pinned (.plain (OpenSpec.upto polySumsSpec)) polySumsUptoCard

/-- THE SECOND FORM's CARD OF 'specielaw13.PolyValues'. -/
def polyValuesUptoCard : Claim7 := { stood := { row := polyValuesUptoRow, standIns := [], harness := (true, "f9c8044ded96330928ac01d223142a2c16f3bbd2f10814d766471dd274912f29"), looks := false }, kinds := [], alts := [], laidByText := true, laidKinds := [.data, .data], laidTests := true, laidLooks := .later }
def PolyValuesUptoCardSaid : Prop := Claim7.holds Tryd.pinned (.plain (OpenSpec.upto polyValuesSpec)) polyValuesUptoCard

/-- THE SECOND FORM's CARD OF 'specielaw14.MatrixSystems'. -/
def matrixSystemsUptoCard : Claim7 := { stood := { row := matrixSystemsUptoRow, standIns := [], harness := (true, "f9c8044ded96330928ac01d223142a2c16f3bbd2f10814d766471dd274912f29"), looks := false }, kinds := [], alts := [], laidByText := true, laidKinds := [.data, .data], laidTests := true, laidLooks := .later }
def MatrixSystemsUptoCardSaid : Prop := Claim7.holds Tryd.pinned (.plain (OpenSpec.upto matrixSystemsSpec)) matrixSystemsUptoCard

/-- THE SECOND FORM's CARD OF 'specielaw14.MatrixInverses'. -/
def matrixInversesUptoCard : Claim7 := { stood := { row := matrixInversesUptoRow, standIns := [], harness := (true, "f9c8044ded96330928ac01d223142a2c16f3bbd2f10814d766471dd274912f29"), looks := false }, kinds := [], alts := [], laidByText := true, laidKinds := [.data, .data], laidTests := true, laidLooks := .later }
def MatrixInversesUptoCardSaid : Prop := Claim7.holds Tryd.pinned (.plain (OpenSpec.upto matrixInversesSpec)) matrixInversesUptoCard

/-- THE SECOND FORM's CARD OF 'specielaw14.MatrixCounts'. -/
def matrixCountsUptoCard : Claim7 := { stood := { row := matrixCountsUptoRow, standIns := [], harness := (true, "f9c8044ded96330928ac01d223142a2c16f3bbd2f10814d766471dd274912f29"), looks := false }, kinds := [], alts := [], laidByText := true, laidKinds := [.data, .data], laidTests := true, laidLooks := .later }
def MatrixCountsUptoCardSaid : Prop := Claim7.holds Tryd.pinned (.plain (OpenSpec.upto matrixCountsSpec)) matrixCountsUptoCard

/-- THE SECOND FORM's CARD OF 'specielaw14.MatrixProducts'. -/
def matrixProductsUptoCard : Claim7 := { stood := { row := matrixProductsUptoRow, standIns := [], harness := (true, "f9c8044ded96330928ac01d223142a2c16f3bbd2f10814d766471dd274912f29"), looks := false }, kinds := [], alts := [], laidByText := true, laidKinds := [.data, .data], laidTests := true, laidLooks := .later }
def MatrixProductsUptoCardSaid : Prop := Claim7.holds Tryd.pinned (.plain (OpenSpec.upto matrixProductsSpec)) matrixProductsUptoCard

/-- THE SECOND FORM's CARD OF 'specielaw05.PrimeFactors'. -/
def primeFactorsUptoCard : Claim7 := { stood := { row := primeFactorsUptoRow, standIns := [], harness := (true, "f9c8044ded96330928ac01d223142a2c16f3bbd2f10814d766471dd274912f29"), looks := false }, kinds := [], alts := [], laidByText := true, laidKinds := [.data, .data], laidTests := true, laidLooks := .later }
def PrimeFactorsUptoCardSaid : Prop := Claim7.holds Tryd.pinned (.plain (OpenSpec.upto primeFactorsSpec)) primeFactorsUptoCard

/-- THE SECOND FORM's CARD OF 'specielaw05.PrimeRoots'. -/
def primeRootsUptoCard : Claim7 := { stood := { row := primeRootsUptoRow, standIns := [], harness := (true, "f9c8044ded96330928ac01d223142a2c16f3bbd2f10814d766471dd274912f29"), looks := false }, kinds := [], alts := [], laidByText := true, laidKinds := [.data, .data], laidTests := true, laidLooks := .later }
def PrimeRootsUptoCardSaid : Prop := Claim7.holds Tryd.pinned (.plain (OpenSpec.upto primeRootsSpec)) primeRootsUptoCard

/-- THE SECOND FORM's CARD OF 'specielaw05.PrimeTests'. -/
def primeTestsUptoCard : Claim7 := { stood := { row := primeTestsUptoRow, standIns := [], harness := (true, "f9c8044ded96330928ac01d223142a2c16f3bbd2f10814d766471dd274912f29"), looks := false }, kinds := [], alts := [], laidByText := true, laidKinds := [.data, .data], laidTests := true, laidLooks := .later }
def PrimeTestsUptoCardSaid : Prop := Claim7.holds Tryd.pinned (.plain (OpenSpec.upto primeTestsSpec)) primeTestsUptoCard

/-- THE SECOND FORM's CARD OF 'specielaw05.PrimeDivides'. -/
def primeDividesUptoCard : Claim7 := { stood := { row := primeDividesUptoRow, standIns := [], harness := (true, "f9c8044ded96330928ac01d223142a2c16f3bbd2f10814d766471dd274912f29"), looks := false }, kinds := [], alts := [], laidByText := true, laidKinds := [.data, .data], laidTests := true, laidLooks := .later }
def PrimeDividesUptoCardSaid : Prop := Claim7.holds Tryd.pinned (.plain (OpenSpec.upto primeDividesSpec)) primeDividesUptoCard

/-- THE SECOND FORM's CARD OF 'specielaw05.PrimeOrders'. -/
def primeOrdersUptoCard : Claim7 := { stood := { row := primeOrdersUptoRow, standIns := [], harness := (true, "f9c8044ded96330928ac01d223142a2c16f3bbd2f10814d766471dd274912f29"), looks := false }, kinds := [], alts := [], laidByText := true, laidKinds := [.data, .data], laidTests := true, laidLooks := .later }
def PrimeOrdersUptoCardSaid : Prop := Claim7.holds Tryd.pinned (.plain (OpenSpec.upto primeOrdersSpec)) primeOrdersUptoCard
end Rows
end Go.Proofs.YtinlfogpbologaaDoor
