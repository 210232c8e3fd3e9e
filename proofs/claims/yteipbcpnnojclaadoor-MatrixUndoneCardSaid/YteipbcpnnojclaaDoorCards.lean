/-
  DERIVED. GIVEN WITH THE SEED: THE CARDS: each row of YteipbcpnnojclaaDoorRows.lean that lists a variable, with what it lists TIED to the program's text (the seventh form; the later family's looks); each row that meets fmt, with fmt's text TOLD by the authors' own Lean function (tested against real Go, not proved from fmt's source: count such statements apart). THE CARD IS WHAT COUNTS. Prove the row's statement (the work); the ties are given (YteipbcpnnojclaaDoorTie.lean); close each card by the builder's one call (the guide's Derived/Test/ToyasCard.lean, 'card_holds'). Laid BY PROGRAM, IN A SANDBOX (cutbox-door.mjs). By AI agents, Wed Nov 11 2026. No macro, syntax, notation, axiom, sorry.
-/
import Derived.Test.YteipbcpnnojclaaDoorRows
import GoSem.ClaimSeven
namespace Go.Proofs.YteipbcpnnojclaaDoor
namespace Rows

/-- THE TIED CARD OF 'specielaw13.PolyInterpolates'. -/
def polyInterpolatesCard : Claim7 := { stood := { row := polyInterpolatesRow, standIns := [], harness := (true, "5ed4624df775dcf3ea195385cd032f406ffde84d5e51a4e14990e477967ce614"), looks := false }, kinds := [], alts := [], laidByText := true, laidKinds := [.data, .data], laidTests := true, laidLooks := .later }
def PolyInterpolatesCardSaid : Prop := Claim7.holds Tryd.pinned (.plain (OpenSpec.ofChange polyInterpolatesSpec)) polyInterpolatesCard

/-- THE TIED CARD OF 'specielaw13.PolyBack'. -/
def polyBackCard : Claim7 := { stood := { row := polyBackRow, standIns := [], harness := (true, "5ed4624df775dcf3ea195385cd032f406ffde84d5e51a4e14990e477967ce614"), looks := false }, kinds := [], alts := [], laidByText := true, laidKinds := [.data, .data], laidTests := true, laidLooks := .later }
def PolyBackCardSaid : Prop := Claim7.holds Tryd.pinned (.plain (OpenSpec.ofChange polyBackSpec)) polyBackCard

/-- THE TIED CARD OF 'specielaw13.PolyLagrange'. -/
def polyLagrangeCard : Claim7 := { stood := { row := polyLagrangeRow, standIns := [], harness := (true, "5ed4624df775dcf3ea195385cd032f406ffde84d5e51a4e14990e477967ce614"), looks := false }, kinds := [], alts := [], laidByText := true, laidKinds := [.data, .data], laidTests := true, laidLooks := .later }
def PolyLagrangeCardSaid : Prop := Claim7.holds Tryd.pinned (.plain (OpenSpec.ofChange polyLagrangeSpec)) polyLagrangeCard

/-- THE TIED CARD OF 'specielaw13.PolyDivides'. -/
def polyDividesCard : Claim7 := { stood := { row := polyDividesRow, standIns := [], harness := (true, "5ed4624df775dcf3ea195385cd032f406ffde84d5e51a4e14990e477967ce614"), looks := false }, kinds := [], alts := [], laidByText := true, laidKinds := [.data, .data], laidTests := true, laidLooks := .later }
def PolyDividesCardSaid : Prop := Claim7.holds Tryd.pinned (.plain (OpenSpec.ofChange polyDividesSpec)) polyDividesCard

/-- THE TIED CARD OF 'specielaw13.PolyRests'. -/
def polyRestsCard : Claim7 := { stood := { row := polyRestsRow, standIns := [], harness := (true, "5ed4624df775dcf3ea195385cd032f406ffde84d5e51a4e14990e477967ce614"), looks := false }, kinds := [], alts := [], laidByText := true, laidKinds := [.data, .data], laidTests := true, laidLooks := .later }
def PolyRestsCardSaid : Prop := Claim7.holds Tryd.pinned (.plain (OpenSpec.ofChange polyRestsSpec)) polyRestsCard

/-- THE TIED CARD OF 'specielaw14.MatrixSolved'. -/
def matrixSolvedCard : Claim7 := { stood := { row := matrixSolvedRow, standIns := [], harness := (true, "5ed4624df775dcf3ea195385cd032f406ffde84d5e51a4e14990e477967ce614"), looks := false }, kinds := [], alts := [], laidByText := true, laidKinds := [.data, .data], laidTests := true, laidLooks := .later }
def MatrixSolvedCardSaid : Prop := Claim7.holds Tryd.pinned (.plain (OpenSpec.ofChange matrixSolvedSpec)) matrixSolvedCard

/-- THE TIED CARD OF 'specielaw14.MatrixRing'. -/
def matrixRingCard : Claim7 := { stood := { row := matrixRingRow, standIns := [], harness := (true, "5ed4624df775dcf3ea195385cd032f406ffde84d5e51a4e14990e477967ce614"), looks := false }, kinds := [], alts := [], laidByText := true, laidKinds := [.data, .data], laidTests := true, laidLooks := .later }
def MatrixRingCardSaid : Prop := Claim7.holds Tryd.pinned (.plain (OpenSpec.ofChange matrixRingSpec)) matrixRingCard

/-- THE TIED CARD OF 'specielaw14.MatrixUndone'. -/
def matrixUndoneCard : Claim7 := { stood := { row := matrixUndoneRow, standIns := [], harness := (true, "5ed4624df775dcf3ea195385cd032f406ffde84d5e51a4e14990e477967ce614"), looks := false }, kinds := [], alts := [], laidByText := true, laidKinds := [.data, .data], laidTests := true, laidLooks := .later }
def MatrixUndoneCardSaid : Prop := Claim7.holds Tryd.pinned (.plain (OpenSpec.ofChange matrixUndoneSpec)) matrixUndoneCard

/-- THE TIED CARD OF 'specielaw05.PrimeCertifies'. -/
def primeCertifiesCard : Claim7 := { stood := { row := primeCertifiesRow, standIns := [], harness := (true, "5ed4624df775dcf3ea195385cd032f406ffde84d5e51a4e14990e477967ce614"), looks := false }, kinds := [], alts := [], laidByText := true, laidKinds := [.data, .data], laidTests := true, laidLooks := .later }
def PrimeCertifiesCardSaid : Prop := Claim7.holds Tryd.pinned (.plain (OpenSpec.ofChange primeCertifiesSpec)) primeCertifiesCard

/-- THE TIED CARD OF 'specielaw05.PrimeProducts'. -/
def primeProductsCard : Claim7 := { stood := { row := primeProductsRow, standIns := [], harness := (true, "5ed4624df775dcf3ea195385cd032f406ffde84d5e51a4e14990e477967ce614"), looks := false }, kinds := [], alts := [], laidByText := true, laidKinds := [.data, .data], laidTests := true, laidLooks := .later }
def PrimeProductsCardSaid : Prop := Claim7.holds Tryd.pinned (.plain (OpenSpec.ofChange primeProductsSpec)) primeProductsCard

/-- THE SECOND FORM's CARD OF 'specielaw13.PolyInterpolates'. -/
def polyInterpolatesUptoCard : Claim7 := { stood := { row := polyInterpolatesUptoRow, standIns := [], harness := (true, "5ed4624df775dcf3ea195385cd032f406ffde84d5e51a4e14990e477967ce614"), looks := false }, kinds := [], alts := [], laidByText := true, laidKinds := [.data, .data], laidTests := true, laidLooks := .later }
def PolyInterpolatesUptoCardSaid : Prop := Claim7.holds Tryd.pinned (.plain (OpenSpec.upto polyInterpolatesSpec)) polyInterpolatesUptoCard

/-- THE SECOND FORM's CARD OF 'specielaw13.PolyBack'. -/
def polyBackUptoCard : Claim7 := { stood := { row := polyBackUptoRow, standIns := [], harness := (true, "5ed4624df775dcf3ea195385cd032f406ffde84d5e51a4e14990e477967ce614"), looks := false }, kinds := [], alts := [], laidByText := true, laidKinds := [.data, .data], laidTests := true, laidLooks := .later }
def PolyBackUptoCardSaid : Prop := Claim7.holds Tryd.pinned (.plain (OpenSpec.upto polyBackSpec)) polyBackUptoCard

/-- THE SECOND FORM's CARD OF 'specielaw13.PolyLagrange'. -/
def polyLagrangeUptoCard : Claim7 := { stood := { row := polyLagrangeUptoRow, standIns := [], harness := (true, "5ed4624df775dcf3ea195385cd032f406ffde84d5e51a4e14990e477967ce614"), looks := false }, kinds := [], alts := [], laidByText := true, laidKinds := [.data, .data], laidTests := true, laidLooks := .later }
def PolyLagrangeUptoCardSaid : Prop := Claim7.holds Tryd.pinned (.plain (OpenSpec.upto polyLagrangeSpec)) polyLagrangeUptoCard

/-- THE SECOND FORM's CARD OF 'specielaw13.PolyDivides'. -/
def polyDividesUptoCard : Claim7 := { stood := { row := polyDividesUptoRow, standIns := [], harness := (true, "5ed4624df775dcf3ea195385cd032f406ffde84d5e51a4e14990e477967ce614"), looks := false }, kinds := [], alts := [], laidByText := true, laidKinds := [.data, .data], laidTests := true, laidLooks := .later }
def PolyDividesUptoCardSaid : Prop := Claim7.holds Tryd.pinned (.plain (OpenSpec.upto polyDividesSpec)) polyDividesUptoCard

/-- THE SECOND FORM's CARD OF 'specielaw13.PolyRests'. -/
def polyRestsUptoCard : Claim7 := { stood := { row := polyRestsUptoRow, standIns := [], harness := (true, "5ed4624df775dcf3ea195385cd032f406ffde84d5e51a4e14990e477967ce614"), looks := false }, kinds := [], alts := [], laidByText := true, laidKinds := [.data, .data], laidTests := true, laidLooks := .later }
def PolyRestsUptoCardSaid : Prop := Claim7.holds Tryd.pinned (.plain (OpenSpec.upto polyRestsSpec)) polyRestsUptoCard

/-- THE SECOND FORM's CARD OF 'specielaw14.MatrixSolved'. -/
def matrixSolvedUptoCard : Claim7 := { stood := { row := matrixSolvedUptoRow, standIns := [], harness := (true, "5ed4624df775dcf3ea195385cd032f406ffde84d5e51a4e14990e477967ce614"), looks := false }, kinds := [], alts := [], laidByText := true, laidKinds := [.data, .data], laidTests := true, laidLooks := .later }
def MatrixSolvedUptoCardSaid : Prop := Claim7.holds Tryd.pinned (.plain (OpenSpec.upto matrixSolvedSpec)) matrixSolvedUptoCard

/-- THE SECOND FORM's CARD OF 'specielaw14.MatrixRing'. -/
def matrixRingUptoCard : Claim7 := { stood := { row := matrixRingUptoRow, standIns := [], harness := (true, "5ed4624df775dcf3ea195385cd032f406ffde84d5e51a4e14990e477967ce614"), looks := false }, kinds := [], alts := [], laidByText := true, laidKinds := [.data, .data], laidTests := true, laidLooks := .later }
def MatrixRingUptoCardSaid : Prop := Claim7.holds Tryd.pinned (.plain (OpenSpec.upto matrixRingSpec)) matrixRingUptoCard

/-- THE SECOND FORM's CARD OF 'specielaw14.MatrixUndone'. -/
def matrixUndoneUptoCard : Claim7 := { stood := { row := matrixUndoneUptoRow, standIns := [], harness := (true, "5ed4624df775dcf3ea195385cd032f406ffde84d5e51a4e14990e477967ce614"), looks := false }, kinds := [], alts := [], laidByText := true, laidKinds := [.data, .data], laidTests := true, laidLooks := .later }
def MatrixUndoneUptoCardSaid : Prop := Claim7.holds Tryd.pinned (.plain (OpenSpec.upto matrixUndoneSpec)) matrixUndoneUptoCard

/-- THE SECOND FORM's CARD OF 'specielaw05.PrimeCertifies'. -/
def primeCertifiesUptoCard : Claim7 := { stood := { row := primeCertifiesUptoRow, standIns := [], harness := (true, "5ed4624df775dcf3ea195385cd032f406ffde84d5e51a4e14990e477967ce614"), looks := false }, kinds := [], alts := [], laidByText := true, laidKinds := [.data, .data], laidTests := true, laidLooks := .later }
def PrimeCertifiesUptoCardSaid : Prop := Claim7.holds Tryd.pinned (.plain (OpenSpec.upto primeCertifiesSpec)) primeCertifiesUptoCard

/-- THE SECOND FORM's CARD OF 'specielaw05.PrimeProducts'. -/
def primeProductsUptoCard : Claim7 := { stood := { row := primeProductsUptoRow, standIns := [], harness := (true, "5ed4624df775dcf3ea195385cd032f406ffde84d5e51a4e14990e477967ce614"), looks := false }, kinds := [], alts := [], laidByText := true, laidKinds := [.data, .data], laidTests := true, laidLooks := .later }
def PrimeProductsUptoCardSaid : Prop := Claim7.holds Tryd.pinned (.plain (OpenSpec.upto primeProductsSpec)) primeProductsUptoCard
end Rows
end Go.Proofs.YteipbcpnnojclaaDoor
