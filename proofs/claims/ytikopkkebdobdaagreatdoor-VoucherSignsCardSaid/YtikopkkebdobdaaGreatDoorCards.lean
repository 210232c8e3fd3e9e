/-
  DERIVED. GIVEN WITH THE SEED: THE CARDS: each row of YtikopkkebdobdaaGreatDoorRows.lean that lists a variable, with what it lists TIED to the program's text (the seventh form; the later family's looks); each row that meets fmt, with fmt's text TOLD by the authors' own Lean function (tested against real Go, not proved from fmt's source: count such statements apart). THE CARD IS WHAT COUNTS. Prove the row's statement (the work); the ties are given (YtikopkkebdobdaaGreatDoorTie.lean); close each card by the builder's one call (the guide's Derived/Test/ToyasCard.lean, 'card_holds'). Laid BY PROGRAM, IN A SANDBOX (cutbox-door.mjs). By AI agents, Wed Nov 11 2026. No macro, syntax, notation, axiom, sorry.
-/
import Derived.Test.YtikopkkebdobdaaGreatDoorRows
import GoSem.ClaimSeven
namespace Go.Proofs.YtikopkkebdobdaaGreatDoor
namespace Rows

/-- THE TIED CARD OF 'specielaw24.VoucherLinks'. -/
def voucherLinksCard : Claim7 := { stood := { row := voucherLinksRow, standIns := [], harness := (true, "056a0ed541de49d0fd94cbd07ee0a1a3b3b83648f7b3ca19f6329170982d2fbf"), looks := false }, kinds := [], alts := [], laidByText := true, laidKinds := [.data, .data], laidTests := true, laidLooks := .later }
def VoucherLinksCardSaid : Prop := Claim7.holds Tryz.pinned (.plain (OpenSpec.ofChange voucherLinksSpec)) voucherLinksCard

/-- THE TIED CARD OF 'specielaw24.VoucherBlinds'. -/
def voucherBlindsCard : Claim7 := { stood := { row := voucherBlindsRow, standIns := [], harness := (true, "056a0ed541de49d0fd94cbd07ee0a1a3b3b83648f7b3ca19f6329170982d2fbf"), looks := false }, kinds := [], alts := [], laidByText := true, laidKinds := [.data, .data, .data, .data], laidTests := true, laidLooks := .later }
def VoucherBlindsCardSaid : Prop := Claim7.holds Tryz.pinned (.plain (OpenSpec.ofChange voucherBlindsSpec)) voucherBlindsCard

/-- THE TIED CARD OF 'specielaw24.VoucherSigns'. -/
def voucherSignsCard : Claim7 := { stood := { row := voucherSignsRow, standIns := [], harness := (true, "056a0ed541de49d0fd94cbd07ee0a1a3b3b83648f7b3ca19f6329170982d2fbf"), looks := false }, kinds := [], alts := [], laidByText := true, laidKinds := [.data, .data, .data, .data], laidTests := true, laidLooks := .later }
def VoucherSignsCardSaid : Prop := Claim7.holds Tryz.pinned (.plain (OpenSpec.ofChange voucherSignsSpec)) voucherSignsCard

/-- THE TIED CARD OF 'specielaw24.VoucherCounts'. -/
def voucherCountsCard : Claim7 := { stood := { row := voucherCountsRow, standIns := [], harness := (true, "056a0ed541de49d0fd94cbd07ee0a1a3b3b83648f7b3ca19f6329170982d2fbf"), looks := false }, kinds := [], alts := [], laidByText := true, laidKinds := [.data, .data, .data, .data], laidTests := true, laidLooks := .later }
def VoucherCountsCardSaid : Prop := Claim7.holds Tryz.pinned (.plain (OpenSpec.ofChange voucherCountsSpec)) voucherCountsCard

/-- THE TIED CARD OF 'specielaw24.VoucherUnlinkable'. -/
def voucherUnlinkableCard : Claim7 := { stood := { row := voucherUnlinkableRow, standIns := [], harness := (true, "056a0ed541de49d0fd94cbd07ee0a1a3b3b83648f7b3ca19f6329170982d2fbf"), looks := false }, kinds := [], alts := [], laidByText := true, laidKinds := [.data, .data, .data, .data], laidTests := true, laidLooks := .later }
def VoucherUnlinkableCardSaid : Prop := Claim7.holds Tryz.pinned (.plain (OpenSpec.ofChange voucherUnlinkableSpec)) voucherUnlinkableCard

/-- THE SECOND FORM's CARD OF 'specielaw24.VoucherLinks'. -/
def voucherLinksUptoCard : Claim7 := { stood := { row := voucherLinksUptoRow, standIns := [], harness := (true, "056a0ed541de49d0fd94cbd07ee0a1a3b3b83648f7b3ca19f6329170982d2fbf"), looks := false }, kinds := [], alts := [], laidByText := true, laidKinds := [.data, .data], laidTests := true, laidLooks := .later }
def VoucherLinksUptoCardSaid : Prop := Claim7.holds Tryz.pinned (.plain (OpenSpec.upto voucherLinksSpec)) voucherLinksUptoCard

/-- THE SECOND FORM's CARD OF 'specielaw24.VoucherBlinds'. -/
def voucherBlindsUptoCard : Claim7 := { stood := { row := voucherBlindsUptoRow, standIns := [], harness := (true, "056a0ed541de49d0fd94cbd07ee0a1a3b3b83648f7b3ca19f6329170982d2fbf"), looks := false }, kinds := [], alts := [], laidByText := true, laidKinds := [.data, .data, .data, .data], laidTests := true, laidLooks := .later }
def VoucherBlindsUptoCardSaid : Prop := Claim7.holds Tryz.pinned (.plain (OpenSpec.upto voucherBlindsSpec)) voucherBlindsUptoCard

/-- THE SECOND FORM's CARD OF 'specielaw24.VoucherSigns'. -/
def voucherSignsUptoCard : Claim7 := { stood := { row := voucherSignsUptoRow, standIns := [], harness := (true, "056a0ed541de49d0fd94cbd07ee0a1a3b3b83648f7b3ca19f6329170982d2fbf"), looks := false }, kinds := [], alts := [], laidByText := true, laidKinds := [.data, .data, .data, .data], laidTests := true, laidLooks := .later }
def VoucherSignsUptoCardSaid : Prop := Claim7.holds Tryz.pinned (.plain (OpenSpec.upto voucherSignsSpec)) voucherSignsUptoCard

/-- THE SECOND FORM's CARD OF 'specielaw24.VoucherCounts'. -/
def voucherCountsUptoCard : Claim7 := { stood := { row := voucherCountsUptoRow, standIns := [], harness := (true, "056a0ed541de49d0fd94cbd07ee0a1a3b3b83648f7b3ca19f6329170982d2fbf"), looks := false }, kinds := [], alts := [], laidByText := true, laidKinds := [.data, .data, .data, .data], laidTests := true, laidLooks := .later }
def VoucherCountsUptoCardSaid : Prop := Claim7.holds Tryz.pinned (.plain (OpenSpec.upto voucherCountsSpec)) voucherCountsUptoCard

/-- THE SECOND FORM's CARD OF 'specielaw24.VoucherUnlinkable'. -/
def voucherUnlinkableUptoCard : Claim7 := { stood := { row := voucherUnlinkableUptoRow, standIns := [], harness := (true, "056a0ed541de49d0fd94cbd07ee0a1a3b3b83648f7b3ca19f6329170982d2fbf"), looks := false }, kinds := [], alts := [], laidByText := true, laidKinds := [.data, .data, .data, .data], laidTests := true, laidLooks := .later }
def VoucherUnlinkableUptoCardSaid : Prop := Claim7.holds Tryz.pinned (.plain (OpenSpec.upto voucherUnlinkableSpec)) voucherUnlinkableUptoCard
end Rows
end Go.Proofs.YtikopkkebdobdaaGreatDoor
