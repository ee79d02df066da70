/-
  DERIVED. GIVEN WITH THE SEED: THE CARDS: each row of YtdcganigfihkjaaGreatDoorRows.lean that lists a variable, with what it lists TIED to the program's text (the seventh form; the later family's looks); each row that meets fmt, with fmt's text TOLD by the authors' own Lean function (tested against real Go, not proved from fmt's source: count such statements apart). THE CARD IS WHAT COUNTS. Prove the row's statement (the work); the ties are given (YtdcganigfihkjaaGreatDoorTie.lean); close each card by the builder's one call (the guide's Derived/Test/ToyasCard.lean, 'card_holds'). Laid BY PROGRAM, IN A SANDBOX (cutbox-door.mjs). By AI agents, Wed Nov 11 2026. No macro, syntax, notation, axiom, sorry.
-/
import Derived.Test.YtdcganigfihkjaaGreatDoorRows
import GoSem.ClaimSeven
namespace Go.Proofs.YtdcganigfihkjaaGreatDoor
namespace Rows

/-- THE TIED CARD OF 'chroniclelaw11.EcdsaVerifies'. -/
def ecdsaVerifiesCard : Claim7 := { stood := { row := ecdsaVerifiesRow, standIns := [], harness := (true, "49b3c75739de6f543d1dee998bb6d2fb371710153cb56da245fab5bbe953c7d3"), looks := false }, kinds := [], alts := [], laidByText := true, laidKinds := [.data, .data, .data, .data, .data], laidTests := true, laidLooks := .later }
def EcdsaVerifiesCardSaid : Prop := Claim7.holds Tryz.pinned (.plain (OpenSpec.ofChange ecdsaVerifiesSpec)) ecdsaVerifiesCard

/-- THE TIED CARD OF 'chroniclelaw11.EcdsaSigns'. -/
def ecdsaSignsCard : Claim7 := { stood := { row := ecdsaSignsRow, standIns := [], harness := (true, "49b3c75739de6f543d1dee998bb6d2fb371710153cb56da245fab5bbe953c7d3"), looks := false }, kinds := [], alts := [], laidByText := true, laidKinds := [.data, .data, .data, .data, .data], laidTests := true, laidLooks := .later }
def EcdsaSignsCardSaid : Prop := Claim7.holds Tryz.pinned (.plain (OpenSpec.ofChange ecdsaSignsSpec)) ecdsaSignsCard

/-- THE SECOND FORM's CARD OF 'chroniclelaw11.EcdsaVerifies'. -/
def ecdsaVerifiesUptoCard : Claim7 := { stood := { row := ecdsaVerifiesUptoRow, standIns := [], harness := (true, "49b3c75739de6f543d1dee998bb6d2fb371710153cb56da245fab5bbe953c7d3"), looks := false }, kinds := [], alts := [], laidByText := true, laidKinds := [.data, .data, .data, .data, .data], laidTests := true, laidLooks := .later }
def EcdsaVerifiesUptoCardSaid : Prop := Claim7.holds Tryz.pinned (.plain (OpenSpec.upto ecdsaVerifiesSpec)) ecdsaVerifiesUptoCard

/-- THE SECOND FORM's CARD OF 'chroniclelaw11.EcdsaSigns'. -/
def ecdsaSignsUptoCard : Claim7 := { stood := { row := ecdsaSignsUptoRow, standIns := [], harness := (true, "49b3c75739de6f543d1dee998bb6d2fb371710153cb56da245fab5bbe953c7d3"), looks := false }, kinds := [], alts := [], laidByText := true, laidKinds := [.data, .data, .data, .data, .data], laidTests := true, laidLooks := .later }
def EcdsaSignsUptoCardSaid : Prop := Claim7.holds Tryz.pinned (.plain (OpenSpec.upto ecdsaSignsSpec)) ecdsaSignsUptoCard
end Rows
end Go.Proofs.YtdcganigfihkjaaGreatDoor
