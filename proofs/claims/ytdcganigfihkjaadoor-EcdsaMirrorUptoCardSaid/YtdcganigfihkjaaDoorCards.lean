/-
  DERIVED. GIVEN WITH THE SEED: THE CARDS: each row of YtdcganigfihkjaaDoorRows.lean that lists a variable, with what it lists TIED to the program's text (the seventh form; the later family's looks); each row that meets fmt, with fmt's text TOLD by the authors' own Lean function (tested against real Go, not proved from fmt's source: count such statements apart). THE CARD IS WHAT COUNTS. Prove the row's statement (the work); the ties are given (YtdcganigfihkjaaDoorTie.lean); close each card by the builder's one call (the guide's Derived/Test/ToyasCard.lean, 'card_holds'). Laid BY PROGRAM, IN A SANDBOX (cutbox-door.mjs). By AI agents, Wed Nov 11 2026. No macro, syntax, notation, axiom, sorry.
-/
import Derived.Test.YtdcganigfihkjaaDoorRows
import GoSem.ClaimSeven
namespace Go.Proofs.YtdcganigfihkjaaDoor
namespace Rows

/-- THE TIED CARD OF 'chroniclelaw11.EcdsaMirror'. -/
def ecdsaMirrorCard : Claim7 := { stood := { row := ecdsaMirrorRow, standIns := [], harness := (true, "fabb7ee8a6e01da4492eecb2cf409e6a859e8d7dea080f0cf03ffa7f579d870c"), looks := false }, kinds := [], alts := [], laidByText := true, laidKinds := [.data, .data, .data, .data, .data], laidTests := true, laidLooks := .later }
def EcdsaMirrorCardSaid : Prop := Claim7.holds Tryd.pinned (.plain (OpenSpec.ofChange ecdsaMirrorSpec)) ecdsaMirrorCard

/-- THE TIED CARD OF 'chroniclelaw11.EcdsaNone'. -/
def ecdsaNoneCard : Claim7 := { stood := { row := ecdsaNoneRow, standIns := [], harness := (true, "fabb7ee8a6e01da4492eecb2cf409e6a859e8d7dea080f0cf03ffa7f579d870c"), looks := false }, kinds := [], alts := [], laidByText := true, laidKinds := [.data, .data, .data, .data, .data], laidTests := true, laidLooks := .later }
def EcdsaNoneCardSaid : Prop := Claim7.holds Tryd.pinned (.plain (OpenSpec.ofChange ecdsaNoneSpec)) ecdsaNoneCard

/-- THE SECOND FORM's CARD OF 'chroniclelaw11.EcdsaMirror'. -/
def ecdsaMirrorUptoCard : Claim7 := { stood := { row := ecdsaMirrorUptoRow, standIns := [], harness := (true, "fabb7ee8a6e01da4492eecb2cf409e6a859e8d7dea080f0cf03ffa7f579d870c"), looks := false }, kinds := [], alts := [], laidByText := true, laidKinds := [.data, .data, .data, .data, .data], laidTests := true, laidLooks := .later }
def EcdsaMirrorUptoCardSaid : Prop := Claim7.holds Tryd.pinned (.plain (OpenSpec.upto ecdsaMirrorSpec)) ecdsaMirrorUptoCard

/-- THE SECOND FORM's CARD OF 'chroniclelaw11.EcdsaNone'. -/
def ecdsaNoneUptoCard : Claim7 := { stood := { row := ecdsaNoneUptoRow, standIns := [], harness := (true, "fabb7ee8a6e01da4492eecb2cf409e6a859e8d7dea080f0cf03ffa7f579d870c"), looks := false }, kinds := [], alts := [], laidByText := true, laidKinds := [.data, .data, .data, .data, .data], laidTests := true, laidLooks := .later }
def EcdsaNoneUptoCardSaid : Prop := Claim7.holds Tryd.pinned (.plain (OpenSpec.upto ecdsaNoneSpec)) ecdsaNoneUptoCard
end Rows
end Go.Proofs.YtdcganigfihkjaaDoor
