/-
  DERIVED. GIVEN WITH THE SEED: THE CARDS: each row of YtffdoihhjfjgoaaGreatDoorRows.lean that lists a variable, with what it lists TIED to the program's text (the seventh form; the later family's looks); each row that meets fmt, with fmt's text TOLD by the authors' own Lean function (tested against real Go, not proved from fmt's source: count such statements apart). THE CARD IS WHAT COUNTS. Prove the row's statement (the work); the ties are given (YtffdoihhjfjgoaaGreatDoorTie.lean); close each card by the builder's one call (the guide's Derived/Test/ToyasCard.lean, 'card_holds'). Laid BY PROGRAM, IN A SANDBOX (cutbox-door.mjs). By AI agents, Wed Nov 11 2026. No macro, syntax, notation, axiom, sorry.
-/
import Derived.Test.YtffdoihhjfjgoaaGreatDoorRows
import GoSem.ClaimSeven
namespace Go.Proofs.YtffdoihhjfjgoaaGreatDoor
namespace Rows

/-- THE TIED CARD OF 'chroniclelaw21.NoteRight'. -/
def noteRightCard : Claim7 := { stood := { row := noteRightRow, standIns := [], harness := (true, "980cf7114173d3555663613ece0c686f39d12bcb475f4d1e1e7c5ace4ec897c9"), looks := true }, kinds := [], alts := [], laidByText := true, laidKinds := [.data, .data, .data, .data, .data, .data, .data, .data, .data, .data, .data, .data, .data, .data, .data], laidTests := true, laidLooks := .later }
def NoteRightCardSaid : Prop := Claim7.holds Tryz.pinned (.plain (OpenSpec.ofChange noteRightSpec)) noteRightCard

/-- THE TIED CARD OF 'chroniclelaw21.NoteSigned'. -/
def noteSignedCard : Claim7 := { stood := { row := noteSignedRow, standIns := [], harness := (true, "980cf7114173d3555663613ece0c686f39d12bcb475f4d1e1e7c5ace4ec897c9"), looks := true }, kinds := [], alts := [], laidByText := true, laidKinds := [.data, .data, .data, .data, .data, .data, .data, .data, .data, .data, .data, .data, .data, .data, .data], laidTests := true, laidLooks := .later }
def NoteSignedCardSaid : Prop := Claim7.holds Tryz.pinned (.plain (OpenSpec.ofChange noteSignedSpec)) noteSignedCard

/-- THE TIED CARD OF 'chroniclelaw23.WitnessAccepts'. -/
def witnessAcceptsCard : Claim7 := { stood := { row := witnessAcceptsRow, standIns := [], harness := (true, "980cf7114173d3555663613ece0c686f39d12bcb475f4d1e1e7c5ace4ec897c9"), looks := true }, kinds := [], alts := [], laidByText := true, laidKinds := [.data, .data, .data, .data, .data, .data, .data, .data, .data, .data, .data, .data, .data, .data, .data, .data, .sentinel, .sentinel, .pinned], laidTests := true, laidLooks := .later }
def WitnessAcceptsCardSaid : Prop := Claim7.holds Tryz.pinned (.plain (OpenSpec.ofChange witnessAcceptsSpec)) witnessAcceptsCard

/-- THE TIED CARD OF 'chroniclelaw23.WitnessNil'. -/
def witnessNilCard : Claim7 := { stood := { row := witnessNilRow, standIns := [], harness := (true, "980cf7114173d3555663613ece0c686f39d12bcb475f4d1e1e7c5ace4ec897c9"), looks := true }, kinds := [], alts := [], laidByText := true, laidKinds := [.data, .data, .data, .data, .data, .data, .data, .data, .data, .data, .data, .data, .data, .data, .data, .data, .sentinel, .sentinel, .pinned], laidTests := true, laidLooks := .later }
def WitnessNilCardSaid : Prop := Claim7.holds Tryz.pinned (.plain (OpenSpec.ofChange witnessNilSpec)) witnessNilCard

/-- THE TIED CARD OF 'chroniclelaw23.WitnessHonest'. -/
def witnessHonestCard : Claim7 := { stood := { row := witnessHonestRow, standIns := [], harness := (true, "980cf7114173d3555663613ece0c686f39d12bcb475f4d1e1e7c5ace4ec897c9"), looks := true }, kinds := [], alts := [], laidByText := true, laidKinds := [.data, .data, .data, .data, .data, .data, .data, .data, .data, .data, .data, .data, .data, .data, .data, .data, .sentinel, .sentinel, .pinned], laidTests := true, laidLooks := .later }
def WitnessHonestCardSaid : Prop := Claim7.holds Tryz.pinned (.plain (OpenSpec.ofChange witnessHonestSpec)) witnessHonestCard

/-- THE TIED CARD OF 'chroniclelaw23.WitnessFirst'. -/
def witnessFirstCard : Claim7 := { stood := { row := witnessFirstRow, standIns := [], harness := (true, "980cf7114173d3555663613ece0c686f39d12bcb475f4d1e1e7c5ace4ec897c9"), looks := true }, kinds := [], alts := [], laidByText := true, laidKinds := [.data, .data, .data, .data, .data, .data, .data, .data, .data, .data, .data, .data, .data, .data, .data, .data, .sentinel, .sentinel, .pinned], laidTests := true, laidLooks := .later }
def WitnessFirstCardSaid : Prop := Claim7.holds Tryz.pinned (.plain (OpenSpec.ofChange witnessFirstSpec)) witnessFirstCard

/-- THE TIED CARD OF 'chroniclelaw23.WitnessPlays'. -/
def witnessPlaysCard : Claim7 := { stood := { row := witnessPlaysRow, standIns := [], harness := (true, "980cf7114173d3555663613ece0c686f39d12bcb475f4d1e1e7c5ace4ec897c9"), looks := true }, kinds := [], alts := [], laidByText := true, laidKinds := [.data, .data, .data, .data, .data, .data, .data, .data, .data, .data, .data, .data, .data, .data, .data, .data, .sentinel, .sentinel, .pinned], laidTests := true, laidLooks := .later }
def WitnessPlaysCardSaid : Prop := Claim7.holds Tryz.pinned (.plain (OpenSpec.ofChange witnessPlaysSpec)) witnessPlaysCard

/-- THE TIED CARD OF 'chroniclelaw23.WitnessRises'. -/
def witnessRisesCard : Claim7 := { stood := { row := witnessRisesRow, standIns := [], harness := (true, "980cf7114173d3555663613ece0c686f39d12bcb475f4d1e1e7c5ace4ec897c9"), looks := true }, kinds := [], alts := [], laidByText := true, laidKinds := [.data, .data, .data, .data, .data, .data, .data, .data, .data, .data, .data, .data, .data, .data, .data, .data, .sentinel, .sentinel, .pinned], laidTests := true, laidLooks := .later }
def WitnessRisesCardSaid : Prop := Claim7.holds Tryz.pinned (.plain (OpenSpec.ofChange witnessRisesSpec)) witnessRisesCard

/-- THE TIED CARD OF 'chroniclelaw22.LogHeads'. -/
def logHeadsCard : Claim7 := { stood := { row := logHeadsRow, standIns := [], harness := (true, "980cf7114173d3555663613ece0c686f39d12bcb475f4d1e1e7c5ace4ec897c9"), looks := true }, kinds := [], alts := [], laidByText := true, laidKinds := [.data, .data, .data, .data, .data, .data, .data, .data, .data, .data, .data, .data, .data, .data, .data, .data, .sentinel, .sentinel, .pinned], laidTests := true, laidLooks := .later }
def LogHeadsCardSaid : Prop := Claim7.holds Tryz.pinned (.plain (OpenSpec.ofChange logHeadsSpec)) logHeadsCard

/-- THE SECOND FORM's CARD OF 'chroniclelaw21.NoteRight'. -/
def noteRightUptoCard : Claim7 := { stood := { row := noteRightUptoRow, standIns := [], harness := (true, "980cf7114173d3555663613ece0c686f39d12bcb475f4d1e1e7c5ace4ec897c9"), looks := true }, kinds := [], alts := [], laidByText := true, laidKinds := [.data, .data, .data, .data, .data, .data, .data, .data, .data, .data, .data, .data, .data, .data, .data], laidTests := true, laidLooks := .later }
def NoteRightUptoCardSaid : Prop := Claim7.holds Tryz.pinned (.plain (OpenSpec.upto noteRightSpec)) noteRightUptoCard

/-- THE SECOND FORM's CARD OF 'chroniclelaw21.NoteSigned'. -/
def noteSignedUptoCard : Claim7 := { stood := { row := noteSignedUptoRow, standIns := [], harness := (true, "980cf7114173d3555663613ece0c686f39d12bcb475f4d1e1e7c5ace4ec897c9"), looks := true }, kinds := [], alts := [], laidByText := true, laidKinds := [.data, .data, .data, .data, .data, .data, .data, .data, .data, .data, .data, .data, .data, .data, .data], laidTests := true, laidLooks := .later }
def NoteSignedUptoCardSaid : Prop := Claim7.holds Tryz.pinned (.plain (OpenSpec.upto noteSignedSpec)) noteSignedUptoCard

/-- THE SECOND FORM's CARD OF 'chroniclelaw23.WitnessAccepts'. -/
def witnessAcceptsUptoCard : Claim7 := { stood := { row := witnessAcceptsUptoRow, standIns := [], harness := (true, "980cf7114173d3555663613ece0c686f39d12bcb475f4d1e1e7c5ace4ec897c9"), looks := true }, kinds := [], alts := [], laidByText := true, laidKinds := [.data, .data, .data, .data, .data, .data, .data, .data, .data, .data, .data, .data, .data, .data, .data, .data, .sentinel, .sentinel, .pinned], laidTests := true, laidLooks := .later }
def WitnessAcceptsUptoCardSaid : Prop := Claim7.holds Tryz.pinned (.plain (OpenSpec.upto witnessAcceptsSpec)) witnessAcceptsUptoCard

/-- THE SECOND FORM's CARD OF 'chroniclelaw23.WitnessNil'. -/
def witnessNilUptoCard : Claim7 := { stood := { row := witnessNilUptoRow, standIns := [], harness := (true, "980cf7114173d3555663613ece0c686f39d12bcb475f4d1e1e7c5ace4ec897c9"), looks := true }, kinds := [], alts := [], laidByText := true, laidKinds := [.data, .data, .data, .data, .data, .data, .data, .data, .data, .data, .data, .data, .data, .data, .data, .data, .sentinel, .sentinel, .pinned], laidTests := true, laidLooks := .later }
def WitnessNilUptoCardSaid : Prop := Claim7.holds Tryz.pinned (.plain (OpenSpec.upto witnessNilSpec)) witnessNilUptoCard

/-- THE SECOND FORM's CARD OF 'chroniclelaw23.WitnessHonest'. -/
def witnessHonestUptoCard : Claim7 := { stood := { row := witnessHonestUptoRow, standIns := [], harness := (true, "980cf7114173d3555663613ece0c686f39d12bcb475f4d1e1e7c5ace4ec897c9"), looks := true }, kinds := [], alts := [], laidByText := true, laidKinds := [.data, .data, .data, .data, .data, .data, .data, .data, .data, .data, .data, .data, .data, .data, .data, .data, .sentinel, .sentinel, .pinned], laidTests := true, laidLooks := .later }
def WitnessHonestUptoCardSaid : Prop := Claim7.holds Tryz.pinned (.plain (OpenSpec.upto witnessHonestSpec)) witnessHonestUptoCard

/-- THE SECOND FORM's CARD OF 'chroniclelaw23.WitnessFirst'. -/
def witnessFirstUptoCard : Claim7 := { stood := { row := witnessFirstUptoRow, standIns := [], harness := (true, "980cf7114173d3555663613ece0c686f39d12bcb475f4d1e1e7c5ace4ec897c9"), looks := true }, kinds := [], alts := [], laidByText := true, laidKinds := [.data, .data, .data, .data, .data, .data, .data, .data, .data, .data, .data, .data, .data, .data, .data, .data, .sentinel, .sentinel, .pinned], laidTests := true, laidLooks := .later }
def WitnessFirstUptoCardSaid : Prop := Claim7.holds Tryz.pinned (.plain (OpenSpec.upto witnessFirstSpec)) witnessFirstUptoCard

/-- THE SECOND FORM's CARD OF 'chroniclelaw23.WitnessPlays'. -/
def witnessPlaysUptoCard : Claim7 := { stood := { row := witnessPlaysUptoRow, standIns := [], harness := (true, "980cf7114173d3555663613ece0c686f39d12bcb475f4d1e1e7c5ace4ec897c9"), looks := true }, kinds := [], alts := [], laidByText := true, laidKinds := [.data, .data, .data, .data, .data, .data, .data, .data, .data, .data, .data, .data, .data, .data, .data, .data, .sentinel, .sentinel, .pinned], laidTests := true, laidLooks := .later }
def WitnessPlaysUptoCardSaid : Prop := Claim7.holds Tryz.pinned (.plain (OpenSpec.upto witnessPlaysSpec)) witnessPlaysUptoCard

/-- THE SECOND FORM's CARD OF 'chroniclelaw23.WitnessRises'. -/
def witnessRisesUptoCard : Claim7 := { stood := { row := witnessRisesUptoRow, standIns := [], harness := (true, "980cf7114173d3555663613ece0c686f39d12bcb475f4d1e1e7c5ace4ec897c9"), looks := true }, kinds := [], alts := [], laidByText := true, laidKinds := [.data, .data, .data, .data, .data, .data, .data, .data, .data, .data, .data, .data, .data, .data, .data, .data, .sentinel, .sentinel, .pinned], laidTests := true, laidLooks := .later }
def WitnessRisesUptoCardSaid : Prop := Claim7.holds Tryz.pinned (.plain (OpenSpec.upto witnessRisesSpec)) witnessRisesUptoCard

/-- THE SECOND FORM's CARD OF 'chroniclelaw22.LogHeads'. -/
def logHeadsUptoCard : Claim7 := { stood := { row := logHeadsUptoRow, standIns := [], harness := (true, "980cf7114173d3555663613ece0c686f39d12bcb475f4d1e1e7c5ace4ec897c9"), looks := true }, kinds := [], alts := [], laidByText := true, laidKinds := [.data, .data, .data, .data, .data, .data, .data, .data, .data, .data, .data, .data, .data, .data, .data, .data, .sentinel, .sentinel, .pinned], laidTests := true, laidLooks := .later }
def LogHeadsUptoCardSaid : Prop := Claim7.holds Tryz.pinned (.plain (OpenSpec.upto logHeadsSpec)) logHeadsUptoCard
end Rows
end Go.Proofs.YtffdoihhjfjgoaaGreatDoor
