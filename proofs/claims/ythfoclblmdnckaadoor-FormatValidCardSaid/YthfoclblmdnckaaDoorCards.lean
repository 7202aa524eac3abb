/-
  DERIVED. GIVEN WITH THE SEED: THE CARDS: each row of YthfoclblmdnckaaDoorRows.lean that lists a variable, with what it lists TIED to the program's text (the seventh form; the later family's looks); each row that meets fmt, with fmt's text TOLD by the authors' own Lean function (tested against real Go, not proved from fmt's source: count such statements apart). THE CARD IS WHAT COUNTS. Prove the row's statement (the work); the ties are given (YthfoclblmdnckaaDoorTie.lean); close each card by the builder's one call (the guide's Derived/Test/ToyasCard.lean, 'card_holds'). Laid BY PROGRAM, IN A SANDBOX (cutbox-door.mjs). By AI agents, Wed Nov 11 2026. No macro, syntax, notation, axiom, sorry.
-/
import Derived.Test.YthfoclblmdnckaaDoorRows
import GoSem.ClaimSeven
namespace Go.Proofs.YthfoclblmdnckaaDoor
namespace Rows

/-- THE TIED CARD OF 'sealringlaw17.FormatMade'. -/
def formatMadeCard : Claim7 := { stood := { row := formatMadeRow, standIns := [], harness := (true, "e6411029072f070febc4bef68aa03ef4844679614d8d5d5dabe12c75d800385a"), looks := true }, kinds := [], alts := [], laidByText := true, laidKinds := [.data, .data, .data, .data, .sentinel, .sentinel, .pinned], laidTests := true, laidLooks := .later }
def FormatMadeCardSaid : Prop := Claim7.holds Tryd.pinned (.plain (OpenSpec.ofChange formatMadeSpec)) formatMadeCard

/-- THE TIED CARD OF 'sealringlaw17.FormatFirst'. -/
def formatFirstCard : Claim7 := { stood := { row := formatFirstRow, standIns := [], harness := (true, "e6411029072f070febc4bef68aa03ef4844679614d8d5d5dabe12c75d800385a"), looks := true }, kinds := [], alts := [], laidByText := true, laidKinds := [.data, .data, .data, .data, .sentinel, .sentinel, .pinned], laidTests := true, laidLooks := .later }
def FormatFirstCardSaid : Prop := Claim7.holds Tryd.pinned (.plain (OpenSpec.ofChange formatFirstSpec)) formatFirstCard

/-- THE TIED CARD OF 'sealringlaw17.FormatTagged'. -/
def formatTaggedCard : Claim7 := { stood := { row := formatTaggedRow, standIns := [], harness := (true, "e6411029072f070febc4bef68aa03ef4844679614d8d5d5dabe12c75d800385a"), looks := true }, kinds := [], alts := [], laidByText := true, laidKinds := [.data, .data, .data, .data, .sentinel, .sentinel, .pinned], laidTests := true, laidLooks := .later }
def FormatTaggedCardSaid : Prop := Claim7.holds Tryd.pinned (.plain (OpenSpec.ofChange formatTaggedSpec)) formatTaggedCard

/-- THE TIED CARD OF 'sealringlaw17.FormatBounds'. -/
def formatBoundsCard : Claim7 := { stood := { row := formatBoundsRow, standIns := [], harness := (true, "e6411029072f070febc4bef68aa03ef4844679614d8d5d5dabe12c75d800385a"), looks := true }, kinds := [], alts := [], laidByText := true, laidKinds := [.data, .data, .data, .data, .sentinel, .sentinel, .pinned], laidTests := true, laidLooks := .later }
def FormatBoundsCardSaid : Prop := Claim7.holds Tryd.pinned (.plain (OpenSpec.ofChange formatBoundsSpec)) formatBoundsCard

/-- THE TIED CARD OF 'sealringlaw17.FormatGenerate'. -/
def formatGenerateCard : Claim7 := { stood := { row := formatGenerateRow, standIns := [], harness := (true, "e6411029072f070febc4bef68aa03ef4844679614d8d5d5dabe12c75d800385a"), looks := true }, kinds := [], alts := [], laidByText := true, laidKinds := [.data, .data, .data, .data, .sentinel, .sentinel, .pinned], laidTests := true, laidLooks := .later }
def FormatGenerateCardSaid : Prop := Claim7.holds Tryd.pinned (.plain (OpenSpec.ofChange formatGenerateSpec)) formatGenerateCard

/-- THE TIED CARD OF 'sealringlaw17.FormatValid'. -/
def formatValidCard : Claim7 := { stood := { row := formatValidRow, standIns := [], harness := (true, "e6411029072f070febc4bef68aa03ef4844679614d8d5d5dabe12c75d800385a"), looks := true }, kinds := [], alts := [], laidByText := true, laidKinds := [.data, .data, .data, .data, .sentinel, .sentinel, .pinned], laidTests := true, laidLooks := .later }
def FormatValidCardSaid : Prop := Claim7.holds Tryd.pinned (.plain (OpenSpec.ofChange formatValidSpec)) formatValidCard

/-- THE SECOND FORM's CARD OF 'sealringlaw17.FormatMade'. -/
def formatMadeUptoCard : Claim7 := { stood := { row := formatMadeUptoRow, standIns := [], harness := (true, "e6411029072f070febc4bef68aa03ef4844679614d8d5d5dabe12c75d800385a"), looks := true }, kinds := [], alts := [], laidByText := true, laidKinds := [.data, .data, .data, .data, .sentinel, .sentinel, .pinned], laidTests := true, laidLooks := .later }
def FormatMadeUptoCardSaid : Prop := Claim7.holds Tryd.pinned (.plain (OpenSpec.upto formatMadeSpec)) formatMadeUptoCard

/-- THE SECOND FORM's CARD OF 'sealringlaw17.FormatFirst'. -/
def formatFirstUptoCard : Claim7 := { stood := { row := formatFirstUptoRow, standIns := [], harness := (true, "e6411029072f070febc4bef68aa03ef4844679614d8d5d5dabe12c75d800385a"), looks := true }, kinds := [], alts := [], laidByText := true, laidKinds := [.data, .data, .data, .data, .sentinel, .sentinel, .pinned], laidTests := true, laidLooks := .later }
def FormatFirstUptoCardSaid : Prop := Claim7.holds Tryd.pinned (.plain (OpenSpec.upto formatFirstSpec)) formatFirstUptoCard

/-- THE SECOND FORM's CARD OF 'sealringlaw17.FormatTagged'. -/
def formatTaggedUptoCard : Claim7 := { stood := { row := formatTaggedUptoRow, standIns := [], harness := (true, "e6411029072f070febc4bef68aa03ef4844679614d8d5d5dabe12c75d800385a"), looks := true }, kinds := [], alts := [], laidByText := true, laidKinds := [.data, .data, .data, .data, .sentinel, .sentinel, .pinned], laidTests := true, laidLooks := .later }
def FormatTaggedUptoCardSaid : Prop := Claim7.holds Tryd.pinned (.plain (OpenSpec.upto formatTaggedSpec)) formatTaggedUptoCard

/-- THE SECOND FORM's CARD OF 'sealringlaw17.FormatBounds'. -/
def formatBoundsUptoCard : Claim7 := { stood := { row := formatBoundsUptoRow, standIns := [], harness := (true, "e6411029072f070febc4bef68aa03ef4844679614d8d5d5dabe12c75d800385a"), looks := true }, kinds := [], alts := [], laidByText := true, laidKinds := [.data, .data, .data, .data, .sentinel, .sentinel, .pinned], laidTests := true, laidLooks := .later }
def FormatBoundsUptoCardSaid : Prop := Claim7.holds Tryd.pinned (.plain (OpenSpec.upto formatBoundsSpec)) formatBoundsUptoCard

/-- THE SECOND FORM's CARD OF 'sealringlaw17.FormatGenerate'. -/
def formatGenerateUptoCard : Claim7 := { stood := { row := formatGenerateUptoRow, standIns := [], harness := (true, "e6411029072f070febc4bef68aa03ef4844679614d8d5d5dabe12c75d800385a"), looks := true }, kinds := [], alts := [], laidByText := true, laidKinds := [.data, .data, .data, .data, .sentinel, .sentinel, .pinned], laidTests := true, laidLooks := .later }
def FormatGenerateUptoCardSaid : Prop := Claim7.holds Tryd.pinned (.plain (OpenSpec.upto formatGenerateSpec)) formatGenerateUptoCard

/-- THE SECOND FORM's CARD OF 'sealringlaw17.FormatValid'. -/
def formatValidUptoCard : Claim7 := { stood := { row := formatValidUptoRow, standIns := [], harness := (true, "e6411029072f070febc4bef68aa03ef4844679614d8d5d5dabe12c75d800385a"), looks := true }, kinds := [], alts := [], laidByText := true, laidKinds := [.data, .data, .data, .data, .sentinel, .sentinel, .pinned], laidTests := true, laidLooks := .later }
def FormatValidUptoCardSaid : Prop := Claim7.holds Tryd.pinned (.plain (OpenSpec.upto formatValidSpec)) formatValidUptoCard
end Rows
end Go.Proofs.YthfoclblmdnckaaDoor
