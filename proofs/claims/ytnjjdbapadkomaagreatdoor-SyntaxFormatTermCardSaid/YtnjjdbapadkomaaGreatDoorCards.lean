/-
  DERIVED. GIVEN WITH THE SEED: THE CARDS: each row of YtnjjdbapadkomaaGreatDoorRows.lean that lists a variable, with what it lists TIED to the program's text (the seventh form; the later family's looks); each row that meets fmt, with fmt's text TOLD by the authors' own Lean function (tested against real Go, not proved from fmt's source: count such statements apart). THE CARD IS WHAT COUNTS. Prove the row's statement (the work); the ties are given (YtnjjdbapadkomaaGreatDoorTie.lean); close each card by the builder's one call (the guide's Derived/Test/ToyasCard.lean, 'card_holds'). Laid BY PROGRAM, IN A SANDBOX (cutbox-door.mjs). By AI agents, Wed Nov 11 2026. No macro, syntax, notation, axiom, sorry.
-/
import Derived.Test.YtnjjdbapadkomaaGreatDoorRows
import GoSem.ClaimSeven
namespace Go.Proofs.YtnjjdbapadkomaaGreatDoor
namespace Rows

/-- THE TIED CARD OF 'sealringlaw22.SyntaxValid'. -/
def syntaxValidCard : Claim7 := { stood := { row := syntaxValidRow, standIns := [], harness := (true, "3b7367da3b5c0e18606c4d6ba2db7e840202cfbbdc2f012b3bc9efb88eb27d4f"), looks := false }, kinds := [], alts := [], laidByText := true, laidKinds := [.data, .pinned], laidTests := true, laidLooks := .later }
def SyntaxValidCardSaid : Prop := Claim7.holds Tryz.pinned (.plain (OpenSpec.ofChange syntaxValidSpec)) syntaxValidCard

/-- THE TIED CARD OF 'sealringlaw22.SyntaxTerm'. -/
def syntaxTermCard : Claim7 := { stood := { row := syntaxTermRow, standIns := [], harness := (true, "3b7367da3b5c0e18606c4d6ba2db7e840202cfbbdc2f012b3bc9efb88eb27d4f"), looks := false }, kinds := [], alts := [], laidByText := true, laidKinds := [.data, .pinned], laidTests := true, laidLooks := .later }
def SyntaxTermCardSaid : Prop := Claim7.holds Tryz.pinned (.plain (OpenSpec.ofChange syntaxTermSpec)) syntaxTermCard

/-- THE TIED CARD OF 'sealringlaw22.SyntaxSpace'. -/
def syntaxSpaceCard : Claim7 := { stood := { row := syntaxSpaceRow, standIns := [], harness := (true, "3b7367da3b5c0e18606c4d6ba2db7e840202cfbbdc2f012b3bc9efb88eb27d4f"), looks := false }, kinds := [], alts := [], laidByText := true, laidKinds := [.data, .pinned], laidTests := true, laidLooks := .later }
def SyntaxSpaceCardSaid : Prop := Claim7.holds Tryz.pinned (.plain (OpenSpec.ofChange syntaxSpaceSpec)) syntaxSpaceCard

/-- THE TIED CARD OF 'sealringlaw22.SyntaxItems'. -/
def syntaxItemsCard : Claim7 := { stood := { row := syntaxItemsRow, standIns := [], harness := (true, "3b7367da3b5c0e18606c4d6ba2db7e840202cfbbdc2f012b3bc9efb88eb27d4f"), looks := false }, kinds := [], alts := [], laidByText := true, laidKinds := [.data, .pinned], laidTests := true, laidLooks := .later }
def SyntaxItemsCardSaid : Prop := Claim7.holds Tryz.pinned (.plain (OpenSpec.ofChange syntaxItemsSpec)) syntaxItemsCard

/-- THE TIED CARD OF 'sealringlaw22.SyntaxParse'. -/
def syntaxParseCard : Claim7 := { stood := { row := syntaxParseRow, standIns := [], harness := (true, "3b7367da3b5c0e18606c4d6ba2db7e840202cfbbdc2f012b3bc9efb88eb27d4f"), looks := false }, kinds := [], alts := [], laidByText := true, laidKinds := [.data, .pinned], laidTests := true, laidLooks := .later }
def SyntaxParseCardSaid : Prop := Claim7.holds Tryz.pinned (.plain (OpenSpec.ofChange syntaxParseSpec)) syntaxParseCard

/-- THE TIED CARD OF 'sealringlaw22.SyntaxGoals'. -/
def syntaxGoalsCard : Claim7 := { stood := { row := syntaxGoalsRow, standIns := [], harness := (true, "3b7367da3b5c0e18606c4d6ba2db7e840202cfbbdc2f012b3bc9efb88eb27d4f"), looks := false }, kinds := [], alts := [], laidByText := true, laidKinds := [.data, .pinned], laidTests := true, laidLooks := .later }
def SyntaxGoalsCardSaid : Prop := Claim7.holds Tryz.pinned (.plain (OpenSpec.ofChange syntaxGoalsSpec)) syntaxGoalsCard

/-- THE TIED CARD OF 'sealringlaw22.SyntaxFormatTerm'. -/
def syntaxFormatTermCard : Claim7 := { stood := { row := syntaxFormatTermRow, standIns := [], harness := (true, "3b7367da3b5c0e18606c4d6ba2db7e840202cfbbdc2f012b3bc9efb88eb27d4f"), looks := false }, kinds := [], alts := [], laidByText := true, laidKinds := [.data, .pinned], laidTests := true, laidLooks := .later }
def SyntaxFormatTermCardSaid : Prop := Claim7.holds Tryz.pinned (.plain (OpenSpec.ofChange syntaxFormatTermSpec)) syntaxFormatTermCard

/-- THE SECOND FORM's CARD OF 'sealringlaw22.SyntaxValid'. -/
def syntaxValidUptoCard : Claim7 := { stood := { row := syntaxValidUptoRow, standIns := [], harness := (true, "3b7367da3b5c0e18606c4d6ba2db7e840202cfbbdc2f012b3bc9efb88eb27d4f"), looks := false }, kinds := [], alts := [], laidByText := true, laidKinds := [.data, .pinned], laidTests := true, laidLooks := .later }
def SyntaxValidUptoCardSaid : Prop := Claim7.holds Tryz.pinned (.plain (OpenSpec.upto syntaxValidSpec)) syntaxValidUptoCard

/-- THE SECOND FORM's CARD OF 'sealringlaw22.SyntaxTerm'. -/
def syntaxTermUptoCard : Claim7 := { stood := { row := syntaxTermUptoRow, standIns := [], harness := (true, "3b7367da3b5c0e18606c4d6ba2db7e840202cfbbdc2f012b3bc9efb88eb27d4f"), looks := false }, kinds := [], alts := [], laidByText := true, laidKinds := [.data, .pinned], laidTests := true, laidLooks := .later }
def SyntaxTermUptoCardSaid : Prop := Claim7.holds Tryz.pinned (.plain (OpenSpec.upto syntaxTermSpec)) syntaxTermUptoCard

/-- THE SECOND FORM's CARD OF 'sealringlaw22.SyntaxSpace'. -/
def syntaxSpaceUptoCard : Claim7 := { stood := { row := syntaxSpaceUptoRow, standIns := [], harness := (true, "3b7367da3b5c0e18606c4d6ba2db7e840202cfbbdc2f012b3bc9efb88eb27d4f"), looks := false }, kinds := [], alts := [], laidByText := true, laidKinds := [.data, .pinned], laidTests := true, laidLooks := .later }
def SyntaxSpaceUptoCardSaid : Prop := Claim7.holds Tryz.pinned (.plain (OpenSpec.upto syntaxSpaceSpec)) syntaxSpaceUptoCard

/-- THE SECOND FORM's CARD OF 'sealringlaw22.SyntaxItems'. -/
def syntaxItemsUptoCard : Claim7 := { stood := { row := syntaxItemsUptoRow, standIns := [], harness := (true, "3b7367da3b5c0e18606c4d6ba2db7e840202cfbbdc2f012b3bc9efb88eb27d4f"), looks := false }, kinds := [], alts := [], laidByText := true, laidKinds := [.data, .pinned], laidTests := true, laidLooks := .later }
def SyntaxItemsUptoCardSaid : Prop := Claim7.holds Tryz.pinned (.plain (OpenSpec.upto syntaxItemsSpec)) syntaxItemsUptoCard

/-- THE SECOND FORM's CARD OF 'sealringlaw22.SyntaxParse'. -/
def syntaxParseUptoCard : Claim7 := { stood := { row := syntaxParseUptoRow, standIns := [], harness := (true, "3b7367da3b5c0e18606c4d6ba2db7e840202cfbbdc2f012b3bc9efb88eb27d4f"), looks := false }, kinds := [], alts := [], laidByText := true, laidKinds := [.data, .pinned], laidTests := true, laidLooks := .later }
def SyntaxParseUptoCardSaid : Prop := Claim7.holds Tryz.pinned (.plain (OpenSpec.upto syntaxParseSpec)) syntaxParseUptoCard

/-- THE SECOND FORM's CARD OF 'sealringlaw22.SyntaxGoals'. -/
def syntaxGoalsUptoCard : Claim7 := { stood := { row := syntaxGoalsUptoRow, standIns := [], harness := (true, "3b7367da3b5c0e18606c4d6ba2db7e840202cfbbdc2f012b3bc9efb88eb27d4f"), looks := false }, kinds := [], alts := [], laidByText := true, laidKinds := [.data, .pinned], laidTests := true, laidLooks := .later }
def SyntaxGoalsUptoCardSaid : Prop := Claim7.holds Tryz.pinned (.plain (OpenSpec.upto syntaxGoalsSpec)) syntaxGoalsUptoCard

/-- THE SECOND FORM's CARD OF 'sealringlaw22.SyntaxFormatTerm'. -/
def syntaxFormatTermUptoCard : Claim7 := { stood := { row := syntaxFormatTermUptoRow, standIns := [], harness := (true, "3b7367da3b5c0e18606c4d6ba2db7e840202cfbbdc2f012b3bc9efb88eb27d4f"), looks := false }, kinds := [], alts := [], laidByText := true, laidKinds := [.data, .pinned], laidTests := true, laidLooks := .later }
def SyntaxFormatTermUptoCardSaid : Prop := Claim7.holds Tryz.pinned (.plain (OpenSpec.upto syntaxFormatTermSpec)) syntaxFormatTermUptoCard
end Rows
end Go.Proofs.YtnjjdbapadkomaaGreatDoor
