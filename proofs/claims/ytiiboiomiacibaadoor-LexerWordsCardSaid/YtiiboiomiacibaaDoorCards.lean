/-
  DERIVED. GIVEN WITH THE SEED: THE CARDS: each row of YtiiboiomiacibaaDoorRows.lean that lists a variable, with what it lists TIED to the program's text (the seventh form; the later family's looks); each row that meets fmt, with fmt's text TOLD by the authors' own Lean function (tested against real Go, not proved from fmt's source: count such statements apart). THE CARD IS WHAT COUNTS. Prove the row's statement (the work); the ties are given (YtiiboiomiacibaaDoorTie.lean); close each card by the builder's one call (the guide's Derived/Test/ToyasCard.lean, 'card_holds'). Laid BY PROGRAM, IN A SANDBOX (cutbox-door.mjs). By AI agents, Wed Nov 11 2026. No macro, syntax, notation, axiom, sorry.
-/
import Derived.Test.YtiiboiomiacibaaDoorRows
import GoSem.ClaimSeven
namespace Go.Proofs.YtiiboiomiacibaaDoor
namespace Rows

/-- THE TIED CARD OF 'sealringlaw21.LexerTokens'. -/
def lexerTokensCard : Claim7 := { stood := { row := lexerTokensRow, standIns := [], harness := (true, "7c16a5b2e22c060f12db12d89aaf721fb9fd23ead9c74ec56482145293a2d136"), looks := false }, kinds := [], alts := [], laidByText := true, laidKinds := [.data, .pinned], laidTests := true, laidLooks := .later }
def LexerTokensCardSaid : Prop := Claim7.holds Tryd.pinned (.plain (OpenSpec.ofChange lexerTokensSpec)) lexerTokensCard

/-- THE TIED CARD OF 'sealringlaw21.LexerNames'. -/
def lexerNamesCard : Claim7 := { stood := { row := lexerNamesRow, standIns := [], harness := (true, "7c16a5b2e22c060f12db12d89aaf721fb9fd23ead9c74ec56482145293a2d136"), looks := false }, kinds := [], alts := [], laidByText := true, laidKinds := [.data, .pinned], laidTests := true, laidLooks := .later }
def LexerNamesCardSaid : Prop := Claim7.holds Tryd.pinned (.plain (OpenSpec.ofChange lexerNamesSpec)) lexerNamesCard

/-- THE TIED CARD OF 'sealringlaw21.LexerLines'. -/
def lexerLinesCard : Claim7 := { stood := { row := lexerLinesRow, standIns := [], harness := (true, "7c16a5b2e22c060f12db12d89aaf721fb9fd23ead9c74ec56482145293a2d136"), looks := false }, kinds := [], alts := [], laidByText := true, laidKinds := [.data, .pinned], laidTests := true, laidLooks := .later }
def LexerLinesCardSaid : Prop := Claim7.holds Tryd.pinned (.plain (OpenSpec.ofChange lexerLinesSpec)) lexerLinesCard

/-- THE TIED CARD OF 'sealringlaw21.LexerQuote'. -/
def lexerQuoteCard : Claim7 := { stood := { row := lexerQuoteRow, standIns := [], harness := (true, "7c16a5b2e22c060f12db12d89aaf721fb9fd23ead9c74ec56482145293a2d136"), looks := false }, kinds := [], alts := [], laidByText := true, laidKinds := [.data, .pinned], laidTests := true, laidLooks := .later }
def LexerQuoteCardSaid : Prop := Claim7.holds Tryd.pinned (.plain (OpenSpec.ofChange lexerQuoteSpec)) lexerQuoteCard

/-- THE TIED CARD OF 'sealringlaw21.LexerUnquote'. -/
def lexerUnquoteCard : Claim7 := { stood := { row := lexerUnquoteRow, standIns := [], harness := (true, "7c16a5b2e22c060f12db12d89aaf721fb9fd23ead9c74ec56482145293a2d136"), looks := false }, kinds := [], alts := [], laidByText := true, laidKinds := [.data, .pinned], laidTests := true, laidLooks := .later }
def LexerUnquoteCardSaid : Prop := Claim7.holds Tryd.pinned (.plain (OpenSpec.ofChange lexerUnquoteSpec)) lexerUnquoteCard

/-- THE TIED CARD OF 'sealringlaw21.LexerSpace'. -/
def lexerSpaceCard : Claim7 := { stood := { row := lexerSpaceRow, standIns := [], harness := (true, "7c16a5b2e22c060f12db12d89aaf721fb9fd23ead9c74ec56482145293a2d136"), looks := false }, kinds := [], alts := [], laidByText := true, laidKinds := [.data, .data, .data, .data, .pinned], laidTests := true, laidLooks := .later }
def LexerSpaceCardSaid : Prop := Claim7.holds Tryd.pinned (.plain (OpenSpec.ofChange lexerSpaceSpec)) lexerSpaceCard

/-- THE TIED CARD OF 'sealringlaw21.LexerJoin'. -/
def lexerJoinCard : Claim7 := { stood := { row := lexerJoinRow, standIns := [], harness := (true, "7c16a5b2e22c060f12db12d89aaf721fb9fd23ead9c74ec56482145293a2d136"), looks := false }, kinds := [], alts := [], laidByText := true, laidKinds := [.data, .data, .data, .data, .pinned], laidTests := true, laidLooks := .later }
def LexerJoinCardSaid : Prop := Claim7.holds Tryd.pinned (.plain (OpenSpec.ofChange lexerJoinSpec)) lexerJoinCard

/-- THE TIED CARD OF 'sealringlaw21.LexerWords'. -/
def lexerWordsCard : Claim7 := { stood := { row := lexerWordsRow, standIns := [], harness := (true, "7c16a5b2e22c060f12db12d89aaf721fb9fd23ead9c74ec56482145293a2d136"), looks := false }, kinds := [], alts := [], laidByText := true, laidKinds := [.data, .data, .data, .data, .pinned], laidTests := true, laidLooks := .later }
def LexerWordsCardSaid : Prop := Claim7.holds Tryd.pinned (.plain (OpenSpec.ofChange lexerWordsSpec)) lexerWordsCard

/-- THE SECOND FORM's CARD OF 'sealringlaw21.LexerTokens'. -/
def lexerTokensUptoCard : Claim7 := { stood := { row := lexerTokensUptoRow, standIns := [], harness := (true, "7c16a5b2e22c060f12db12d89aaf721fb9fd23ead9c74ec56482145293a2d136"), looks := false }, kinds := [], alts := [], laidByText := true, laidKinds := [.data, .pinned], laidTests := true, laidLooks := .later }
def LexerTokensUptoCardSaid : Prop := Claim7.holds Tryd.pinned (.plain (OpenSpec.upto lexerTokensSpec)) lexerTokensUptoCard

/-- THE SECOND FORM's CARD OF 'sealringlaw21.LexerNames'. -/
def lexerNamesUptoCard : Claim7 := { stood := { row := lexerNamesUptoRow, standIns := [], harness := (true, "7c16a5b2e22c060f12db12d89aaf721fb9fd23ead9c74ec56482145293a2d136"), looks := false }, kinds := [], alts := [], laidByText := true, laidKinds := [.data, .pinned], laidTests := true, laidLooks := .later }
def LexerNamesUptoCardSaid : Prop := Claim7.holds Tryd.pinned (.plain (OpenSpec.upto lexerNamesSpec)) lexerNamesUptoCard

/-- THE SECOND FORM's CARD OF 'sealringlaw21.LexerLines'. -/
def lexerLinesUptoCard : Claim7 := { stood := { row := lexerLinesUptoRow, standIns := [], harness := (true, "7c16a5b2e22c060f12db12d89aaf721fb9fd23ead9c74ec56482145293a2d136"), looks := false }, kinds := [], alts := [], laidByText := true, laidKinds := [.data, .pinned], laidTests := true, laidLooks := .later }
def LexerLinesUptoCardSaid : Prop := Claim7.holds Tryd.pinned (.plain (OpenSpec.upto lexerLinesSpec)) lexerLinesUptoCard

/-- THE SECOND FORM's CARD OF 'sealringlaw21.LexerQuote'. -/
def lexerQuoteUptoCard : Claim7 := { stood := { row := lexerQuoteUptoRow, standIns := [], harness := (true, "7c16a5b2e22c060f12db12d89aaf721fb9fd23ead9c74ec56482145293a2d136"), looks := false }, kinds := [], alts := [], laidByText := true, laidKinds := [.data, .pinned], laidTests := true, laidLooks := .later }
def LexerQuoteUptoCardSaid : Prop := Claim7.holds Tryd.pinned (.plain (OpenSpec.upto lexerQuoteSpec)) lexerQuoteUptoCard

/-- THE SECOND FORM's CARD OF 'sealringlaw21.LexerUnquote'. -/
def lexerUnquoteUptoCard : Claim7 := { stood := { row := lexerUnquoteUptoRow, standIns := [], harness := (true, "7c16a5b2e22c060f12db12d89aaf721fb9fd23ead9c74ec56482145293a2d136"), looks := false }, kinds := [], alts := [], laidByText := true, laidKinds := [.data, .pinned], laidTests := true, laidLooks := .later }
def LexerUnquoteUptoCardSaid : Prop := Claim7.holds Tryd.pinned (.plain (OpenSpec.upto lexerUnquoteSpec)) lexerUnquoteUptoCard

/-- THE SECOND FORM's CARD OF 'sealringlaw21.LexerSpace'. -/
def lexerSpaceUptoCard : Claim7 := { stood := { row := lexerSpaceUptoRow, standIns := [], harness := (true, "7c16a5b2e22c060f12db12d89aaf721fb9fd23ead9c74ec56482145293a2d136"), looks := false }, kinds := [], alts := [], laidByText := true, laidKinds := [.data, .data, .data, .data, .pinned], laidTests := true, laidLooks := .later }
def LexerSpaceUptoCardSaid : Prop := Claim7.holds Tryd.pinned (.plain (OpenSpec.upto lexerSpaceSpec)) lexerSpaceUptoCard

/-- THE SECOND FORM's CARD OF 'sealringlaw21.LexerJoin'. -/
def lexerJoinUptoCard : Claim7 := { stood := { row := lexerJoinUptoRow, standIns := [], harness := (true, "7c16a5b2e22c060f12db12d89aaf721fb9fd23ead9c74ec56482145293a2d136"), looks := false }, kinds := [], alts := [], laidByText := true, laidKinds := [.data, .data, .data, .data, .pinned], laidTests := true, laidLooks := .later }
def LexerJoinUptoCardSaid : Prop := Claim7.holds Tryd.pinned (.plain (OpenSpec.upto lexerJoinSpec)) lexerJoinUptoCard

/-- THE SECOND FORM's CARD OF 'sealringlaw21.LexerWords'. -/
def lexerWordsUptoCard : Claim7 := { stood := { row := lexerWordsUptoRow, standIns := [], harness := (true, "7c16a5b2e22c060f12db12d89aaf721fb9fd23ead9c74ec56482145293a2d136"), looks := false }, kinds := [], alts := [], laidByText := true, laidKinds := [.data, .data, .data, .data, .pinned], laidTests := true, laidLooks := .later }
def LexerWordsUptoCardSaid : Prop := Claim7.holds Tryd.pinned (.plain (OpenSpec.upto lexerWordsSpec)) lexerWordsUptoCard
end Rows
end Go.Proofs.YtiiboiomiacibaaDoor
