/-
  DERIVED. GIVEN WITH THE SEED: THE CARDS: each row of YtginljdgdllhfaaDoorRows.lean that lists a variable, with what it lists TIED to the program's text (the seventh form; the later family's looks); each row that meets fmt, with fmt's text TOLD by the authors' own Lean function (tested against real Go, not proved from fmt's source: count such statements apart). THE CARD IS WHAT COUNTS. Prove the row's statement (the work); the ties are given (YtginljdgdllhfaaDoorTie.lean); close each card by the builder's one call (the guide's Derived/Test/ToyasCard.lean, 'card_holds'). Laid BY PROGRAM, IN A SANDBOX (cutbox-door.mjs). By AI agents, Wed Nov 11 2026. No macro, syntax, notation, axiom, sorry.
-/
import Derived.Test.YtginljdgdllhfaaDoorRows
import GoSem.ClaimSeven
namespace Go.Proofs.YtginljdgdllhfaaDoor
namespace Rows

/-- THE TIED CARD OF 'sealringlaw56.LedgerForks'. -/
def ledgerForksCard : Claim7 := { stood := { row := ledgerForksRow, standIns := [], harness := (true, "73eef11db0a24ff9382c934b7fd67d14e68ac95f7d78ab09a48c3d35bb676315"), looks := false }, kinds := [], alts := [], laidByText := true, laidKinds := [.data, .data, .data], laidTests := true, laidLooks := .later }
def LedgerForksCardSaid : Prop := Claim7.holds Tryd.pinned (.plain (OpenSpec.ofChange ledgerForksSpec)) ledgerForksCard

/-- THE SECOND FORM's CARD OF 'sealringlaw56.LedgerForks'. -/
def ledgerForksUptoCard : Claim7 := { stood := { row := ledgerForksUptoRow, standIns := [], harness := (true, "73eef11db0a24ff9382c934b7fd67d14e68ac95f7d78ab09a48c3d35bb676315"), looks := false }, kinds := [], alts := [], laidByText := true, laidKinds := [.data, .data, .data], laidTests := true, laidLooks := .later }
def LedgerForksUptoCardSaid : Prop := Claim7.holds Tryd.pinned (.plain (OpenSpec.upto ledgerForksSpec)) ledgerForksUptoCard
end Rows
end Go.Proofs.YtginljdgdllhfaaDoor
