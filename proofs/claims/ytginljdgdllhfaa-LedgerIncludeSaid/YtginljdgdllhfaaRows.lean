/-
  NARROWER THAN 'FOR EVERY INPUT', by the rows' own cells (each row's printed sentence says how): LedgerHead: loops · LedgerFind: loops · LedgerInclude: loops · LedgerIncluded: loops · LedgerExtend: loops · LedgerExtended: loops · LedgerChecks: loops.
  DERIVED. THE GIVEN ROWS OF THIS SEAT. 7 by the template 'for every input the law returns true; each argument reads behind the call as it read before'; 0 by the template 'total and deterministic' (their statements: YtginljdgdllhfaaTotals.lean).
  GIVEN WITH THE SEED: the statements are not yours to turn. If you find one false, say at which input.
  Laid BY PROGRAM, IN A SANDBOX (cutbox-rows.mjs): the forced cells as the released guide's own fill.sh prints them over the translation 356a0bbadd7f55df… (all of the seat's roots in one cut). By AI agents, Wed Nov 11 2026. No macro, syntax, notation, axiom, sorry.
-/
import Derived.Test.YtginljdgdllhfaaChecked
import GoSem.Claim
import GoSem.ClaimJoined
import GoSem.ClaimMapViews
import Derived.JoinedTies
import Derived.KernelRfl
namespace Go.Proofs.Ytginljdgdllhfaa
/- THE CELL 'sum', in the pinned program and in every row, IS THE sha256 OF THE DUMP (.gsa) THAT YtginljdgdllhfaaProg.lean LOADS. Nothing in Lean hashes anything: it is a label: what it is worth is what the hold of that sum in a sandbox is worth. -/
noncomputable def Try.pinned : Pinned := { name := "ytginljdgdllhfaa", sum := "356a0bbadd7f55dfd96e5a33fdb0d57e4ed0acf6fd356aade9cdbc1f63292209", checked := Try.checked }
namespace Rows
def none {H : Type} : Left H := { results := [], args := [] }

/-- 'sealringlaw56.LedgerHead': WHATEVER THE INPUT: true; the input reads as it did. -/
def ledgerHeadSpec : ChangeSpec := { name := "ledgerHead", fn := fun _ => fun
  | [d1, d2] => { results := [.lit (.bool true)], args := [d1, d2] }
  | _ => none }
def ledgerHeadRow : OpenClaim := { program := "ytginljdgdllhfaa", sum := "356a0bbadd7f55dfd96e5a33fdb0d57e4ed0acf6fd356aade9cdbc1f63292209", func := "sealring/sealringlaw56.LedgerHead", spec := "ledgerHead", recurses := true, loops := true, apart := false }
def LedgerHeadSaid : Prop := ledgerHeadRow.holds Try.pinned (OpenSpec.ofChange ledgerHeadSpec)

/-- ITS FALSE NEIGHBOUR: 'it returns false'. Refute it at one input. -/
def ledgerHeadWrong : ChangeSpec := { name := "ledgerHead", fn := fun _ => fun
  | [d1, d2] => { results := [.lit (.bool false)], args := [d1, d2] }
  | _ => none }
def LedgerHeadWrongFalsely : Prop := ledgerHeadRow.holds Try.pinned (OpenSpec.ofChange ledgerHeadWrong)

/-- 'sealringlaw56.LedgerFind': WHATEVER THE INPUT: true; the input reads as it did. -/
def ledgerFindSpec : ChangeSpec := { name := "ledgerFind", fn := fun _ => fun
  | [d1, d2] => { results := [.lit (.bool true)], args := [d1, d2] }
  | _ => none }
def ledgerFindRow : OpenClaim := { program := "ytginljdgdllhfaa", sum := "356a0bbadd7f55dfd96e5a33fdb0d57e4ed0acf6fd356aade9cdbc1f63292209", func := "sealring/sealringlaw56.LedgerFind", spec := "ledgerFind", recurses := true, loops := true, apart := false }
def LedgerFindSaid : Prop := ledgerFindRow.holds Try.pinned (OpenSpec.ofChange ledgerFindSpec)

/-- ITS FALSE NEIGHBOUR: 'it returns false'. Refute it at one input. -/
def ledgerFindWrong : ChangeSpec := { name := "ledgerFind", fn := fun _ => fun
  | [d1, d2] => { results := [.lit (.bool false)], args := [d1, d2] }
  | _ => none }
def LedgerFindWrongFalsely : Prop := ledgerFindRow.holds Try.pinned (OpenSpec.ofChange ledgerFindWrong)

/-- 'sealringlaw56.LedgerInclude': WHATEVER THE INPUT: true; the input reads as it did. -/
def ledgerIncludeSpec : ChangeSpec := { name := "ledgerInclude", fn := fun _ => fun
  | [d1, d2] => { results := [.lit (.bool true)], args := [d1, d2] }
  | _ => none }
def ledgerIncludeRow : OpenClaim := { program := "ytginljdgdllhfaa", sum := "356a0bbadd7f55dfd96e5a33fdb0d57e4ed0acf6fd356aade9cdbc1f63292209", func := "sealring/sealringlaw56.LedgerInclude", spec := "ledgerInclude", inPlace := ["internal/bytealg.abigen_runtime_cmpstring"], recurses := true, loops := true, apart := false }
def LedgerIncludeSaid : Prop := ledgerIncludeRow.holds Try.pinned (OpenSpec.ofChange ledgerIncludeSpec)

/-- ITS FALSE NEIGHBOUR: 'it returns false'. Refute it at one input. -/
def ledgerIncludeWrong : ChangeSpec := { name := "ledgerInclude", fn := fun _ => fun
  | [d1, d2] => { results := [.lit (.bool false)], args := [d1, d2] }
  | _ => none }
def LedgerIncludeWrongFalsely : Prop := ledgerIncludeRow.holds Try.pinned (OpenSpec.ofChange ledgerIncludeWrong)

/-- 'sealringlaw56.LedgerIncluded': WHATEVER THE INPUT: true; the input reads as it did. -/
def ledgerIncludedSpec : ChangeSpec := { name := "ledgerIncluded", fn := fun _ => fun
  | [d1, d2] => { results := [.lit (.bool true)], args := [d1, d2] }
  | _ => none }
def ledgerIncludedRow : OpenClaim := { program := "ytginljdgdllhfaa", sum := "356a0bbadd7f55dfd96e5a33fdb0d57e4ed0acf6fd356aade9cdbc1f63292209", func := "sealring/sealringlaw56.LedgerIncluded", spec := "ledgerIncluded", inPlace := ["internal/bytealg.abigen_runtime_cmpstring"], recurses := true, loops := true, apart := false }
def LedgerIncludedSaid : Prop := ledgerIncludedRow.holds Try.pinned (OpenSpec.ofChange ledgerIncludedSpec)

/-- ITS FALSE NEIGHBOUR: 'it returns false'. Refute it at one input. -/
def ledgerIncludedWrong : ChangeSpec := { name := "ledgerIncluded", fn := fun _ => fun
  | [d1, d2] => { results := [.lit (.bool false)], args := [d1, d2] }
  | _ => none }
def LedgerIncludedWrongFalsely : Prop := ledgerIncludedRow.holds Try.pinned (OpenSpec.ofChange ledgerIncludedWrong)

/-- 'sealringlaw56.LedgerExtend': WHATEVER THE INPUT: true; the input reads as it did. -/
def ledgerExtendSpec : ChangeSpec := { name := "ledgerExtend", fn := fun _ => fun
  | [d1, d2] => { results := [.lit (.bool true)], args := [d1, d2] }
  | _ => none }
def ledgerExtendRow : OpenClaim := { program := "ytginljdgdllhfaa", sum := "356a0bbadd7f55dfd96e5a33fdb0d57e4ed0acf6fd356aade9cdbc1f63292209", func := "sealring/sealringlaw56.LedgerExtend", spec := "ledgerExtend", inPlace := ["internal/bytealg.abigen_runtime_cmpstring"], recurses := true, loops := true, apart := false }
def LedgerExtendSaid : Prop := ledgerExtendRow.holds Try.pinned (OpenSpec.ofChange ledgerExtendSpec)

/-- ITS FALSE NEIGHBOUR: 'it returns false'. Refute it at one input. -/
def ledgerExtendWrong : ChangeSpec := { name := "ledgerExtend", fn := fun _ => fun
  | [d1, d2] => { results := [.lit (.bool false)], args := [d1, d2] }
  | _ => none }
def LedgerExtendWrongFalsely : Prop := ledgerExtendRow.holds Try.pinned (OpenSpec.ofChange ledgerExtendWrong)

/-- 'sealringlaw56.LedgerExtended': WHATEVER THE INPUT: true; the input reads as it did. -/
def ledgerExtendedSpec : ChangeSpec := { name := "ledgerExtended", fn := fun _ => fun
  | [d1, d2] => { results := [.lit (.bool true)], args := [d1, d2] }
  | _ => none }
def ledgerExtendedRow : OpenClaim := { program := "ytginljdgdllhfaa", sum := "356a0bbadd7f55dfd96e5a33fdb0d57e4ed0acf6fd356aade9cdbc1f63292209", func := "sealring/sealringlaw56.LedgerExtended", spec := "ledgerExtended", inPlace := ["internal/bytealg.abigen_runtime_cmpstring"], recurses := true, loops := true, apart := false }
def LedgerExtendedSaid : Prop := ledgerExtendedRow.holds Try.pinned (OpenSpec.ofChange ledgerExtendedSpec)

/-- ITS FALSE NEIGHBOUR: 'it returns false'. Refute it at one input. -/
def ledgerExtendedWrong : ChangeSpec := { name := "ledgerExtended", fn := fun _ => fun
  | [d1, d2] => { results := [.lit (.bool false)], args := [d1, d2] }
  | _ => none }
def LedgerExtendedWrongFalsely : Prop := ledgerExtendedRow.holds Try.pinned (OpenSpec.ofChange ledgerExtendedWrong)

/-- 'sealringlaw56.LedgerChecks': WHATEVER THE INPUT: true; the input reads as it did. -/
def ledgerChecksSpec : ChangeSpec := { name := "ledgerChecks", fn := fun _ => fun
  | [d] => { results := [.lit (.bool true)], args := [d] }
  | _ => none }
def ledgerChecksRow : OpenClaim := { program := "ytginljdgdllhfaa", sum := "356a0bbadd7f55dfd96e5a33fdb0d57e4ed0acf6fd356aade9cdbc1f63292209", func := "sealring/sealringlaw56.LedgerChecks", spec := "ledgerChecks", inPlace := ["internal/bytealg.abigen_runtime_cmpstring"], recurses := true, loops := true, apart := false }
def LedgerChecksSaid : Prop := ledgerChecksRow.holds Try.pinned (OpenSpec.ofChange ledgerChecksSpec)

/-- ITS FALSE NEIGHBOUR: 'it returns false'. Refute it at one input. -/
def ledgerChecksWrong : ChangeSpec := { name := "ledgerChecks", fn := fun _ => fun
  | [d] => { results := [.lit (.bool false)], args := [d] }
  | _ => none }
def LedgerChecksWrongFalsely : Prop := ledgerChecksRow.holds Try.pinned (OpenSpec.ofChange ledgerChecksWrong)

/- THE SECOND FORM. 'bulk': how many values and letters a reading holds, each counted each time it is reached (what is shared counts as often as it is met; a slice's spare places count too). A statement '..UptoSaid' is the law's where the arguments, and the package variables that the reading takes, are together of bulk at most 1048576: NARROWER than '..Said'. Prove '..Said' where nothing that the law and all that it calls make is longer than what came in: it says more and counts as full. Else prove '..UptoSaid'. A law counts once. -/
mutual
def uptoBulk {H : Type} : DataW H → Nat
  | .lit (.string bytes) => bytes.length + 1
  | .lit _ => 1
  | .nil => 1
  | .ptr d => uptoBulk d + 1
  | .slice elems spare => uptoBulkAll elems + uptoBulkAll spare + 1
  | .agg parts => uptoBulkAll parts + 1
  | .iface _ d => uptoBulk d + 1
  | .map entries => uptoBulkEntries entries + 1
  | .held _ => 1
def uptoBulkAll {H : Type} : List (DataW H) → Nat
  | [] => 0
  | d :: r => uptoBulk d + uptoBulkAll r
def uptoBulkEntries {H : Type} : List (Lit × DataW H) → Nat
  | [] => 0
  | x :: r => uptoBulkEntry x + uptoBulkEntries r
def uptoBulkEntry {H : Type} : Lit × DataW H → Nat
  | (.string bytes, d) => bytes.length + uptoBulk d + 1
  | (_, d) => uptoBulk d + 1
 end
def uptoSmall : (H : Type) → List (DataW H) → Bool := fun _ ds => decide (uptoBulkAll ds ≤ 1048576)
def OpenSpec.upto (s : _root_.Go.ChangeSpec) : _root_.Go.OpenSpec := { _root_.Go.OpenSpec.ofChange s with cond := some uptoSmall }

/-- 'sealringlaw56.LedgerHead', WHERE WHAT IT READS IS OF BULK AT MOST 1048576: true; the input reads as it did. -/
def ledgerHeadUptoRow : OpenClaim := { program := "ytginljdgdllhfaa", sum := "356a0bbadd7f55dfd96e5a33fdb0d57e4ed0acf6fd356aade9cdbc1f63292209", func := "sealring/sealringlaw56.LedgerHead", spec := "ledgerHead", recurses := true, loops := true, apart := false, narrowed := true }
def LedgerHeadUptoSaid : Prop := ledgerHeadUptoRow.holds Try.pinned (OpenSpec.upto ledgerHeadSpec)

/-- 'sealringlaw56.LedgerFind', WHERE WHAT IT READS IS OF BULK AT MOST 1048576: true; the input reads as it did. -/
def ledgerFindUptoRow : OpenClaim := { program := "ytginljdgdllhfaa", sum := "356a0bbadd7f55dfd96e5a33fdb0d57e4ed0acf6fd356aade9cdbc1f63292209", func := "sealring/sealringlaw56.LedgerFind", spec := "ledgerFind", recurses := true, loops := true, apart := false, narrowed := true }
def LedgerFindUptoSaid : Prop := ledgerFindUptoRow.holds Try.pinned (OpenSpec.upto ledgerFindSpec)

/-- 'sealringlaw56.LedgerInclude', WHERE WHAT IT READS IS OF BULK AT MOST 1048576: true; the input reads as it did. -/
def ledgerIncludeUptoRow : OpenClaim := { program := "ytginljdgdllhfaa", sum := "356a0bbadd7f55dfd96e5a33fdb0d57e4ed0acf6fd356aade9cdbc1f63292209", func := "sealring/sealringlaw56.LedgerInclude", spec := "ledgerInclude", inPlace := ["internal/bytealg.abigen_runtime_cmpstring"], recurses := true, loops := true, apart := false, narrowed := true }
def LedgerIncludeUptoSaid : Prop := ledgerIncludeUptoRow.holds Try.pinned (OpenSpec.upto ledgerIncludeSpec)

/-- 'sealringlaw56.LedgerIncluded', WHERE WHAT IT READS IS OF BULK AT MOST 1048576: true; the input reads as it did. -/
def ledgerIncludedUptoRow : OpenClaim := { program := "ytginljdgdllhfaa", sum := "356a0bbadd7f55dfd96e5a33fdb0d57e4ed0acf6fd356aade9cdbc1f63292209", func := "sealring/sealringlaw56.LedgerIncluded", spec := "ledgerIncluded", inPlace := ["internal/bytealg.abigen_runtime_cmpstring"], recurses := true, loops := true, apart := false, narrowed := true }
def LedgerIncludedUptoSaid : Prop := ledgerIncludedUptoRow.holds Try.pinned (OpenSpec.upto ledgerIncludedSpec)

/-- 'sealringlaw56.LedgerExtend', WHERE WHAT IT READS IS OF BULK AT MOST 1048576: true; the input reads as it did. -/
def ledgerExtendUptoRow : OpenClaim := { program := "ytginljdgdllhfaa", sum := "356a0bbadd7f55dfd96e5a33fdb0d57e4ed0acf6fd356aade9cdbc1f63292209", func := "sealring/sealringlaw56.LedgerExtend", spec := "ledgerExtend", inPlace := ["internal/bytealg.abigen_runtime_cmpstring"], recurses := true, loops := true, apart := false, narrowed := true }
def LedgerExtendUptoSaid : Prop := ledgerExtendUptoRow.holds Try.pinned (OpenSpec.upto ledgerExtendSpec)

/-- 'sealringlaw56.LedgerExtended', WHERE WHAT IT READS IS OF BULK AT MOST 1048576: true; the input reads as it did. -/
def ledgerExtendedUptoRow : OpenClaim := { program := "ytginljdgdllhfaa", sum := "356a0bbadd7f55dfd96e5a33fdb0d57e4ed0acf6fd356aade9cdbc1f63292209", func := "sealring/sealringlaw56.LedgerExtended", spec := "ledgerExtended", inPlace := ["internal/bytealg.abigen_runtime_cmpstring"], recurses := true, loops := true, apart := false, narrowed := true }
def LedgerExtendedUptoSaid : Prop := ledgerExtendedUptoRow.holds Try.pinned (OpenSpec.upto ledgerExtendedSpec)

/-- 'sealringlaw56.LedgerChecks', WHERE WHAT IT READS IS OF BULK AT MOST 1048576: true; the input reads as it did. -/
def ledgerChecksUptoRow : OpenClaim := { program := "ytginljdgdllhfaa", sum := "356a0bbadd7f55dfd96e5a33fdb0d57e4ed0acf6fd356aade9cdbc1f63292209", func := "sealring/sealringlaw56.LedgerChecks", spec := "ledgerChecks", inPlace := ["internal/bytealg.abigen_runtime_cmpstring"], recurses := true, loops := true, apart := false, narrowed := true }
def LedgerChecksUptoSaid : Prop := ledgerChecksUptoRow.holds Try.pinned (OpenSpec.upto ledgerChecksSpec)

end Rows
end Go.Proofs.Ytginljdgdllhfaa
