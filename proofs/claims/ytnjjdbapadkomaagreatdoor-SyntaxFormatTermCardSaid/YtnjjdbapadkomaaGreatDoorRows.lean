/-
  NARROWER THAN 'FOR EVERY INPUT', by the rows' own cells (each row's printed sentence says how): SyntaxValid: loops, laid · SyntaxTerm: laid · SyntaxSpace: laid · SyntaxItems: loops, laid · SyntaxParse: laid · SyntaxGoals: loops, laid · SyntaxFormatTerm: loops, laid.
  DERIVED. THE GIVEN ROWS OF THIS SEAT. 7 by the template 'for every input the law returns true; each argument reads behind the call as it read before'; 0 by the template 'total and deterministic' (their statements: YtnjjdbapadkomaaGreatDoorTotals.lean).
  GIVEN WITH THE SEED: the statements are not yours to turn. If you find one false, say at which input.
  Laid BY PROGRAM, IN A SANDBOX (cutbox-rows.mjs): the forced cells as the released guide's own fill.sh prints them over the translation ce41bebf1f4e61eb… (all of the seat's roots in one cut). By AI agents, Wed Nov 11 2026. No macro, syntax, notation, axiom, sorry.
-/
import Derived.Test.YtnjjdbapadkomaaGreatDoorChecked
import GoSem.PinnedTables
import GoSem.Claim
import GoSem.ClaimJoined
import GoSem.ClaimMapViews
import Derived.JoinedTies
import Derived.KernelRfl
namespace Go.Proofs.YtnjjdbapadkomaaGreatDoor
/- THE CELL 'sum', in the pinned program and in every row, IS THE sha256 OF THE DUMP (.gsa) THAT YtnjjdbapadkomaaGreatDoorProg.lean LOADS. Nothing in Lean hashes anything: it is a label: what it is worth is what the hold of that sum in a sandbox is worth. -/
noncomputable def Tryz.pinned : Pinned := { name := "ytnjjdbapadkomaagreatdoor", sum := "ce41bebf1f4e61eb37f467e9495dcf38a4ed2e27adc22c2aad432f30375b27bc", checked := Tryz.checked }
namespace Rows
def none {H : Type} : Left H := { results := [], args := [] }

/- WHAT THE LISTED PACKAGE-LEVEL VARIABLES READ AS WHEN THE CALL BEGINS. Each datum BY PROGRAM (the guide's laid-datum.mjs) off the statement by which the dump's own 'gosem.cut.vars' lays the variable. In a bare row this is a premise. The card (YtnjjdbapadkomaaGreatDoorCards.lean) ties it to the program's text. -/
def laid_unicode_utf8_acceptRanges {H : Type} : DataW H := .agg [.agg [.lit (.int .u8 128), .lit (.int .u8 191)], .agg [.lit (.int .u8 160), .lit (.int .u8 191)], .agg [.lit (.int .u8 128), .lit (.int .u8 159)], .agg [.lit (.int .u8 144), .lit (.int .u8 191)], .agg [.lit (.int .u8 128), .lit (.int .u8 143)], .agg [.lit (.int .u8 0), .lit (.int .u8 0)], .agg [.lit (.int .u8 0), .lit (.int .u8 0)], .agg [.lit (.int .u8 0), .lit (.int .u8 0)], .agg [.lit (.int .u8 0), .lit (.int .u8 0)], .agg [.lit (.int .u8 0), .lit (.int .u8 0)], .agg [.lit (.int .u8 0), .lit (.int .u8 0)], .agg [.lit (.int .u8 0), .lit (.int .u8 0)], .agg [.lit (.int .u8 0), .lit (.int .u8 0)], .agg [.lit (.int .u8 0), .lit (.int .u8 0)], .agg [.lit (.int .u8 0), .lit (.int .u8 0)], .agg [.lit (.int .u8 0), .lit (.int .u8 0)]]
/-- One of Go's own tables, pinned by name: the form's constant. -/
def laid_unicode_utf8_first : DataW Unit := Go.Pinned.utf8First

/-- 'sealringlaw22.SyntaxValid': WHATEVER THE INPUT: true; the input reads as it did. -/
def syntaxValidSpec : ChangeSpec := { name := "syntaxValid", fn := fun _ => fun
  | [d] => { results := [.lit (.bool true)], args := [d] }
  | _ => none }
def syntaxValidRow : OpenClaim := { program := "ytnjjdbapadkomaagreatdoor", sum := "ce41bebf1f4e61eb37f467e9495dcf38a4ed2e27adc22c2aad432f30375b27bc", func := "sealring/sealringlaw22.SyntaxValid", spec := "syntaxValid", inPlace := ["internal/bytealg.CountString", "internal/bytealg.IndexByteString", "internal/bytealg.IndexString", "internal/abi.NoEscape", "internal/bytealg.MakeNoZero"], unfollowed := true, recurses := true, named := ["unicode/utf8.first", "unicode/utf8.acceptRanges", "internal/bytealg.MaxLen"], loops := true, apart := false, laid := [("unicode/utf8.acceptRanges", laid_unicode_utf8_acceptRanges), ("unicode/utf8.first", laid_unicode_utf8_first)] }
def SyntaxValidSaid : Prop := syntaxValidRow.holds Tryz.pinned (OpenSpec.ofChange syntaxValidSpec)

/-- ITS FALSE NEIGHBOUR: 'it returns false'. Refute it at one input. -/
def syntaxValidWrong : ChangeSpec := { name := "syntaxValid", fn := fun _ => fun
  | [d] => { results := [.lit (.bool false)], args := [d] }
  | _ => none }
def SyntaxValidWrongFalsely : Prop := syntaxValidRow.holds Tryz.pinned (OpenSpec.ofChange syntaxValidWrong)

/-- 'sealringlaw22.SyntaxTerm': WHATEVER THE INPUT: true; the input reads as it did. -/
def syntaxTermSpec : ChangeSpec := { name := "syntaxTerm", fn := fun _ => fun
  | [d] => { results := [.lit (.bool true)], args := [d] }
  | _ => none }
def syntaxTermRow : OpenClaim := { program := "ytnjjdbapadkomaagreatdoor", sum := "ce41bebf1f4e61eb37f467e9495dcf38a4ed2e27adc22c2aad432f30375b27bc", func := "sealring/sealringlaw22.SyntaxTerm", spec := "syntaxTerm", inPlace := ["internal/bytealg.CountString", "internal/bytealg.IndexByteString", "internal/bytealg.IndexString", "internal/abi.NoEscape", "internal/bytealg.MakeNoZero"], unfollowed := true, recurses := true, named := ["unicode/utf8.first", "unicode/utf8.acceptRanges", "internal/bytealg.MaxLen"], apart := false, laid := [("unicode/utf8.acceptRanges", laid_unicode_utf8_acceptRanges), ("unicode/utf8.first", laid_unicode_utf8_first)] }
def SyntaxTermSaid : Prop := syntaxTermRow.holds Tryz.pinned (OpenSpec.ofChange syntaxTermSpec)

/-- ITS FALSE NEIGHBOUR: 'it returns false'. Refute it at one input. -/
def syntaxTermWrong : ChangeSpec := { name := "syntaxTerm", fn := fun _ => fun
  | [d] => { results := [.lit (.bool false)], args := [d] }
  | _ => none }
def SyntaxTermWrongFalsely : Prop := syntaxTermRow.holds Tryz.pinned (OpenSpec.ofChange syntaxTermWrong)

/-- 'sealringlaw22.SyntaxSpace': WHATEVER THE INPUT: true; the input reads as it did. -/
def syntaxSpaceSpec : ChangeSpec := { name := "syntaxSpace", fn := fun _ => fun
  | [d1, d2] => { results := [.lit (.bool true)], args := [d1, d2] }
  | _ => none }
def syntaxSpaceRow : OpenClaim := { program := "ytnjjdbapadkomaagreatdoor", sum := "ce41bebf1f4e61eb37f467e9495dcf38a4ed2e27adc22c2aad432f30375b27bc", func := "sealring/sealringlaw22.SyntaxSpace", spec := "syntaxSpace", inPlace := ["internal/bytealg.CountString", "internal/bytealg.IndexByteString", "internal/bytealg.IndexString", "internal/abi.NoEscape", "internal/bytealg.MakeNoZero"], unfollowed := true, recurses := true, named := ["unicode/utf8.first", "unicode/utf8.acceptRanges", "internal/bytealg.MaxLen"], apart := false, laid := [("unicode/utf8.acceptRanges", laid_unicode_utf8_acceptRanges), ("unicode/utf8.first", laid_unicode_utf8_first)] }
def SyntaxSpaceSaid : Prop := syntaxSpaceRow.holds Tryz.pinned (OpenSpec.ofChange syntaxSpaceSpec)

/-- ITS FALSE NEIGHBOUR: 'it returns false'. Refute it at one input. -/
def syntaxSpaceWrong : ChangeSpec := { name := "syntaxSpace", fn := fun _ => fun
  | [d1, d2] => { results := [.lit (.bool false)], args := [d1, d2] }
  | _ => none }
def SyntaxSpaceWrongFalsely : Prop := syntaxSpaceRow.holds Tryz.pinned (OpenSpec.ofChange syntaxSpaceWrong)

/-- 'sealringlaw22.SyntaxItems': WHATEVER THE INPUT: true; the input reads as it did. -/
def syntaxItemsSpec : ChangeSpec := { name := "syntaxItems", fn := fun _ => fun
  | [d1, d2] => { results := [.lit (.bool true)], args := [d1, d2] }
  | _ => none }
def syntaxItemsRow : OpenClaim := { program := "ytnjjdbapadkomaagreatdoor", sum := "ce41bebf1f4e61eb37f467e9495dcf38a4ed2e27adc22c2aad432f30375b27bc", func := "sealring/sealringlaw22.SyntaxItems", spec := "syntaxItems", inPlace := ["internal/bytealg.CountString", "internal/bytealg.IndexByteString", "internal/bytealg.IndexString", "internal/abi.NoEscape", "internal/bytealg.MakeNoZero"], unfollowed := true, recurses := true, named := ["unicode/utf8.first", "unicode/utf8.acceptRanges", "internal/bytealg.MaxLen"], loops := true, apart := false, laid := [("unicode/utf8.acceptRanges", laid_unicode_utf8_acceptRanges), ("unicode/utf8.first", laid_unicode_utf8_first)] }
def SyntaxItemsSaid : Prop := syntaxItemsRow.holds Tryz.pinned (OpenSpec.ofChange syntaxItemsSpec)

/-- ITS FALSE NEIGHBOUR: 'it returns false'. Refute it at one input. -/
def syntaxItemsWrong : ChangeSpec := { name := "syntaxItems", fn := fun _ => fun
  | [d1, d2] => { results := [.lit (.bool false)], args := [d1, d2] }
  | _ => none }
def SyntaxItemsWrongFalsely : Prop := syntaxItemsRow.holds Tryz.pinned (OpenSpec.ofChange syntaxItemsWrong)

/-- 'sealringlaw22.SyntaxParse': WHATEVER THE INPUT: true; the input reads as it did. -/
def syntaxParseSpec : ChangeSpec := { name := "syntaxParse", fn := fun _ => fun
  | [d] => { results := [.lit (.bool true)], args := [d] }
  | _ => none }
def syntaxParseRow : OpenClaim := { program := "ytnjjdbapadkomaagreatdoor", sum := "ce41bebf1f4e61eb37f467e9495dcf38a4ed2e27adc22c2aad432f30375b27bc", func := "sealring/sealringlaw22.SyntaxParse", spec := "syntaxParse", inPlace := ["internal/bytealg.CountString", "internal/bytealg.IndexByteString", "internal/bytealg.IndexString", "internal/abi.NoEscape", "internal/bytealg.MakeNoZero"], unfollowed := true, recurses := true, named := ["unicode/utf8.first", "unicode/utf8.acceptRanges", "internal/bytealg.MaxLen"], apart := false, laid := [("unicode/utf8.acceptRanges", laid_unicode_utf8_acceptRanges), ("unicode/utf8.first", laid_unicode_utf8_first)] }
def SyntaxParseSaid : Prop := syntaxParseRow.holds Tryz.pinned (OpenSpec.ofChange syntaxParseSpec)

/-- ITS FALSE NEIGHBOUR: 'it returns false'. Refute it at one input. -/
def syntaxParseWrong : ChangeSpec := { name := "syntaxParse", fn := fun _ => fun
  | [d] => { results := [.lit (.bool false)], args := [d] }
  | _ => none }
def SyntaxParseWrongFalsely : Prop := syntaxParseRow.holds Tryz.pinned (OpenSpec.ofChange syntaxParseWrong)

/-- 'sealringlaw22.SyntaxGoals': WHATEVER THE INPUT: true; the input reads as it did. -/
def syntaxGoalsSpec : ChangeSpec := { name := "syntaxGoals", fn := fun _ => fun
  | [d] => { results := [.lit (.bool true)], args := [d] }
  | _ => none }
def syntaxGoalsRow : OpenClaim := { program := "ytnjjdbapadkomaagreatdoor", sum := "ce41bebf1f4e61eb37f467e9495dcf38a4ed2e27adc22c2aad432f30375b27bc", func := "sealring/sealringlaw22.SyntaxGoals", spec := "syntaxGoals", inPlace := ["internal/bytealg.CountString", "internal/bytealg.IndexByteString", "internal/bytealg.IndexString", "internal/abi.NoEscape", "internal/bytealg.MakeNoZero"], unfollowed := true, recurses := true, named := ["unicode/utf8.first", "unicode/utf8.acceptRanges", "internal/bytealg.MaxLen"], loops := true, apart := false, laid := [("unicode/utf8.acceptRanges", laid_unicode_utf8_acceptRanges), ("unicode/utf8.first", laid_unicode_utf8_first)] }
def SyntaxGoalsSaid : Prop := syntaxGoalsRow.holds Tryz.pinned (OpenSpec.ofChange syntaxGoalsSpec)

/-- ITS FALSE NEIGHBOUR: 'it returns false'. Refute it at one input. -/
def syntaxGoalsWrong : ChangeSpec := { name := "syntaxGoals", fn := fun _ => fun
  | [d] => { results := [.lit (.bool false)], args := [d] }
  | _ => none }
def SyntaxGoalsWrongFalsely : Prop := syntaxGoalsRow.holds Tryz.pinned (OpenSpec.ofChange syntaxGoalsWrong)

/-- 'sealringlaw22.SyntaxFormatTerm': WHATEVER THE INPUT: true; the input reads as it did. -/
def syntaxFormatTermSpec : ChangeSpec := { name := "syntaxFormatTerm", fn := fun _ => fun
  | [d] => { results := [.lit (.bool true)], args := [d] }
  | _ => none }
def syntaxFormatTermRow : OpenClaim := { program := "ytnjjdbapadkomaagreatdoor", sum := "ce41bebf1f4e61eb37f467e9495dcf38a4ed2e27adc22c2aad432f30375b27bc", func := "sealring/sealringlaw22.SyntaxFormatTerm", spec := "syntaxFormatTerm", inPlace := ["internal/bytealg.CountString", "internal/bytealg.IndexByteString", "internal/bytealg.IndexString", "internal/abi.NoEscape", "internal/bytealg.MakeNoZero"], unfollowed := true, recurses := true, named := ["unicode/utf8.first", "unicode/utf8.acceptRanges", "internal/bytealg.MaxLen"], loops := true, apart := false, laid := [("unicode/utf8.acceptRanges", laid_unicode_utf8_acceptRanges), ("unicode/utf8.first", laid_unicode_utf8_first)] }
def SyntaxFormatTermSaid : Prop := syntaxFormatTermRow.holds Tryz.pinned (OpenSpec.ofChange syntaxFormatTermSpec)

/-- ITS FALSE NEIGHBOUR: 'it returns false'. Refute it at one input. -/
def syntaxFormatTermWrong : ChangeSpec := { name := "syntaxFormatTerm", fn := fun _ => fun
  | [d] => { results := [.lit (.bool false)], args := [d] }
  | _ => none }
def SyntaxFormatTermWrongFalsely : Prop := syntaxFormatTermRow.holds Tryz.pinned (OpenSpec.ofChange syntaxFormatTermWrong)

/- THE SECOND FORM. 'bulk': how many values and letters a reading holds, each counted each time it is reached (what is shared counts as often as it is met; a slice's spare places count too). A statement '..UptoSaid' is the law's where the arguments, and the package variables that the reading takes, are together of bulk at most 1048576: NARROWER than '..Said'. Prove '..Said' where nothing that the law and all that it calls make is longer than what came in: it says more and counts as full. Else prove '..UptoSaid'. A law counts once. -/
mutual
def uptoBulk {H : Type} : DataW H → Nat
  | .lit (.string bytes) => bytes.length + 1
  | .lit _ => 1
  | .nil => 1
  | .ptr d => uptoBulk d + 1
  | .slice elems spare => uptoBulkAll elems + uptoBulkAll spare + 1
  | .agg parts => uptoBulkAll parts + 1
  | .iface _ d => uptoBulk d + 1
  | .map entries => uptoBulkEntries entries + 1
  | .held _ => 1
def uptoBulkAll {H : Type} : List (DataW H) → Nat
  | [] => 0
  | d :: r => uptoBulk d + uptoBulkAll r
def uptoBulkEntries {H : Type} : List (Lit × DataW H) → Nat
  | [] => 0
  | x :: r => uptoBulkEntry x + uptoBulkEntries r
def uptoBulkEntry {H : Type} : Lit × DataW H → Nat
  | (.string bytes, d) => bytes.length + uptoBulk d + 1
  | (_, d) => uptoBulk d + 1
 end
def uptoSmall : (H : Type) → List (DataW H) → Bool := fun _ ds => decide (uptoBulkAll ds ≤ 1048576)
def OpenSpec.upto (s : _root_.Go.ChangeSpec) : _root_.Go.OpenSpec := { _root_.Go.OpenSpec.ofChange s with cond := some uptoSmall }

/-- 'sealringlaw22.SyntaxValid', WHERE WHAT IT READS IS OF BULK AT MOST 1048576: true; the input reads as it did. -/
def syntaxValidUptoRow : OpenClaim := { program := "ytnjjdbapadkomaagreatdoor", sum := "ce41bebf1f4e61eb37f467e9495dcf38a4ed2e27adc22c2aad432f30375b27bc", func := "sealring/sealringlaw22.SyntaxValid", spec := "syntaxValid", inPlace := ["internal/bytealg.CountString", "internal/bytealg.IndexByteString", "internal/bytealg.IndexString", "internal/abi.NoEscape", "internal/bytealg.MakeNoZero"], unfollowed := true, recurses := true, named := ["unicode/utf8.first", "unicode/utf8.acceptRanges", "internal/bytealg.MaxLen"], loops := true, apart := false, laid := [("unicode/utf8.acceptRanges", laid_unicode_utf8_acceptRanges), ("unicode/utf8.first", laid_unicode_utf8_first)], narrowed := true }
def SyntaxValidUptoSaid : Prop := syntaxValidUptoRow.holds Tryz.pinned (OpenSpec.upto syntaxValidSpec)

/-- 'sealringlaw22.SyntaxTerm', WHERE WHAT IT READS IS OF BULK AT MOST 1048576: true; the input reads as it did. -/
def syntaxTermUptoRow : OpenClaim := { program := "ytnjjdbapadkomaagreatdoor", sum := "ce41bebf1f4e61eb37f467e9495dcf38a4ed2e27adc22c2aad432f30375b27bc", func := "sealring/sealringlaw22.SyntaxTerm", spec := "syntaxTerm", inPlace := ["internal/bytealg.CountString", "internal/bytealg.IndexByteString", "internal/bytealg.IndexString", "internal/abi.NoEscape", "internal/bytealg.MakeNoZero"], unfollowed := true, recurses := true, named := ["unicode/utf8.first", "unicode/utf8.acceptRanges", "internal/bytealg.MaxLen"], apart := false, laid := [("unicode/utf8.acceptRanges", laid_unicode_utf8_acceptRanges), ("unicode/utf8.first", laid_unicode_utf8_first)], narrowed := true }
def SyntaxTermUptoSaid : Prop := syntaxTermUptoRow.holds Tryz.pinned (OpenSpec.upto syntaxTermSpec)

/-- 'sealringlaw22.SyntaxSpace', WHERE WHAT IT READS IS OF BULK AT MOST 1048576: true; the input reads as it did. -/
def syntaxSpaceUptoRow : OpenClaim := { program := "ytnjjdbapadkomaagreatdoor", sum := "ce41bebf1f4e61eb37f467e9495dcf38a4ed2e27adc22c2aad432f30375b27bc", func := "sealring/sealringlaw22.SyntaxSpace", spec := "syntaxSpace", inPlace := ["internal/bytealg.CountString", "internal/bytealg.IndexByteString", "internal/bytealg.IndexString", "internal/abi.NoEscape", "internal/bytealg.MakeNoZero"], unfollowed := true, recurses := true, named := ["unicode/utf8.first", "unicode/utf8.acceptRanges", "internal/bytealg.MaxLen"], apart := false, laid := [("unicode/utf8.acceptRanges", laid_unicode_utf8_acceptRanges), ("unicode/utf8.first", laid_unicode_utf8_first)], narrowed := true }
def SyntaxSpaceUptoSaid : Prop := syntaxSpaceUptoRow.holds Tryz.pinned (OpenSpec.upto syntaxSpaceSpec)

/-- 'sealringlaw22.SyntaxItems', WHERE WHAT IT READS IS OF BULK AT MOST 1048576: true; the input reads as it did. -/
def syntaxItemsUptoRow : OpenClaim := { program := "ytnjjdbapadkomaagreatdoor", sum := "ce41bebf1f4e61eb37f467e9495dcf38a4ed2e27adc22c2aad432f30375b27bc", func := "sealring/sealringlaw22.SyntaxItems", spec := "syntaxItems", inPlace := ["internal/bytealg.CountString", "internal/bytealg.IndexByteString", "internal/bytealg.IndexString", "internal/abi.NoEscape", "internal/bytealg.MakeNoZero"], unfollowed := true, recurses := true, named := ["unicode/utf8.first", "unicode/utf8.acceptRanges", "internal/bytealg.MaxLen"], loops := true, apart := false, laid := [("unicode/utf8.acceptRanges", laid_unicode_utf8_acceptRanges), ("unicode/utf8.first", laid_unicode_utf8_first)], narrowed := true }
def SyntaxItemsUptoSaid : Prop := syntaxItemsUptoRow.holds Tryz.pinned (OpenSpec.upto syntaxItemsSpec)

/-- 'sealringlaw22.SyntaxParse', WHERE WHAT IT READS IS OF BULK AT MOST 1048576: true; the input reads as it did. -/
def syntaxParseUptoRow : OpenClaim := { program := "ytnjjdbapadkomaagreatdoor", sum := "ce41bebf1f4e61eb37f467e9495dcf38a4ed2e27adc22c2aad432f30375b27bc", func := "sealring/sealringlaw22.SyntaxParse", spec := "syntaxParse", inPlace := ["internal/bytealg.CountString", "internal/bytealg.IndexByteString", "internal/bytealg.IndexString", "internal/abi.NoEscape", "internal/bytealg.MakeNoZero"], unfollowed := true, recurses := true, named := ["unicode/utf8.first", "unicode/utf8.acceptRanges", "internal/bytealg.MaxLen"], apart := false, laid := [("unicode/utf8.acceptRanges", laid_unicode_utf8_acceptRanges), ("unicode/utf8.first", laid_unicode_utf8_first)], narrowed := true }
def SyntaxParseUptoSaid : Prop := syntaxParseUptoRow.holds Tryz.pinned (OpenSpec.upto syntaxParseSpec)

/-- 'sealringlaw22.SyntaxGoals', WHERE WHAT IT READS IS OF BULK AT MOST 1048576: true; the input reads as it did. -/
def syntaxGoalsUptoRow : OpenClaim := { program := "ytnjjdbapadkomaagreatdoor", sum := "ce41bebf1f4e61eb37f467e9495dcf38a4ed2e27adc22c2aad432f30375b27bc", func := "sealring/sealringlaw22.SyntaxGoals", spec := "syntaxGoals", inPlace := ["internal/bytealg.CountString", "internal/bytealg.IndexByteString", "internal/bytealg.IndexString", "internal/abi.NoEscape", "internal/bytealg.MakeNoZero"], unfollowed := true, recurses := true, named := ["unicode/utf8.first", "unicode/utf8.acceptRanges", "internal/bytealg.MaxLen"], loops := true, apart := false, laid := [("unicode/utf8.acceptRanges", laid_unicode_utf8_acceptRanges), ("unicode/utf8.first", laid_unicode_utf8_first)], narrowed := true }
def SyntaxGoalsUptoSaid : Prop := syntaxGoalsUptoRow.holds Tryz.pinned (OpenSpec.upto syntaxGoalsSpec)

/-- 'sealringlaw22.SyntaxFormatTerm', WHERE WHAT IT READS IS OF BULK AT MOST 1048576: true; the input reads as it did. -/
def syntaxFormatTermUptoRow : OpenClaim := { program := "ytnjjdbapadkomaagreatdoor", sum := "ce41bebf1f4e61eb37f467e9495dcf38a4ed2e27adc22c2aad432f30375b27bc", func := "sealring/sealringlaw22.SyntaxFormatTerm", spec := "syntaxFormatTerm", inPlace := ["internal/bytealg.CountString", "internal/bytealg.IndexByteString", "internal/bytealg.IndexString", "internal/abi.NoEscape", "internal/bytealg.MakeNoZero"], unfollowed := true, recurses := true, named := ["unicode/utf8.first", "unicode/utf8.acceptRanges", "internal/bytealg.MaxLen"], loops := true, apart := false, laid := [("unicode/utf8.acceptRanges", laid_unicode_utf8_acceptRanges), ("unicode/utf8.first", laid_unicode_utf8_first)], narrowed := true }
def SyntaxFormatTermUptoSaid : Prop := syntaxFormatTermUptoRow.holds Tryz.pinned (OpenSpec.upto syntaxFormatTermSpec)

end Rows
end Go.Proofs.YtnjjdbapadkomaaGreatDoor
