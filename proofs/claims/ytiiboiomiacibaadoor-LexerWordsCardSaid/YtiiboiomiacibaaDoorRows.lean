/-
  NARROWER THAN 'FOR EVERY INPUT', by the rows' own cells (each row's printed sentence says how): LexerTokens: laid · LexerNames: laid · LexerLines: laid · LexerQuote: laid · LexerUnquote: laid · LexerSpace: laid · LexerJoin: laid · LexerWords: laid.
  DERIVED. THE GIVEN ROWS OF THIS SEAT. 8 by the template 'for every input the law returns true; each argument reads behind the call as it read before'; 0 by the template 'total and deterministic' (their statements: YtiiboiomiacibaaDoorTotals.lean).
  GIVEN WITH THE SEED: the statements are not yours to turn. If you find one false, say at which input.
  Laid BY PROGRAM, IN A SANDBOX (cutbox-rows.mjs): the forced cells as the released guide's own fill.sh prints them over the translation 668de6f1ff8951c7… (all of the seat's roots in one cut). By AI agents, Wed Nov 11 2026. No macro, syntax, notation, axiom, sorry.
-/
import Derived.Test.YtiiboiomiacibaaDoorChecked
import GoSem.PinnedTables
import GoSem.Claim
import GoSem.ClaimJoined
import GoSem.ClaimMapViews
import Derived.JoinedTies
import Derived.KernelRfl
namespace Go.Proofs.YtiiboiomiacibaaDoor
/- THE CELL 'sum', in the pinned program and in every row, IS THE sha256 OF THE DUMP (.gsa) THAT YtiiboiomiacibaaDoorProg.lean LOADS. Nothing in Lean hashes anything: it is a label: what it is worth is what the hold of that sum in a sandbox is worth. -/
noncomputable def Tryd.pinned : Pinned := { name := "ytiiboiomiacibaadoor", sum := "668de6f1ff8951c7af8588feffcebff92341a4b7947a92b360c3ba3ab00c3d89", checked := Tryd.checked }
namespace Rows
def none {H : Type} : Left H := { results := [], args := [] }

/- WHAT THE LISTED PACKAGE-LEVEL VARIABLES READ AS WHEN THE CALL BEGINS. Each datum BY PROGRAM (the guide's laid-datum.mjs) off the statement by which the dump's own 'gosem.cut.vars' lays the variable. In a bare row this is a premise. The card (YtiiboiomiacibaaDoorCards.lean) ties it to the program's text. -/
def laid_unicode_utf8_acceptRanges {H : Type} : DataW H := .agg [.agg [.lit (.int .u8 128), .lit (.int .u8 191)], .agg [.lit (.int .u8 160), .lit (.int .u8 191)], .agg [.lit (.int .u8 128), .lit (.int .u8 159)], .agg [.lit (.int .u8 144), .lit (.int .u8 191)], .agg [.lit (.int .u8 128), .lit (.int .u8 143)], .agg [.lit (.int .u8 0), .lit (.int .u8 0)], .agg [.lit (.int .u8 0), .lit (.int .u8 0)], .agg [.lit (.int .u8 0), .lit (.int .u8 0)], .agg [.lit (.int .u8 0), .lit (.int .u8 0)], .agg [.lit (.int .u8 0), .lit (.int .u8 0)], .agg [.lit (.int .u8 0), .lit (.int .u8 0)], .agg [.lit (.int .u8 0), .lit (.int .u8 0)], .agg [.lit (.int .u8 0), .lit (.int .u8 0)], .agg [.lit (.int .u8 0), .lit (.int .u8 0)], .agg [.lit (.int .u8 0), .lit (.int .u8 0)], .agg [.lit (.int .u8 0), .lit (.int .u8 0)]]
/-- One of Go's own tables, pinned by name: the form's constant. -/
def laid_unicode_utf8_first : DataW Unit := Go.Pinned.utf8First
def laid_math_bits_deBruijn32tab {H : Type} : DataW H := .agg [.lit (.int .u8 0), .lit (.int .u8 1), .lit (.int .u8 28), .lit (.int .u8 2), .lit (.int .u8 29), .lit (.int .u8 14), .lit (.int .u8 24), .lit (.int .u8 3), .lit (.int .u8 30), .lit (.int .u8 22), .lit (.int .u8 20), .lit (.int .u8 15), .lit (.int .u8 25), .lit (.int .u8 17), .lit (.int .u8 4), .lit (.int .u8 8), .lit (.int .u8 31), .lit (.int .u8 27), .lit (.int .u8 13), .lit (.int .u8 23), .lit (.int .u8 21), .lit (.int .u8 19), .lit (.int .u8 16), .lit (.int .u8 7), .lit (.int .u8 26), .lit (.int .u8 12), .lit (.int .u8 18), .lit (.int .u8 6), .lit (.int .u8 11), .lit (.int .u8 5), .lit (.int .u8 10), .lit (.int .u8 9)]
def laid_math_bits_deBruijn64tab {H : Type} : DataW H := .agg [.lit (.int .u8 0), .lit (.int .u8 1), .lit (.int .u8 56), .lit (.int .u8 2), .lit (.int .u8 57), .lit (.int .u8 49), .lit (.int .u8 28), .lit (.int .u8 3), .lit (.int .u8 61), .lit (.int .u8 58), .lit (.int .u8 42), .lit (.int .u8 50), .lit (.int .u8 38), .lit (.int .u8 29), .lit (.int .u8 17), .lit (.int .u8 4), .lit (.int .u8 62), .lit (.int .u8 47), .lit (.int .u8 59), .lit (.int .u8 36), .lit (.int .u8 45), .lit (.int .u8 43), .lit (.int .u8 51), .lit (.int .u8 22), .lit (.int .u8 53), .lit (.int .u8 39), .lit (.int .u8 33), .lit (.int .u8 30), .lit (.int .u8 24), .lit (.int .u8 18), .lit (.int .u8 12), .lit (.int .u8 5), .lit (.int .u8 63), .lit (.int .u8 55), .lit (.int .u8 48), .lit (.int .u8 27), .lit (.int .u8 60), .lit (.int .u8 41), .lit (.int .u8 37), .lit (.int .u8 16), .lit (.int .u8 46), .lit (.int .u8 35), .lit (.int .u8 44), .lit (.int .u8 21), .lit (.int .u8 52), .lit (.int .u8 32), .lit (.int .u8 23), .lit (.int .u8 11), .lit (.int .u8 54), .lit (.int .u8 26), .lit (.int .u8 40), .lit (.int .u8 15), .lit (.int .u8 34), .lit (.int .u8 20), .lit (.int .u8 31), .lit (.int .u8 10), .lit (.int .u8 25), .lit (.int .u8 14), .lit (.int .u8 19), .lit (.int .u8 9), .lit (.int .u8 13), .lit (.int .u8 8), .lit (.int .u8 7), .lit (.int .u8 6)]
def laid_internal_strconv_uint64pow10 {H : Type} : DataW H := .agg [.lit (.int .u64 1), .lit (.int .u64 10), .lit (.int .u64 100), .lit (.int .u64 1000), .lit (.int .u64 10000), .lit (.int .u64 100000), .lit (.int .u64 1000000), .lit (.int .u64 10000000), .lit (.int .u64 100000000), .lit (.int .u64 1000000000), .lit (.int .u64 10000000000), .lit (.int .u64 100000000000), .lit (.int .u64 1000000000000), .lit (.int .u64 10000000000000), .lit (.int .u64 100000000000000), .lit (.int .u64 1000000000000000), .lit (.int .u64 10000000000000000), .lit (.int .u64 100000000000000000), .lit (.int .u64 1000000000000000000), .lit (.int .u64 10000000000000000000)]

/-- 'sealringlaw21.LexerTokens': WHATEVER THE INPUT: true; the input reads as it did. -/
def lexerTokensSpec : ChangeSpec := { name := "lexerTokens", fn := fun _ => fun
  | [d] => { results := [.lit (.bool true)], args := [d] }
  | _ => none }
def lexerTokensRow : OpenClaim := { program := "ytiiboiomiacibaadoor", sum := "668de6f1ff8951c7af8588feffcebff92341a4b7947a92b360c3ba3ab00c3d89", func := "sealring/sealringlaw21.LexerTokens", spec := "lexerTokens", inPlace := ["internal/bytealg.CountString", "internal/bytealg.IndexByteString", "internal/bytealg.IndexString", "internal/abi.NoEscape"], named := ["unicode/utf8.first", "unicode/utf8.acceptRanges", "internal/bytealg.MaxLen"], apart := false, laid := [("unicode/utf8.acceptRanges", laid_unicode_utf8_acceptRanges), ("unicode/utf8.first", laid_unicode_utf8_first)] }
def LexerTokensSaid : Prop := lexerTokensRow.holds Tryd.pinned (OpenSpec.ofChange lexerTokensSpec)

/-- ITS FALSE NEIGHBOUR: 'it returns false'. Refute it at one input. -/
def lexerTokensWrong : ChangeSpec := { name := "lexerTokens", fn := fun _ => fun
  | [d] => { results := [.lit (.bool false)], args := [d] }
  | _ => none }
def LexerTokensWrongFalsely : Prop := lexerTokensRow.holds Tryd.pinned (OpenSpec.ofChange lexerTokensWrong)

/-- 'sealringlaw21.LexerNames': WHATEVER THE INPUT: true; the input reads as it did. -/
def lexerNamesSpec : ChangeSpec := { name := "lexerNames", fn := fun _ => fun
  | [d] => { results := [.lit (.bool true)], args := [d] }
  | _ => none }
def lexerNamesRow : OpenClaim := { program := "ytiiboiomiacibaadoor", sum := "668de6f1ff8951c7af8588feffcebff92341a4b7947a92b360c3ba3ab00c3d89", func := "sealring/sealringlaw21.LexerNames", spec := "lexerNames", inPlace := ["internal/bytealg.CountString", "internal/bytealg.IndexByteString", "internal/bytealg.IndexString", "internal/abi.NoEscape"], named := ["unicode/utf8.first", "unicode/utf8.acceptRanges", "internal/bytealg.MaxLen"], apart := false, laid := [("unicode/utf8.acceptRanges", laid_unicode_utf8_acceptRanges), ("unicode/utf8.first", laid_unicode_utf8_first)] }
def LexerNamesSaid : Prop := lexerNamesRow.holds Tryd.pinned (OpenSpec.ofChange lexerNamesSpec)

/-- ITS FALSE NEIGHBOUR: 'it returns false'. Refute it at one input. -/
def lexerNamesWrong : ChangeSpec := { name := "lexerNames", fn := fun _ => fun
  | [d] => { results := [.lit (.bool false)], args := [d] }
  | _ => none }
def LexerNamesWrongFalsely : Prop := lexerNamesRow.holds Tryd.pinned (OpenSpec.ofChange lexerNamesWrong)

/-- 'sealringlaw21.LexerLines': WHATEVER THE INPUT: true; the input reads as it did. -/
def lexerLinesSpec : ChangeSpec := { name := "lexerLines", fn := fun _ => fun
  | [d] => { results := [.lit (.bool true)], args := [d] }
  | _ => none }
def lexerLinesRow : OpenClaim := { program := "ytiiboiomiacibaadoor", sum := "668de6f1ff8951c7af8588feffcebff92341a4b7947a92b360c3ba3ab00c3d89", func := "sealring/sealringlaw21.LexerLines", spec := "lexerLines", inPlace := ["internal/bytealg.CountString", "internal/bytealg.IndexByteString", "internal/bytealg.IndexString", "internal/abi.NoEscape"], named := ["unicode/utf8.first", "unicode/utf8.acceptRanges", "internal/bytealg.MaxLen"], apart := false, laid := [("unicode/utf8.acceptRanges", laid_unicode_utf8_acceptRanges), ("unicode/utf8.first", laid_unicode_utf8_first)] }
def LexerLinesSaid : Prop := lexerLinesRow.holds Tryd.pinned (OpenSpec.ofChange lexerLinesSpec)

/-- ITS FALSE NEIGHBOUR: 'it returns false'. Refute it at one input. -/
def lexerLinesWrong : ChangeSpec := { name := "lexerLines", fn := fun _ => fun
  | [d] => { results := [.lit (.bool false)], args := [d] }
  | _ => none }
def LexerLinesWrongFalsely : Prop := lexerLinesRow.holds Tryd.pinned (OpenSpec.ofChange lexerLinesWrong)

/-- 'sealringlaw21.LexerQuote': WHATEVER THE INPUT: true; the input reads as it did. -/
def lexerQuoteSpec : ChangeSpec := { name := "lexerQuote", fn := fun _ => fun
  | [d] => { results := [.lit (.bool true)], args := [d] }
  | _ => none }
def lexerQuoteRow : OpenClaim := { program := "ytiiboiomiacibaadoor", sum := "668de6f1ff8951c7af8588feffcebff92341a4b7947a92b360c3ba3ab00c3d89", func := "sealring/sealringlaw21.LexerQuote", spec := "lexerQuote", inPlace := ["internal/bytealg.CountString", "internal/bytealg.IndexByteString", "internal/bytealg.IndexString", "internal/abi.NoEscape"], named := ["unicode/utf8.first", "unicode/utf8.acceptRanges", "internal/bytealg.MaxLen"], apart := false, laid := [("unicode/utf8.acceptRanges", laid_unicode_utf8_acceptRanges), ("unicode/utf8.first", laid_unicode_utf8_first)] }
def LexerQuoteSaid : Prop := lexerQuoteRow.holds Tryd.pinned (OpenSpec.ofChange lexerQuoteSpec)

/-- ITS FALSE NEIGHBOUR: 'it returns false'. Refute it at one input. -/
def lexerQuoteWrong : ChangeSpec := { name := "lexerQuote", fn := fun _ => fun
  | [d] => { results := [.lit (.bool false)], args := [d] }
  | _ => none }
def LexerQuoteWrongFalsely : Prop := lexerQuoteRow.holds Tryd.pinned (OpenSpec.ofChange lexerQuoteWrong)

/-- 'sealringlaw21.LexerUnquote': WHATEVER THE INPUT: true; the input reads as it did. -/
def lexerUnquoteSpec : ChangeSpec := { name := "lexerUnquote", fn := fun _ => fun
  | [d] => { results := [.lit (.bool true)], args := [d] }
  | _ => none }
def lexerUnquoteRow : OpenClaim := { program := "ytiiboiomiacibaadoor", sum := "668de6f1ff8951c7af8588feffcebff92341a4b7947a92b360c3ba3ab00c3d89", func := "sealring/sealringlaw21.LexerUnquote", spec := "lexerUnquote", inPlace := ["internal/bytealg.CountString", "internal/bytealg.IndexByteString", "internal/bytealg.IndexString", "internal/abi.NoEscape"], named := ["unicode/utf8.first", "unicode/utf8.acceptRanges", "internal/bytealg.MaxLen"], apart := false, laid := [("unicode/utf8.acceptRanges", laid_unicode_utf8_acceptRanges), ("unicode/utf8.first", laid_unicode_utf8_first)] }
def LexerUnquoteSaid : Prop := lexerUnquoteRow.holds Tryd.pinned (OpenSpec.ofChange lexerUnquoteSpec)

/-- ITS FALSE NEIGHBOUR: 'it returns false'. Refute it at one input. -/
def lexerUnquoteWrong : ChangeSpec := { name := "lexerUnquote", fn := fun _ => fun
  | [d] => { results := [.lit (.bool false)], args := [d] }
  | _ => none }
def LexerUnquoteWrongFalsely : Prop := lexerUnquoteRow.holds Tryd.pinned (OpenSpec.ofChange lexerUnquoteWrong)

/-- 'sealringlaw21.LexerSpace': WHATEVER THE INPUT: true; the input reads as it did. -/
def lexerSpaceSpec : ChangeSpec := { name := "lexerSpace", fn := fun _ => fun
  | [d1, d2] => { results := [.lit (.bool true)], args := [d1, d2] }
  | _ => none }
def lexerSpaceRow : OpenClaim := { program := "ytiiboiomiacibaadoor", sum := "668de6f1ff8951c7af8588feffcebff92341a4b7947a92b360c3ba3ab00c3d89", func := "sealring/sealringlaw21.LexerSpace", spec := "lexerSpace", inPlace := ["internal/bytealg.CountString", "internal/bytealg.IndexByteString", "internal/bytealg.IndexString", "internal/abi.NoEscape"], named := ["unicode/utf8.first", "unicode/utf8.acceptRanges", "internal/bytealg.MaxLen", "internal/strconv.uint64pow10", "math/bits.deBruijn32tab", "math/bits.deBruijn64tab"], apart := false, laid := [("math/bits.deBruijn32tab", laid_math_bits_deBruijn32tab), ("math/bits.deBruijn64tab", laid_math_bits_deBruijn64tab), ("internal/strconv.uint64pow10", laid_internal_strconv_uint64pow10), ("unicode/utf8.acceptRanges", laid_unicode_utf8_acceptRanges), ("unicode/utf8.first", laid_unicode_utf8_first)] }
def LexerSpaceSaid : Prop := lexerSpaceRow.holds Tryd.pinned (OpenSpec.ofChange lexerSpaceSpec)

/-- ITS FALSE NEIGHBOUR: 'it returns false'. Refute it at one input. -/
def lexerSpaceWrong : ChangeSpec := { name := "lexerSpace", fn := fun _ => fun
  | [d1, d2] => { results := [.lit (.bool false)], args := [d1, d2] }
  | _ => none }
def LexerSpaceWrongFalsely : Prop := lexerSpaceRow.holds Tryd.pinned (OpenSpec.ofChange lexerSpaceWrong)

/-- 'sealringlaw21.LexerJoin': WHATEVER THE INPUT: true; the input reads as it did. -/
def lexerJoinSpec : ChangeSpec := { name := "lexerJoin", fn := fun _ => fun
  | [d] => { results := [.lit (.bool true)], args := [d] }
  | _ => none }
def lexerJoinRow : OpenClaim := { program := "ytiiboiomiacibaadoor", sum := "668de6f1ff8951c7af8588feffcebff92341a4b7947a92b360c3ba3ab00c3d89", func := "sealring/sealringlaw21.LexerJoin", spec := "lexerJoin", inPlace := ["internal/bytealg.CountString", "internal/bytealg.IndexByteString", "internal/bytealg.IndexString", "internal/abi.NoEscape", "internal/bytealg.MakeNoZero"], recurses := true, named := ["unicode/utf8.first", "unicode/utf8.acceptRanges", "internal/bytealg.MaxLen", "internal/strconv.uint64pow10", "math/bits.deBruijn32tab", "math/bits.deBruijn64tab"], apart := false, laid := [("math/bits.deBruijn32tab", laid_math_bits_deBruijn32tab), ("math/bits.deBruijn64tab", laid_math_bits_deBruijn64tab), ("internal/strconv.uint64pow10", laid_internal_strconv_uint64pow10), ("unicode/utf8.acceptRanges", laid_unicode_utf8_acceptRanges), ("unicode/utf8.first", laid_unicode_utf8_first)] }
def LexerJoinSaid : Prop := lexerJoinRow.holds Tryd.pinned (OpenSpec.ofChange lexerJoinSpec)

/-- ITS FALSE NEIGHBOUR: 'it returns false'. Refute it at one input. -/
def lexerJoinWrong : ChangeSpec := { name := "lexerJoin", fn := fun _ => fun
  | [d] => { results := [.lit (.bool false)], args := [d] }
  | _ => none }
def LexerJoinWrongFalsely : Prop := lexerJoinRow.holds Tryd.pinned (OpenSpec.ofChange lexerJoinWrong)

/-- 'sealringlaw21.LexerWords': WHATEVER THE INPUT: true; the input reads as it did. -/
def lexerWordsSpec : ChangeSpec := { name := "lexerWords", fn := fun _ => fun
  | [d] => { results := [.lit (.bool true)], args := [d] }
  | _ => none }
def lexerWordsRow : OpenClaim := { program := "ytiiboiomiacibaadoor", sum := "668de6f1ff8951c7af8588feffcebff92341a4b7947a92b360c3ba3ab00c3d89", func := "sealring/sealringlaw21.LexerWords", spec := "lexerWords", inPlace := ["internal/bytealg.CountString", "internal/bytealg.IndexByteString", "internal/bytealg.IndexString", "internal/abi.NoEscape", "internal/bytealg.MakeNoZero"], recurses := true, named := ["unicode/utf8.first", "unicode/utf8.acceptRanges", "internal/bytealg.MaxLen", "internal/strconv.uint64pow10", "math/bits.deBruijn32tab", "math/bits.deBruijn64tab"], apart := false, laid := [("math/bits.deBruijn32tab", laid_math_bits_deBruijn32tab), ("math/bits.deBruijn64tab", laid_math_bits_deBruijn64tab), ("internal/strconv.uint64pow10", laid_internal_strconv_uint64pow10), ("unicode/utf8.acceptRanges", laid_unicode_utf8_acceptRanges), ("unicode/utf8.first", laid_unicode_utf8_first)] }
def LexerWordsSaid : Prop := lexerWordsRow.holds Tryd.pinned (OpenSpec.ofChange lexerWordsSpec)

/-- ITS FALSE NEIGHBOUR: 'it returns false'. Refute it at one input. -/
def lexerWordsWrong : ChangeSpec := { name := "lexerWords", fn := fun _ => fun
  | [d] => { results := [.lit (.bool false)], args := [d] }
  | _ => none }
def LexerWordsWrongFalsely : Prop := lexerWordsRow.holds Tryd.pinned (OpenSpec.ofChange lexerWordsWrong)

/- THE SECOND FORM. 'bulk': how many values and letters a reading holds, each counted each time it is reached (what is shared counts as often as it is met; a slice's spare places count too). A statement '..UptoSaid' is the law's where the arguments, and the package variables that the reading takes, are together of bulk at most 1048576: NARROWER than '..Said'. Prove '..Said' where nothing that the law and all that it calls make is longer than what came in: it says more and counts as full. Else prove '..UptoSaid'. A law counts once. -/
mutual
def uptoBulk {H : Type} : DataW H → Nat
  | .lit (.string bytes) => bytes.length + 1
  | .lit _ => 1
  | .nil => 1
  | .ptr d => uptoBulk d + 1
  | .slice elems spare => uptoBulkAll elems + uptoBulkAll spare + 1
  | .agg parts => uptoBulkAll parts + 1
  | .iface _ d => uptoBulk d + 1
  | .map entries => uptoBulkEntries entries + 1
  | .held _ => 1
def uptoBulkAll {H : Type} : List (DataW H) → Nat
  | [] => 0
  | d :: r => uptoBulk d + uptoBulkAll r
def uptoBulkEntries {H : Type} : List (Lit × DataW H) → Nat
  | [] => 0
  | x :: r => uptoBulkEntry x + uptoBulkEntries r
def uptoBulkEntry {H : Type} : Lit × DataW H → Nat
  | (.string bytes, d) => bytes.length + uptoBulk d + 1
  | (_, d) => uptoBulk d + 1
 end
def uptoSmall : (H : Type) → List (DataW H) → Bool := fun _ ds => decide (uptoBulkAll ds ≤ 1048576)
def OpenSpec.upto (s : _root_.Go.ChangeSpec) : _root_.Go.OpenSpec := { _root_.Go.OpenSpec.ofChange s with cond := some uptoSmall }

/-- 'sealringlaw21.LexerTokens', WHERE WHAT IT READS IS OF BULK AT MOST 1048576: true; the input reads as it did. -/
def lexerTokensUptoRow : OpenClaim := { program := "ytiiboiomiacibaadoor", sum := "668de6f1ff8951c7af8588feffcebff92341a4b7947a92b360c3ba3ab00c3d89", func := "sealring/sealringlaw21.LexerTokens", spec := "lexerTokens", inPlace := ["internal/bytealg.CountString", "internal/bytealg.IndexByteString", "internal/bytealg.IndexString", "internal/abi.NoEscape"], named := ["unicode/utf8.first", "unicode/utf8.acceptRanges", "internal/bytealg.MaxLen"], apart := false, laid := [("unicode/utf8.acceptRanges", laid_unicode_utf8_acceptRanges), ("unicode/utf8.first", laid_unicode_utf8_first)], narrowed := true }
def LexerTokensUptoSaid : Prop := lexerTokensUptoRow.holds Tryd.pinned (OpenSpec.upto lexerTokensSpec)

/-- 'sealringlaw21.LexerNames', WHERE WHAT IT READS IS OF BULK AT MOST 1048576: true; the input reads as it did. -/
def lexerNamesUptoRow : OpenClaim := { program := "ytiiboiomiacibaadoor", sum := "668de6f1ff8951c7af8588feffcebff92341a4b7947a92b360c3ba3ab00c3d89", func := "sealring/sealringlaw21.LexerNames", spec := "lexerNames", inPlace := ["internal/bytealg.CountString", "internal/bytealg.IndexByteString", "internal/bytealg.IndexString", "internal/abi.NoEscape"], named := ["unicode/utf8.first", "unicode/utf8.acceptRanges", "internal/bytealg.MaxLen"], apart := false, laid := [("unicode/utf8.acceptRanges", laid_unicode_utf8_acceptRanges), ("unicode/utf8.first", laid_unicode_utf8_first)], narrowed := true }
def LexerNamesUptoSaid : Prop := lexerNamesUptoRow.holds Tryd.pinned (OpenSpec.upto lexerNamesSpec)

/-- 'sealringlaw21.LexerLines', WHERE WHAT IT READS IS OF BULK AT MOST 1048576: true; the input reads as it did. -/
def lexerLinesUptoRow : OpenClaim := { program := "ytiiboiomiacibaadoor", sum := "668de6f1ff8951c7af8588feffcebff92341a4b7947a92b360c3ba3ab00c3d89", func := "sealring/sealringlaw21.LexerLines", spec := "lexerLines", inPlace := ["internal/bytealg.CountString", "internal/bytealg.IndexByteString", "internal/bytealg.IndexString", "internal/abi.NoEscape"], named := ["unicode/utf8.first", "unicode/utf8.acceptRanges", "internal/bytealg.MaxLen"], apart := false, laid := [("unicode/utf8.acceptRanges", laid_unicode_utf8_acceptRanges), ("unicode/utf8.first", laid_unicode_utf8_first)], narrowed := true }
def LexerLinesUptoSaid : Prop := lexerLinesUptoRow.holds Tryd.pinned (OpenSpec.upto lexerLinesSpec)

/-- 'sealringlaw21.LexerQuote', WHERE WHAT IT READS IS OF BULK AT MOST 1048576: true; the input reads as it did. -/
def lexerQuoteUptoRow : OpenClaim := { program := "ytiiboiomiacibaadoor", sum := "668de6f1ff8951c7af8588feffcebff92341a4b7947a92b360c3ba3ab00c3d89", func := "sealring/sealringlaw21.LexerQuote", spec := "lexerQuote", inPlace := ["internal/bytealg.CountString", "internal/bytealg.IndexByteString", "internal/bytealg.IndexString", "internal/abi.NoEscape"], named := ["unicode/utf8.first", "unicode/utf8.acceptRanges", "internal/bytealg.MaxLen"], apart := false, laid := [("unicode/utf8.acceptRanges", laid_unicode_utf8_acceptRanges), ("unicode/utf8.first", laid_unicode_utf8_first)], narrowed := true }
def LexerQuoteUptoSaid : Prop := lexerQuoteUptoRow.holds Tryd.pinned (OpenSpec.upto lexerQuoteSpec)

/-- 'sealringlaw21.LexerUnquote', WHERE WHAT IT READS IS OF BULK AT MOST 1048576: true; the input reads as it did. -/
def lexerUnquoteUptoRow : OpenClaim := { program := "ytiiboiomiacibaadoor", sum := "668de6f1ff8951c7af8588feffcebff92341a4b7947a92b360c3ba3ab00c3d89", func := "sealring/sealringlaw21.LexerUnquote", spec := "lexerUnquote", inPlace := ["internal/bytealg.CountString", "internal/bytealg.IndexByteString", "internal/bytealg.IndexString", "internal/abi.NoEscape"], named := ["unicode/utf8.first", "unicode/utf8.acceptRanges", "internal/bytealg.MaxLen"], apart := false, laid := [("unicode/utf8.acceptRanges", laid_unicode_utf8_acceptRanges), ("unicode/utf8.first", laid_unicode_utf8_first)], narrowed := true }
def LexerUnquoteUptoSaid : Prop := lexerUnquoteUptoRow.holds Tryd.pinned (OpenSpec.upto lexerUnquoteSpec)

/-- 'sealringlaw21.LexerSpace', WHERE WHAT IT READS IS OF BULK AT MOST 1048576: true; the input reads as it did. -/
def lexerSpaceUptoRow : OpenClaim := { program := "ytiiboiomiacibaadoor", sum := "668de6f1ff8951c7af8588feffcebff92341a4b7947a92b360c3ba3ab00c3d89", func := "sealring/sealringlaw21.LexerSpace", spec := "lexerSpace", inPlace := ["internal/bytealg.CountString", "internal/bytealg.IndexByteString", "internal/bytealg.IndexString", "internal/abi.NoEscape"], named := ["unicode/utf8.first", "unicode/utf8.acceptRanges", "internal/bytealg.MaxLen", "internal/strconv.uint64pow10", "math/bits.deBruijn32tab", "math/bits.deBruijn64tab"], apart := false, laid := [("math/bits.deBruijn32tab", laid_math_bits_deBruijn32tab), ("math/bits.deBruijn64tab", laid_math_bits_deBruijn64tab), ("internal/strconv.uint64pow10", laid_internal_strconv_uint64pow10), ("unicode/utf8.acceptRanges", laid_unicode_utf8_acceptRanges), ("unicode/utf8.first", laid_unicode_utf8_first)], narrowed := true }
def LexerSpaceUptoSaid : Prop := lexerSpaceUptoRow.holds Tryd.pinned (OpenSpec.upto lexerSpaceSpec)

/-- 'sealringlaw21.LexerJoin', WHERE WHAT IT READS IS OF BULK AT MOST 1048576: true; the input reads as it did. -/
def lexerJoinUptoRow : OpenClaim := { program := "ytiiboiomiacibaadoor", sum := "668de6f1ff8951c7af8588feffcebff92341a4b7947a92b360c3ba3ab00c3d89", func := "sealring/sealringlaw21.LexerJoin", spec := "lexerJoin", inPlace := ["internal/bytealg.CountString", "internal/bytealg.IndexByteString", "internal/bytealg.IndexString", "internal/abi.NoEscape", "internal/bytealg.MakeNoZero"], recurses := true, named := ["unicode/utf8.first", "unicode/utf8.acceptRanges", "internal/bytealg.MaxLen", "internal/strconv.uint64pow10", "math/bits.deBruijn32tab", "math/bits.deBruijn64tab"], apart := false, laid := [("math/bits.deBruijn32tab", laid_math_bits_deBruijn32tab), ("math/bits.deBruijn64tab", laid_math_bits_deBruijn64tab), ("internal/strconv.uint64pow10", laid_internal_strconv_uint64pow10), ("unicode/utf8.acceptRanges", laid_unicode_utf8_acceptRanges), ("unicode/utf8.first", laid_unicode_utf8_first)], narrowed := true }
def LexerJoinUptoSaid : Prop := lexerJoinUptoRow.holds Tryd.pinned (OpenSpec.upto lexerJoinSpec)

/-- 'sealringlaw21.LexerWords', WHERE WHAT IT READS IS OF BULK AT MOST 1048576: true; the input reads as it did. -/
def lexerWordsUptoRow : OpenClaim := { program := "ytiiboiomiacibaadoor", sum := "668de6f1ff8951c7af8588feffcebff92341a4b7947a92b360c3ba3ab00c3d89", func := "sealring/sealringlaw21.LexerWords", spec := "lexerWords", inPlace := ["internal/bytealg.CountString", "internal/bytealg.IndexByteString", "internal/bytealg.IndexString", "internal/abi.NoEscape", "internal/bytealg.MakeNoZero"], recurses := true, named := ["unicode/utf8.first", "unicode/utf8.acceptRanges", "internal/bytealg.MaxLen", "internal/strconv.uint64pow10", "math/bits.deBruijn32tab", "math/bits.deBruijn64tab"], apart := false, laid := [("math/bits.deBruijn32tab", laid_math_bits_deBruijn32tab), ("math/bits.deBruijn64tab", laid_math_bits_deBruijn64tab), ("internal/strconv.uint64pow10", laid_internal_strconv_uint64pow10), ("unicode/utf8.acceptRanges", laid_unicode_utf8_acceptRanges), ("unicode/utf8.first", laid_unicode_utf8_first)], narrowed := true }
def LexerWordsUptoSaid : Prop := lexerWordsUptoRow.holds Tryd.pinned (OpenSpec.upto lexerWordsSpec)

end Rows
end Go.Proofs.YtiiboiomiacibaaDoor
