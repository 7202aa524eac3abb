/-
  NARROWER THAN 'FOR EVERY INPUT', by the rows' own cells (each row's printed sentence says how): CodecValid: loops.
  DERIVED. THE GIVEN ROWS OF THIS SEAT. 7 by the template 'for every input the law returns true; each argument reads behind the call as it read before'; 0 by the template 'total and deterministic' (their statements: YtgjclggjkhapfaaTotals.lean).
  GIVEN WITH THE SEED: the statements are not yours to turn. If you find one false, say at which input.
  Laid BY PROGRAM, IN A SANDBOX (cutbox-rows.mjs): the forced cells as the released guide's own fill.sh prints them over the translation 63b942698e7b38f7… (all of the seat's roots in one cut). By AI agents, Wed Nov 11 2026. No macro, syntax, notation, axiom, sorry.
-/
import Derived.Test.YtgjclggjkhapfaaChecked
import GoSem.Claim
import GoSem.ClaimJoined
import GoSem.ClaimMapViews
import Derived.JoinedTies
import Derived.KernelRfl
namespace Go.Proofs.Ytgjclggjkhapfaa
/- THE CELL 'sum', in the pinned program and in every row, IS THE sha256 OF THE DUMP (.gsa) THAT YtgjclggjkhapfaaProg.lean LOADS. Nothing in Lean hashes anything: it is a label: what it is worth is what the hold of that sum in a sandbox is worth. -/
noncomputable def Try.pinned : Pinned := { name := "ytgjclggjkhapfaa", sum := "63b942698e7b38f789bcccefb3c98ba8d55fd047255cc2dd7f855eae0ab26acd", checked := Try.checked }
namespace Rows
def none {H : Type} : Left H := { results := [], args := [] }

/-- 'sealringlaw18.CodecValid': WHATEVER THE INPUT: true; the input reads as it did. -/
def codecValidSpec : ChangeSpec := { name := "codecValid", fn := fun _ => fun
  | [d1, d2, d3] => { results := [.lit (.bool true)], args := [d1, d2, d3] }
  | _ => none }
def codecValidRow : OpenClaim := { program := "ytgjclggjkhapfaa", sum := "63b942698e7b38f789bcccefb3c98ba8d55fd047255cc2dd7f855eae0ab26acd", func := "sealring/sealringlaw18.CodecValid", spec := "codecValid", inPlace := ["internal/abi.NoEscape"], unfollowed := true, recurses := true, loops := true, apart := false }
def CodecValidSaid : Prop := codecValidRow.holds Try.pinned (OpenSpec.ofChange codecValidSpec)

/-- ITS FALSE NEIGHBOUR: 'it returns false'. Refute it at one input. -/
def codecValidWrong : ChangeSpec := { name := "codecValid", fn := fun _ => fun
  | [d1, d2, d3] => { results := [.lit (.bool false)], args := [d1, d2, d3] }
  | _ => none }
def CodecValidWrongFalsely : Prop := codecValidRow.holds Try.pinned (OpenSpec.ofChange codecValidWrong)

/-- 'sealringlaw18.CodecDecode': WHATEVER THE INPUT: true; the input reads as it did. -/
def codecDecodeSpec : ChangeSpec := { name := "codecDecode", fn := fun _ => fun
  | [d1, d2, d3] => { results := [.lit (.bool true)], args := [d1, d2, d3] }
  | _ => none }
def codecDecodeRow : OpenClaim := { program := "ytgjclggjkhapfaa", sum := "63b942698e7b38f789bcccefb3c98ba8d55fd047255cc2dd7f855eae0ab26acd", func := "sealring/sealringlaw18.CodecDecode", spec := "codecDecode", inPlace := ["internal/abi.NoEscape"], unfollowed := true, recurses := true, apart := false }
def CodecDecodeSaid : Prop := codecDecodeRow.holds Try.pinned (OpenSpec.ofChange codecDecodeSpec)

/-- ITS FALSE NEIGHBOUR: 'it returns false'. Refute it at one input. -/
def codecDecodeWrong : ChangeSpec := { name := "codecDecode", fn := fun _ => fun
  | [d1, d2, d3] => { results := [.lit (.bool false)], args := [d1, d2, d3] }
  | _ => none }
def CodecDecodeWrongFalsely : Prop := codecDecodeRow.holds Try.pinned (OpenSpec.ofChange codecDecodeWrong)

/-- 'sealringlaw18.CodecPosition': WHATEVER THE INPUT: true; the input reads as it did. -/
def codecPositionSpec : ChangeSpec := { name := "codecPosition", fn := fun _ => fun
  | [d1, d2, d3] => { results := [.lit (.bool true)], args := [d1, d2, d3] }
  | _ => none }
def codecPositionRow : OpenClaim := { program := "ytgjclggjkhapfaa", sum := "63b942698e7b38f789bcccefb3c98ba8d55fd047255cc2dd7f855eae0ab26acd", func := "sealring/sealringlaw18.CodecPosition", spec := "codecPosition", inPlace := ["internal/abi.NoEscape"], unfollowed := true, recurses := true, apart := false }
def CodecPositionSaid : Prop := codecPositionRow.holds Try.pinned (OpenSpec.ofChange codecPositionSpec)

/-- ITS FALSE NEIGHBOUR: 'it returns false'. Refute it at one input. -/
def codecPositionWrong : ChangeSpec := { name := "codecPosition", fn := fun _ => fun
  | [d1, d2, d3] => { results := [.lit (.bool false)], args := [d1, d2, d3] }
  | _ => none }
def CodecPositionWrongFalsely : Prop := codecPositionRow.holds Try.pinned (OpenSpec.ofChange codecPositionWrong)

/-- 'sealringlaw18.CodecCount': WHATEVER THE INPUT: true; the input reads as it did. -/
def codecCountSpec : ChangeSpec := { name := "codecCount", fn := fun _ => fun
  | [d1, d2, d3] => { results := [.lit (.bool true)], args := [d1, d2, d3] }
  | _ => none }
def codecCountRow : OpenClaim := { program := "ytgjclggjkhapfaa", sum := "63b942698e7b38f789bcccefb3c98ba8d55fd047255cc2dd7f855eae0ab26acd", func := "sealring/sealringlaw18.CodecCount", spec := "codecCount", inPlace := ["internal/abi.NoEscape"], unfollowed := true, recurses := true, apart := false }
def CodecCountSaid : Prop := codecCountRow.holds Try.pinned (OpenSpec.ofChange codecCountSpec)

/-- ITS FALSE NEIGHBOUR: 'it returns false'. Refute it at one input. -/
def codecCountWrong : ChangeSpec := { name := "codecCount", fn := fun _ => fun
  | [d1, d2, d3] => { results := [.lit (.bool false)], args := [d1, d2, d3] }
  | _ => none }
def CodecCountWrongFalsely : Prop := codecCountRow.holds Try.pinned (OpenSpec.ofChange codecCountWrong)

/-- 'sealringlaw18.CodecPrefix': WHATEVER THE INPUT: true; the input reads as it did. -/
def codecPrefixSpec : ChangeSpec := { name := "codecPrefix", fn := fun _ => fun
  | [d1, d2, d3] => { results := [.lit (.bool true)], args := [d1, d2, d3] }
  | _ => none }
def codecPrefixRow : OpenClaim := { program := "ytgjclggjkhapfaa", sum := "63b942698e7b38f789bcccefb3c98ba8d55fd047255cc2dd7f855eae0ab26acd", func := "sealring/sealringlaw18.CodecPrefix", spec := "codecPrefix", inPlace := ["internal/abi.NoEscape"], unfollowed := true, recurses := true, apart := false }
def CodecPrefixSaid : Prop := codecPrefixRow.holds Try.pinned (OpenSpec.ofChange codecPrefixSpec)

/-- ITS FALSE NEIGHBOUR: 'it returns false'. Refute it at one input. -/
def codecPrefixWrong : ChangeSpec := { name := "codecPrefix", fn := fun _ => fun
  | [d1, d2, d3] => { results := [.lit (.bool false)], args := [d1, d2, d3] }
  | _ => none }
def CodecPrefixWrongFalsely : Prop := codecPrefixRow.holds Try.pinned (OpenSpec.ofChange codecPrefixWrong)

/-- 'sealringlaw18.CodecWhich': WHATEVER THE INPUT: true; the input reads as it did. -/
def codecWhichSpec : ChangeSpec := { name := "codecWhich", fn := fun _ => fun
  | [d1, d2] => { results := [.lit (.bool true)], args := [d1, d2] }
  | _ => none }
def codecWhichRow : OpenClaim := { program := "ytgjclggjkhapfaa", sum := "63b942698e7b38f789bcccefb3c98ba8d55fd047255cc2dd7f855eae0ab26acd", func := "sealring/sealringlaw18.CodecWhich", spec := "codecWhich", inPlace := ["internal/abi.NoEscape"], unfollowed := true, recurses := true, apart := false }
def CodecWhichSaid : Prop := codecWhichRow.holds Try.pinned (OpenSpec.ofChange codecWhichSpec)

/-- ITS FALSE NEIGHBOUR: 'it returns false'. Refute it at one input. -/
def codecWhichWrong : ChangeSpec := { name := "codecWhich", fn := fun _ => fun
  | [d1, d2] => { results := [.lit (.bool false)], args := [d1, d2] }
  | _ => none }
def CodecWhichWrongFalsely : Prop := codecWhichRow.holds Try.pinned (OpenSpec.ofChange codecWhichWrong)

/-- 'sealringlaw18.CodecSample': WHATEVER THE INPUT: true; the input reads as it did. -/
def codecSampleSpec : ChangeSpec := { name := "codecSample", fn := fun _ => fun
  | [d1, d2, d3] => { results := [.lit (.bool true)], args := [d1, d2, d3] }
  | _ => none }
def codecSampleRow : OpenClaim := { program := "ytgjclggjkhapfaa", sum := "63b942698e7b38f789bcccefb3c98ba8d55fd047255cc2dd7f855eae0ab26acd", func := "sealring/sealringlaw18.CodecSample", spec := "codecSample", inPlace := ["internal/abi.NoEscape"], unfollowed := true, recurses := true, apart := false }
def CodecSampleSaid : Prop := codecSampleRow.holds Try.pinned (OpenSpec.ofChange codecSampleSpec)

/-- ITS FALSE NEIGHBOUR: 'it returns false'. Refute it at one input. -/
def codecSampleWrong : ChangeSpec := { name := "codecSample", fn := fun _ => fun
  | [d1, d2, d3] => { results := [.lit (.bool false)], args := [d1, d2, d3] }
  | _ => none }
def CodecSampleWrongFalsely : Prop := codecSampleRow.holds Try.pinned (OpenSpec.ofChange codecSampleWrong)

/- THE SECOND FORM. 'bulk': how many values and letters a reading holds, each counted each time it is reached (what is shared counts as often as it is met; a slice's spare places count too). A statement '..UptoSaid' is the law's where the arguments, and the package variables that the reading takes, are together of bulk at most 1048576: NARROWER than '..Said'. Prove '..Said' where nothing that the law and all that it calls make is longer than what came in: it says more and counts as full. Else prove '..UptoSaid'. A law counts once. -/
mutual
def uptoBulk {H : Type} : DataW H → Nat
  | .lit (.string bytes) => bytes.length + 1
  | .lit _ => 1
  | .nil => 1
  | .ptr d => uptoBulk d + 1
  | .slice elems spare => uptoBulkAll elems + uptoBulkAll spare + 1
  | .agg parts => uptoBulkAll parts + 1
  | .iface _ d => uptoBulk d + 1
  | .map entries => uptoBulkEntries entries + 1
  | .held _ => 1
def uptoBulkAll {H : Type} : List (DataW H) → Nat
  | [] => 0
  | d :: r => uptoBulk d + uptoBulkAll r
def uptoBulkEntries {H : Type} : List (Lit × DataW H) → Nat
  | [] => 0
  | x :: r => uptoBulkEntry x + uptoBulkEntries r
def uptoBulkEntry {H : Type} : Lit × DataW H → Nat
  | (.string bytes, d) => bytes.length + uptoBulk d + 1
  | (_, d) => uptoBulk d + 1
 end
def uptoSmall : (H : Type) → List (DataW H) → Bool := fun _ ds => decide (uptoBulkAll ds ≤ 1048576)
def OpenSpec.upto (s : _root_.Go.ChangeSpec) : _root_.Go.OpenSpec := { _root_.Go.OpenSpec.ofChange s with cond := some uptoSmall }

/-- 'sealringlaw18.CodecValid', WHERE WHAT IT READS IS OF BULK AT MOST 1048576: true; the input reads as it did. -/
def codecValidUptoRow : OpenClaim := { program := "ytgjclggjkhapfaa", sum := "63b942698e7b38f789bcccefb3c98ba8d55fd047255cc2dd7f855eae0ab26acd", func := "sealring/sealringlaw18.CodecValid", spec := "codecValid", inPlace := ["internal/abi.NoEscape"], unfollowed := true, recurses := true, loops := true, apart := false, narrowed := true }
def CodecValidUptoSaid : Prop := codecValidUptoRow.holds Try.pinned (OpenSpec.upto codecValidSpec)

/-- 'sealringlaw18.CodecDecode', WHERE WHAT IT READS IS OF BULK AT MOST 1048576: true; the input reads as it did. -/
def codecDecodeUptoRow : OpenClaim := { program := "ytgjclggjkhapfaa", sum := "63b942698e7b38f789bcccefb3c98ba8d55fd047255cc2dd7f855eae0ab26acd", func := "sealring/sealringlaw18.CodecDecode", spec := "codecDecode", inPlace := ["internal/abi.NoEscape"], unfollowed := true, recurses := true, apart := false, narrowed := true }
def CodecDecodeUptoSaid : Prop := codecDecodeUptoRow.holds Try.pinned (OpenSpec.upto codecDecodeSpec)

/-- 'sealringlaw18.CodecPosition', WHERE WHAT IT READS IS OF BULK AT MOST 1048576: true; the input reads as it did. -/
def codecPositionUptoRow : OpenClaim := { program := "ytgjclggjkhapfaa", sum := "63b942698e7b38f789bcccefb3c98ba8d55fd047255cc2dd7f855eae0ab26acd", func := "sealring/sealringlaw18.CodecPosition", spec := "codecPosition", inPlace := ["internal/abi.NoEscape"], unfollowed := true, recurses := true, apart := false, narrowed := true }
def CodecPositionUptoSaid : Prop := codecPositionUptoRow.holds Try.pinned (OpenSpec.upto codecPositionSpec)

/-- 'sealringlaw18.CodecCount', WHERE WHAT IT READS IS OF BULK AT MOST 1048576: true; the input reads as it did. -/
def codecCountUptoRow : OpenClaim := { program := "ytgjclggjkhapfaa", sum := "63b942698e7b38f789bcccefb3c98ba8d55fd047255cc2dd7f855eae0ab26acd", func := "sealring/sealringlaw18.CodecCount", spec := "codecCount", inPlace := ["internal/abi.NoEscape"], unfollowed := true, recurses := true, apart := false, narrowed := true }
def CodecCountUptoSaid : Prop := codecCountUptoRow.holds Try.pinned (OpenSpec.upto codecCountSpec)

/-- 'sealringlaw18.CodecPrefix', WHERE WHAT IT READS IS OF BULK AT MOST 1048576: true; the input reads as it did. -/
def codecPrefixUptoRow : OpenClaim := { program := "ytgjclggjkhapfaa", sum := "63b942698e7b38f789bcccefb3c98ba8d55fd047255cc2dd7f855eae0ab26acd", func := "sealring/sealringlaw18.CodecPrefix", spec := "codecPrefix", inPlace := ["internal/abi.NoEscape"], unfollowed := true, recurses := true, apart := false, narrowed := true }
def CodecPrefixUptoSaid : Prop := codecPrefixUptoRow.holds Try.pinned (OpenSpec.upto codecPrefixSpec)

/-- 'sealringlaw18.CodecWhich', WHERE WHAT IT READS IS OF BULK AT MOST 1048576: true; the input reads as it did. -/
def codecWhichUptoRow : OpenClaim := { program := "ytgjclggjkhapfaa", sum := "63b942698e7b38f789bcccefb3c98ba8d55fd047255cc2dd7f855eae0ab26acd", func := "sealring/sealringlaw18.CodecWhich", spec := "codecWhich", inPlace := ["internal/abi.NoEscape"], unfollowed := true, recurses := true, apart := false, narrowed := true }
def CodecWhichUptoSaid : Prop := codecWhichUptoRow.holds Try.pinned (OpenSpec.upto codecWhichSpec)

/-- 'sealringlaw18.CodecSample', WHERE WHAT IT READS IS OF BULK AT MOST 1048576: true; the input reads as it did. -/
def codecSampleUptoRow : OpenClaim := { program := "ytgjclggjkhapfaa", sum := "63b942698e7b38f789bcccefb3c98ba8d55fd047255cc2dd7f855eae0ab26acd", func := "sealring/sealringlaw18.CodecSample", spec := "codecSample", inPlace := ["internal/abi.NoEscape"], unfollowed := true, recurses := true, apart := false, narrowed := true }
def CodecSampleUptoSaid : Prop := codecSampleUptoRow.holds Try.pinned (OpenSpec.upto codecSampleSpec)

end Rows
end Go.Proofs.Ytgjclggjkhapfaa
