/-
  NARROWER THAN 'FOR EVERY INPUT', by the rows' own cells (each row's printed sentence says how): ScopeChecks: loops · ScopeUses: loops · ScopeNames: loops · ScopeFreshes: loops · ScopeResolves: loops · ScopeFree: loops · ScopeRenames: loops · ScopeBack: loops.
  DERIVED. THE GIVEN ROWS OF THIS SEAT. 8 by the template 'for every input the law returns true; each argument reads behind the call as it read before'; 0 by the template 'total and deterministic' (their statements: YteidahabkfgfjaaGreatTotals.lean).
  GIVEN WITH THE SEED: the statements are not yours to turn. If you find one false, say at which input.
  Laid BY PROGRAM, IN A SANDBOX (cutbox-rows.mjs): the forced cells as the released guide's own fill.sh prints them over the translation 3cacbef0f94ddda6… (all of the seat's roots in one cut). By AI agents, Wed Nov 11 2026. No macro, syntax, notation, axiom, sorry.
-/
import Derived.Test.YteidahabkfgfjaaGreatChecked
import GoSem.Claim
import GoSem.ClaimJoined
import GoSem.ClaimMapViews
import Derived.JoinedTies
import Derived.KernelRfl
namespace Go.Proofs.YteidahabkfgfjaaGreat
/- THE CELL 'sum', in the pinned program and in every row, IS THE sha256 OF THE DUMP (.gsa) THAT YteidahabkfgfjaaGreatProg.lean LOADS. Nothing in Lean hashes anything: it is a label: what it is worth is what the hold of that sum in a sandbox is worth. -/
noncomputable def Tryz.pinned : Pinned := { name := "yteidahabkfgfjaagreat", sum := "3cacbef0f94ddda68202e71bc0d03ad21fdefbce706bf7d4ecebe57ce6df4470", checked := Tryz.checked }
namespace Rows
def none {H : Type} : Left H := { results := [], args := [] }

/-- 'sealringlaw23.ScopeChecks': WHATEVER THE INPUT: true; the input reads as it did. -/
def scopeChecksSpec : ChangeSpec := { name := "scopeChecks", fn := fun _ => fun
  | [d] => { results := [.lit (.bool true)], args := [d] }
  | _ => none }
def scopeChecksRow : OpenClaim := { program := "yteidahabkfgfjaagreat", sum := "3cacbef0f94ddda68202e71bc0d03ad21fdefbce706bf7d4ecebe57ce6df4470", func := "sealring/sealringlaw23.ScopeChecks", spec := "scopeChecks", inPlace := ["internal/bytealg.IndexByteString", "internal/bytealg.IndexString"], unfollowed := true, recurses := true, named := ["internal/bytealg.MaxLen"], loops := true, apart := false }
def ScopeChecksSaid : Prop := scopeChecksRow.holds Tryz.pinned (OpenSpec.ofChange scopeChecksSpec)

/-- ITS FALSE NEIGHBOUR: 'it returns false'. Refute it at one input. -/
def scopeChecksWrong : ChangeSpec := { name := "scopeChecks", fn := fun _ => fun
  | [d] => { results := [.lit (.bool false)], args := [d] }
  | _ => none }
def ScopeChecksWrongFalsely : Prop := scopeChecksRow.holds Tryz.pinned (OpenSpec.ofChange scopeChecksWrong)

/-- 'sealringlaw23.ScopeUses': WHATEVER THE INPUT: true; the input reads as it did. -/
def scopeUsesSpec : ChangeSpec := { name := "scopeUses", fn := fun _ => fun
  | [d1, d2] => { results := [.lit (.bool true)], args := [d1, d2] }
  | _ => none }
def scopeUsesRow : OpenClaim := { program := "yteidahabkfgfjaagreat", sum := "3cacbef0f94ddda68202e71bc0d03ad21fdefbce706bf7d4ecebe57ce6df4470", func := "sealring/sealringlaw23.ScopeUses", spec := "scopeUses", inPlace := ["internal/bytealg.IndexByteString", "internal/bytealg.IndexString"], unfollowed := true, recurses := true, named := ["internal/bytealg.MaxLen"], loops := true, apart := false }
def ScopeUsesSaid : Prop := scopeUsesRow.holds Tryz.pinned (OpenSpec.ofChange scopeUsesSpec)

/-- ITS FALSE NEIGHBOUR: 'it returns false'. Refute it at one input. -/
def scopeUsesWrong : ChangeSpec := { name := "scopeUses", fn := fun _ => fun
  | [d1, d2] => { results := [.lit (.bool false)], args := [d1, d2] }
  | _ => none }
def ScopeUsesWrongFalsely : Prop := scopeUsesRow.holds Tryz.pinned (OpenSpec.ofChange scopeUsesWrong)

/-- 'sealringlaw23.ScopeNames': WHATEVER THE INPUT: true; the input reads as it did. -/
def scopeNamesSpec : ChangeSpec := { name := "scopeNames", fn := fun _ => fun
  | [d1, d2] => { results := [.lit (.bool true)], args := [d1, d2] }
  | _ => none }
def scopeNamesRow : OpenClaim := { program := "yteidahabkfgfjaagreat", sum := "3cacbef0f94ddda68202e71bc0d03ad21fdefbce706bf7d4ecebe57ce6df4470", func := "sealring/sealringlaw23.ScopeNames", spec := "scopeNames", inPlace := ["internal/bytealg.IndexByteString", "internal/bytealg.IndexString"], unfollowed := true, recurses := true, named := ["internal/bytealg.MaxLen"], loops := true, apart := false }
def ScopeNamesSaid : Prop := scopeNamesRow.holds Tryz.pinned (OpenSpec.ofChange scopeNamesSpec)

/-- ITS FALSE NEIGHBOUR: 'it returns false'. Refute it at one input. -/
def scopeNamesWrong : ChangeSpec := { name := "scopeNames", fn := fun _ => fun
  | [d1, d2] => { results := [.lit (.bool false)], args := [d1, d2] }
  | _ => none }
def ScopeNamesWrongFalsely : Prop := scopeNamesRow.holds Tryz.pinned (OpenSpec.ofChange scopeNamesWrong)

/-- 'sealringlaw23.ScopeFreshes': WHATEVER THE INPUT: true; the input reads as it did. -/
def scopeFreshesSpec : ChangeSpec := { name := "scopeFreshes", fn := fun _ => fun
  | [d1, d2] => { results := [.lit (.bool true)], args := [d1, d2] }
  | _ => none }
def scopeFreshesRow : OpenClaim := { program := "yteidahabkfgfjaagreat", sum := "3cacbef0f94ddda68202e71bc0d03ad21fdefbce706bf7d4ecebe57ce6df4470", func := "sealring/sealringlaw23.ScopeFreshes", spec := "scopeFreshes", inPlace := ["internal/bytealg.IndexByteString", "internal/bytealg.IndexString"], unfollowed := true, recurses := true, named := ["internal/bytealg.MaxLen"], loops := true, apart := false }
def ScopeFreshesSaid : Prop := scopeFreshesRow.holds Tryz.pinned (OpenSpec.ofChange scopeFreshesSpec)

/-- ITS FALSE NEIGHBOUR: 'it returns false'. Refute it at one input. -/
def scopeFreshesWrong : ChangeSpec := { name := "scopeFreshes", fn := fun _ => fun
  | [d1, d2] => { results := [.lit (.bool false)], args := [d1, d2] }
  | _ => none }
def ScopeFreshesWrongFalsely : Prop := scopeFreshesRow.holds Tryz.pinned (OpenSpec.ofChange scopeFreshesWrong)

/-- 'sealringlaw23.ScopeResolves': WHATEVER THE INPUT: true; the input reads as it did. -/
def scopeResolvesSpec : ChangeSpec := { name := "scopeResolves", fn := fun _ => fun
  | [d] => { results := [.lit (.bool true)], args := [d] }
  | _ => none }
def scopeResolvesRow : OpenClaim := { program := "yteidahabkfgfjaagreat", sum := "3cacbef0f94ddda68202e71bc0d03ad21fdefbce706bf7d4ecebe57ce6df4470", func := "sealring/sealringlaw23.ScopeResolves", spec := "scopeResolves", inPlace := ["internal/bytealg.IndexByteString", "internal/bytealg.IndexString"], unfollowed := true, recurses := true, named := ["internal/bytealg.MaxLen"], loops := true, apart := false }
def ScopeResolvesSaid : Prop := scopeResolvesRow.holds Tryz.pinned (OpenSpec.ofChange scopeResolvesSpec)

/-- ITS FALSE NEIGHBOUR: 'it returns false'. Refute it at one input. -/
def scopeResolvesWrong : ChangeSpec := { name := "scopeResolves", fn := fun _ => fun
  | [d] => { results := [.lit (.bool false)], args := [d] }
  | _ => none }
def ScopeResolvesWrongFalsely : Prop := scopeResolvesRow.holds Tryz.pinned (OpenSpec.ofChange scopeResolvesWrong)

/-- 'sealringlaw23.ScopeFree': WHATEVER THE INPUT: true; the input reads as it did. -/
def scopeFreeSpec : ChangeSpec := { name := "scopeFree", fn := fun _ => fun
  | [d] => { results := [.lit (.bool true)], args := [d] }
  | _ => none }
def scopeFreeRow : OpenClaim := { program := "yteidahabkfgfjaagreat", sum := "3cacbef0f94ddda68202e71bc0d03ad21fdefbce706bf7d4ecebe57ce6df4470", func := "sealring/sealringlaw23.ScopeFree", spec := "scopeFree", inPlace := ["internal/bytealg.IndexByteString", "internal/bytealg.IndexString"], unfollowed := true, recurses := true, named := ["internal/bytealg.MaxLen"], loops := true, apart := false }
def ScopeFreeSaid : Prop := scopeFreeRow.holds Tryz.pinned (OpenSpec.ofChange scopeFreeSpec)

/-- ITS FALSE NEIGHBOUR: 'it returns false'. Refute it at one input. -/
def scopeFreeWrong : ChangeSpec := { name := "scopeFree", fn := fun _ => fun
  | [d] => { results := [.lit (.bool false)], args := [d] }
  | _ => none }
def ScopeFreeWrongFalsely : Prop := scopeFreeRow.holds Tryz.pinned (OpenSpec.ofChange scopeFreeWrong)

/-- 'sealringlaw23.ScopeRenames': WHATEVER THE INPUT: true; the input reads as it did. -/
def scopeRenamesSpec : ChangeSpec := { name := "scopeRenames", fn := fun _ => fun
  | [d1, d2, d3] => { results := [.lit (.bool true)], args := [d1, d2, d3] }
  | _ => none }
def scopeRenamesRow : OpenClaim := { program := "yteidahabkfgfjaagreat", sum := "3cacbef0f94ddda68202e71bc0d03ad21fdefbce706bf7d4ecebe57ce6df4470", func := "sealring/sealringlaw23.ScopeRenames", spec := "scopeRenames", inPlace := ["internal/bytealg.IndexByteString", "internal/bytealg.IndexString"], unfollowed := true, recurses := true, named := ["internal/bytealg.MaxLen"], loops := true, apart := false }
def ScopeRenamesSaid : Prop := scopeRenamesRow.holds Tryz.pinned (OpenSpec.ofChange scopeRenamesSpec)

/-- ITS FALSE NEIGHBOUR: 'it returns false'. Refute it at one input. -/
def scopeRenamesWrong : ChangeSpec := { name := "scopeRenames", fn := fun _ => fun
  | [d1, d2, d3] => { results := [.lit (.bool false)], args := [d1, d2, d3] }
  | _ => none }
def ScopeRenamesWrongFalsely : Prop := scopeRenamesRow.holds Tryz.pinned (OpenSpec.ofChange scopeRenamesWrong)

/-- 'sealringlaw23.ScopeBack': WHATEVER THE INPUT: true; the input reads as it did. -/
def scopeBackSpec : ChangeSpec := { name := "scopeBack", fn := fun _ => fun
  | [d1, d2, d3] => { results := [.lit (.bool true)], args := [d1, d2, d3] }
  | _ => none }
def scopeBackRow : OpenClaim := { program := "yteidahabkfgfjaagreat", sum := "3cacbef0f94ddda68202e71bc0d03ad21fdefbce706bf7d4ecebe57ce6df4470", func := "sealring/sealringlaw23.ScopeBack", spec := "scopeBack", inPlace := ["internal/bytealg.IndexByteString", "internal/bytealg.IndexString"], unfollowed := true, recurses := true, named := ["internal/bytealg.MaxLen"], loops := true, apart := false }
def ScopeBackSaid : Prop := scopeBackRow.holds Tryz.pinned (OpenSpec.ofChange scopeBackSpec)

/-- ITS FALSE NEIGHBOUR: 'it returns false'. Refute it at one input. -/
def scopeBackWrong : ChangeSpec := { name := "scopeBack", fn := fun _ => fun
  | [d1, d2, d3] => { results := [.lit (.bool false)], args := [d1, d2, d3] }
  | _ => none }
def ScopeBackWrongFalsely : Prop := scopeBackRow.holds Tryz.pinned (OpenSpec.ofChange scopeBackWrong)

/- THE SECOND FORM. 'bulk': how many values and letters a reading holds, each counted each time it is reached (what is shared counts as often as it is met; a slice's spare places count too). A statement '..UptoSaid' is the law's where the arguments, and the package variables that the reading takes, are together of bulk at most 1048576: NARROWER than '..Said'. Prove '..Said' where nothing that the law and all that it calls make is longer than what came in: it says more and counts as full. Else prove '..UptoSaid'. A law counts once. -/
mutual
def uptoBulk {H : Type} : DataW H → Nat
  | .lit (.string bytes) => bytes.length + 1
  | .lit _ => 1
  | .nil => 1
  | .ptr d => uptoBulk d + 1
  | .slice elems spare => uptoBulkAll elems + uptoBulkAll spare + 1
  | .agg parts => uptoBulkAll parts + 1
  | .iface _ d => uptoBulk d + 1
  | .map entries => uptoBulkEntries entries + 1
  | .held _ => 1
def uptoBulkAll {H : Type} : List (DataW H) → Nat
  | [] => 0
  | d :: r => uptoBulk d + uptoBulkAll r
def uptoBulkEntries {H : Type} : List (Lit × DataW H) → Nat
  | [] => 0
  | x :: r => uptoBulkEntry x + uptoBulkEntries r
def uptoBulkEntry {H : Type} : Lit × DataW H → Nat
  | (.string bytes, d) => bytes.length + uptoBulk d + 1
  | (_, d) => uptoBulk d + 1
 end
def uptoSmall : (H : Type) → List (DataW H) → Bool := fun _ ds => decide (uptoBulkAll ds ≤ 1048576)
def OpenSpec.upto (s : _root_.Go.ChangeSpec) : _root_.Go.OpenSpec := { _root_.Go.OpenSpec.ofChange s with cond := some uptoSmall }

/-- 'sealringlaw23.ScopeChecks', WHERE WHAT IT READS IS OF BULK AT MOST 1048576: true; the input reads as it did. -/
def scopeChecksUptoRow : OpenClaim := { program := "yteidahabkfgfjaagreat", sum := "3cacbef0f94ddda68202e71bc0d03ad21fdefbce706bf7d4ecebe57ce6df4470", func := "sealring/sealringlaw23.ScopeChecks", spec := "scopeChecks", inPlace := ["internal/bytealg.IndexByteString", "internal/bytealg.IndexString"], unfollowed := true, recurses := true, named := ["internal/bytealg.MaxLen"], loops := true, apart := false, narrowed := true }
def ScopeChecksUptoSaid : Prop := scopeChecksUptoRow.holds Tryz.pinned (OpenSpec.upto scopeChecksSpec)

/-- 'sealringlaw23.ScopeUses', WHERE WHAT IT READS IS OF BULK AT MOST 1048576: true; the input reads as it did. -/
def scopeUsesUptoRow : OpenClaim := { program := "yteidahabkfgfjaagreat", sum := "3cacbef0f94ddda68202e71bc0d03ad21fdefbce706bf7d4ecebe57ce6df4470", func := "sealring/sealringlaw23.ScopeUses", spec := "scopeUses", inPlace := ["internal/bytealg.IndexByteString", "internal/bytealg.IndexString"], unfollowed := true, recurses := true, named := ["internal/bytealg.MaxLen"], loops := true, apart := false, narrowed := true }
def ScopeUsesUptoSaid : Prop := scopeUsesUptoRow.holds Tryz.pinned (OpenSpec.upto scopeUsesSpec)

/-- 'sealringlaw23.ScopeNames', WHERE WHAT IT READS IS OF BULK AT MOST 1048576: true; the input reads as it did. -/
def scopeNamesUptoRow : OpenClaim := { program := "yteidahabkfgfjaagreat", sum := "3cacbef0f94ddda68202e71bc0d03ad21fdefbce706bf7d4ecebe57ce6df4470", func := "sealring/sealringlaw23.ScopeNames", spec := "scopeNames", inPlace := ["internal/bytealg.IndexByteString", "internal/bytealg.IndexString"], unfollowed := true, recurses := true, named := ["internal/bytealg.MaxLen"], loops := true, apart := false, narrowed := true }
def ScopeNamesUptoSaid : Prop := scopeNamesUptoRow.holds Tryz.pinned (OpenSpec.upto scopeNamesSpec)

/-- 'sealringlaw23.ScopeFreshes', WHERE WHAT IT READS IS OF BULK AT MOST 1048576: true; the input reads as it did. -/
def scopeFreshesUptoRow : OpenClaim := { program := "yteidahabkfgfjaagreat", sum := "3cacbef0f94ddda68202e71bc0d03ad21fdefbce706bf7d4ecebe57ce6df4470", func := "sealring/sealringlaw23.ScopeFreshes", spec := "scopeFreshes", inPlace := ["internal/bytealg.IndexByteString", "internal/bytealg.IndexString"], unfollowed := true, recurses := true, named := ["internal/bytealg.MaxLen"], loops := true, apart := false, narrowed := true }
def ScopeFreshesUptoSaid : Prop := scopeFreshesUptoRow.holds Tryz.pinned (OpenSpec.upto scopeFreshesSpec)

/-- 'sealringlaw23.ScopeResolves', WHERE WHAT IT READS IS OF BULK AT MOST 1048576: true; the input reads as it did. -/
def scopeResolvesUptoRow : OpenClaim := { program := "yteidahabkfgfjaagreat", sum := "3cacbef0f94ddda68202e71bc0d03ad21fdefbce706bf7d4ecebe57ce6df4470", func := "sealring/sealringlaw23.ScopeResolves", spec := "scopeResolves", inPlace := ["internal/bytealg.IndexByteString", "internal/bytealg.IndexString"], unfollowed := true, recurses := true, named := ["internal/bytealg.MaxLen"], loops := true, apart := false, narrowed := true }
def ScopeResolvesUptoSaid : Prop := scopeResolvesUptoRow.holds Tryz.pinned (OpenSpec.upto scopeResolvesSpec)

/-- 'sealringlaw23.ScopeFree', WHERE WHAT IT READS IS OF BULK AT MOST 1048576: true; the input reads as it did. -/
def scopeFreeUptoRow : OpenClaim := { program := "yteidahabkfgfjaagreat", sum := "3cacbef0f94ddda68202e71bc0d03ad21fdefbce706bf7d4ecebe57ce6df4470", func := "sealring/sealringlaw23.ScopeFree", spec := "scopeFree", inPlace := ["internal/bytealg.IndexByteString", "internal/bytealg.IndexString"], unfollowed := true, recurses := true, named := ["internal/bytealg.MaxLen"], loops := true, apart := false, narrowed := true }
def ScopeFreeUptoSaid : Prop := scopeFreeUptoRow.holds Tryz.pinned (OpenSpec.upto scopeFreeSpec)

/-- 'sealringlaw23.ScopeRenames', WHERE WHAT IT READS IS OF BULK AT MOST 1048576: true; the input reads as it did. -/
def scopeRenamesUptoRow : OpenClaim := { program := "yteidahabkfgfjaagreat", sum := "3cacbef0f94ddda68202e71bc0d03ad21fdefbce706bf7d4ecebe57ce6df4470", func := "sealring/sealringlaw23.ScopeRenames", spec := "scopeRenames", inPlace := ["internal/bytealg.IndexByteString", "internal/bytealg.IndexString"], unfollowed := true, recurses := true, named := ["internal/bytealg.MaxLen"], loops := true, apart := false, narrowed := true }
def ScopeRenamesUptoSaid : Prop := scopeRenamesUptoRow.holds Tryz.pinned (OpenSpec.upto scopeRenamesSpec)

/-- 'sealringlaw23.ScopeBack', WHERE WHAT IT READS IS OF BULK AT MOST 1048576: true; the input reads as it did. -/
def scopeBackUptoRow : OpenClaim := { program := "yteidahabkfgfjaagreat", sum := "3cacbef0f94ddda68202e71bc0d03ad21fdefbce706bf7d4ecebe57ce6df4470", func := "sealring/sealringlaw23.ScopeBack", spec := "scopeBack", inPlace := ["internal/bytealg.IndexByteString", "internal/bytealg.IndexString"], unfollowed := true, recurses := true, named := ["internal/bytealg.MaxLen"], loops := true, apart := false, narrowed := true }
def ScopeBackUptoSaid : Prop := scopeBackUptoRow.holds Tryz.pinned (OpenSpec.upto scopeBackSpec)

end Rows
end Go.Proofs.YteidahabkfgfjaaGreat
