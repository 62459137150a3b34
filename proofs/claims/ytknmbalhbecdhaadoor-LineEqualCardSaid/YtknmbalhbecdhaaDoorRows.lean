/-
  NARROWER THAN 'FOR EVERY INPUT', by the rows' own cells (each row's printed sentence says how): EscapeLists: laid · EscapeReads: laid · EscapeWrites: laid · EscapeBack: laid · FoldWrites: laid · FoldReads: laid · FoldBack: laid · FoldOther: laid · LineEqual: laid.
  DERIVED. THE GIVEN ROWS OF THIS SEAT. 9 by the template 'for every input the law returns true; each argument reads behind the call as it read before'; 0 by the template 'total and deterministic' (their statements: YtknmbalhbecdhaaDoorTotals.lean).
  GIVEN WITH THE SEED: the statements are not yours to turn. If you find one false, say at which input.
  Laid BY PROGRAM, IN A SANDBOX (cutbox-rows.mjs): the forced cells as the released guide's own fill.sh prints them over the translation 2758316b3c299d34… (all of the seat's roots in one cut). By AI agents, Wed Nov 11 2026. No macro, syntax, notation, axiom, sorry.
-/
import Derived.Test.YtknmbalhbecdhaaDoorChecked
import GoSem.PinnedTables
import GoSem.Claim
import GoSem.ClaimJoined
import GoSem.ClaimMapViews
import Derived.JoinedTies
import Derived.KernelRfl
namespace Go.Proofs.YtknmbalhbecdhaaDoor
/- THE CELL 'sum', in the pinned program and in every row, IS THE sha256 OF THE DUMP (.gsa) THAT YtknmbalhbecdhaaDoorProg.lean LOADS. Nothing in Lean hashes anything: it is a label: what it is worth is what the hold of that sum in a sandbox is worth. -/
noncomputable def Tryd.pinned : Pinned := { name := "ytknmbalhbecdhaadoor", sum := "2758316b3c299d3475915536165673651fdbcf8bcb98457c2ed0f9d0e5b75314", checked := Tryd.checked }
namespace Rows
def none {H : Type} : Left H := { results := [], args := [] }

/- WHAT THE LISTED PACKAGE-LEVEL VARIABLES READ AS WHEN THE CALL BEGINS. Each datum BY PROGRAM (the guide's laid-datum.mjs) off the statement by which the dump's own 'gosem.cut.vars' lays the variable. In a bare row this is a premise. The card (YtknmbalhbecdhaaDoorCards.lean) ties it to the program's text. -/
def laid_unicode_utf8_acceptRanges {H : Type} : DataW H := .agg [.agg [.lit (.int .u8 128), .lit (.int .u8 191)], .agg [.lit (.int .u8 160), .lit (.int .u8 191)], .agg [.lit (.int .u8 128), .lit (.int .u8 159)], .agg [.lit (.int .u8 144), .lit (.int .u8 191)], .agg [.lit (.int .u8 128), .lit (.int .u8 143)], .agg [.lit (.int .u8 0), .lit (.int .u8 0)], .agg [.lit (.int .u8 0), .lit (.int .u8 0)], .agg [.lit (.int .u8 0), .lit (.int .u8 0)], .agg [.lit (.int .u8 0), .lit (.int .u8 0)], .agg [.lit (.int .u8 0), .lit (.int .u8 0)], .agg [.lit (.int .u8 0), .lit (.int .u8 0)], .agg [.lit (.int .u8 0), .lit (.int .u8 0)], .agg [.lit (.int .u8 0), .lit (.int .u8 0)], .agg [.lit (.int .u8 0), .lit (.int .u8 0)], .agg [.lit (.int .u8 0), .lit (.int .u8 0)], .agg [.lit (.int .u8 0), .lit (.int .u8 0)]]
/-- One of Go's own tables, pinned by name: the form's constant. -/
def laid_unicode_utf8_first : DataW Unit := Go.Pinned.utf8First

/-- 'trystlaw09.EscapeLists': WHATEVER THE INPUT: true; the input reads as it did. -/
def escapeListsSpec : ChangeSpec := { name := "escapeLists", fn := fun _ => fun
  | [d] => { results := [.lit (.bool true)], args := [d] }
  | _ => none }
def escapeListsRow : OpenClaim := { program := "ytknmbalhbecdhaadoor", sum := "2758316b3c299d3475915536165673651fdbcf8bcb98457c2ed0f9d0e5b75314", func := "tryst/trystlaw09.EscapeLists", spec := "escapeLists", inPlace := ["internal/abi.NoEscape", "internal/bytealg.IndexByteString", "internal/bytealg.MakeNoZero"], named := ["unicode/utf8.first", "unicode/utf8.acceptRanges"], apart := false, laid := [("unicode/utf8.acceptRanges", laid_unicode_utf8_acceptRanges), ("unicode/utf8.first", laid_unicode_utf8_first)] }
def EscapeListsSaid : Prop := escapeListsRow.holds Tryd.pinned (OpenSpec.ofChange escapeListsSpec)

/-- ITS FALSE NEIGHBOUR: 'it returns false'. Refute it at one input. -/
def escapeListsWrong : ChangeSpec := { name := "escapeLists", fn := fun _ => fun
  | [d] => { results := [.lit (.bool false)], args := [d] }
  | _ => none }
def EscapeListsWrongFalsely : Prop := escapeListsRow.holds Tryd.pinned (OpenSpec.ofChange escapeListsWrong)

/-- 'trystlaw09.EscapeReads': WHATEVER THE INPUT: true; the input reads as it did. -/
def escapeReadsSpec : ChangeSpec := { name := "escapeReads", fn := fun _ => fun
  | [d] => { results := [.lit (.bool true)], args := [d] }
  | _ => none }
def escapeReadsRow : OpenClaim := { program := "ytknmbalhbecdhaadoor", sum := "2758316b3c299d3475915536165673651fdbcf8bcb98457c2ed0f9d0e5b75314", func := "tryst/trystlaw09.EscapeReads", spec := "escapeReads", inPlace := ["internal/abi.NoEscape", "internal/bytealg.IndexByteString", "internal/bytealg.IndexString"], named := ["unicode/utf8.first", "unicode/utf8.acceptRanges", "internal/bytealg.MaxLen"], apart := false, laid := [("unicode/utf8.acceptRanges", laid_unicode_utf8_acceptRanges), ("unicode/utf8.first", laid_unicode_utf8_first)] }
def EscapeReadsSaid : Prop := escapeReadsRow.holds Tryd.pinned (OpenSpec.ofChange escapeReadsSpec)

/-- ITS FALSE NEIGHBOUR: 'it returns false'. Refute it at one input. -/
def escapeReadsWrong : ChangeSpec := { name := "escapeReads", fn := fun _ => fun
  | [d] => { results := [.lit (.bool false)], args := [d] }
  | _ => none }
def EscapeReadsWrongFalsely : Prop := escapeReadsRow.holds Tryd.pinned (OpenSpec.ofChange escapeReadsWrong)

/-- 'trystlaw09.EscapeWrites': WHATEVER THE INPUT: true; the input reads as it did. -/
def escapeWritesSpec : ChangeSpec := { name := "escapeWrites", fn := fun _ => fun
  | [d] => { results := [.lit (.bool true)], args := [d] }
  | _ => none }
def escapeWritesRow : OpenClaim := { program := "ytknmbalhbecdhaadoor", sum := "2758316b3c299d3475915536165673651fdbcf8bcb98457c2ed0f9d0e5b75314", func := "tryst/trystlaw09.EscapeWrites", spec := "escapeWrites", inPlace := ["internal/abi.NoEscape", "internal/bytealg.IndexByteString", "sync/atomic.LoadUint32", "(*internal/sync.Mutex).Lock", "internal/race.Disable", "sync/atomic.CompareAndSwapInt32", "internal/race.Enable", "internal/race.Acquire", "(*internal/sync.Mutex).lockSlow", "internal/sync.runtime_canSpin", "internal/sync.runtime_doSpin", "internal/sync.throw", "internal/sync.runtime_nanotime", "internal/sync.runtime_SemacquireMutex", "sync/atomic.AddInt32", "(*internal/sync.Mutex).Unlock", "internal/race.ReleaseMerge", "(*internal/sync.Mutex).unlockSlow", "internal/sync.fatal", "internal/sync.runtime_Semrelease", "sync/atomic.StoreUint32", "internal/bytealg.IndexString"], unfollowed := true, recurses := true, named := ["unicode/utf8.first", "unicode/utf8.acceptRanges", "internal/bytealg.MaxLen"], apart := false, laid := [("unicode/utf8.acceptRanges", laid_unicode_utf8_acceptRanges), ("unicode/utf8.first", laid_unicode_utf8_first)] }
def EscapeWritesSaid : Prop := escapeWritesRow.holds Tryd.pinned (OpenSpec.ofChange escapeWritesSpec)

/-- ITS FALSE NEIGHBOUR: 'it returns false'. Refute it at one input. -/
def escapeWritesWrong : ChangeSpec := { name := "escapeWrites", fn := fun _ => fun
  | [d] => { results := [.lit (.bool false)], args := [d] }
  | _ => none }
def EscapeWritesWrongFalsely : Prop := escapeWritesRow.holds Tryd.pinned (OpenSpec.ofChange escapeWritesWrong)

/-- 'trystlaw09.EscapeBack': WHATEVER THE INPUT: true; the input reads as it did. -/
def escapeBackSpec : ChangeSpec := { name := "escapeBack", fn := fun _ => fun
  | [d] => { results := [.lit (.bool true)], args := [d] }
  | _ => none }
def escapeBackRow : OpenClaim := { program := "ytknmbalhbecdhaadoor", sum := "2758316b3c299d3475915536165673651fdbcf8bcb98457c2ed0f9d0e5b75314", func := "tryst/trystlaw09.EscapeBack", spec := "escapeBack", inPlace := ["internal/abi.NoEscape", "internal/bytealg.IndexByteString", "sync/atomic.LoadUint32", "(*internal/sync.Mutex).Lock", "internal/race.Disable", "sync/atomic.CompareAndSwapInt32", "internal/race.Enable", "internal/race.Acquire", "(*internal/sync.Mutex).lockSlow", "internal/sync.runtime_canSpin", "internal/sync.runtime_doSpin", "internal/sync.throw", "internal/sync.runtime_nanotime", "internal/sync.runtime_SemacquireMutex", "sync/atomic.AddInt32", "(*internal/sync.Mutex).Unlock", "internal/race.ReleaseMerge", "(*internal/sync.Mutex).unlockSlow", "internal/sync.fatal", "internal/sync.runtime_Semrelease", "sync/atomic.StoreUint32", "internal/bytealg.IndexString"], unfollowed := true, recurses := true, named := ["unicode/utf8.first", "unicode/utf8.acceptRanges", "internal/bytealg.MaxLen"], apart := false, laid := [("unicode/utf8.acceptRanges", laid_unicode_utf8_acceptRanges), ("unicode/utf8.first", laid_unicode_utf8_first)] }
def EscapeBackSaid : Prop := escapeBackRow.holds Tryd.pinned (OpenSpec.ofChange escapeBackSpec)

/-- ITS FALSE NEIGHBOUR: 'it returns false'. Refute it at one input. -/
def escapeBackWrong : ChangeSpec := { name := "escapeBack", fn := fun _ => fun
  | [d] => { results := [.lit (.bool false)], args := [d] }
  | _ => none }
def EscapeBackWrongFalsely : Prop := escapeBackRow.holds Tryd.pinned (OpenSpec.ofChange escapeBackWrong)

/-- 'trystlaw08.FoldWrites': WHATEVER THE INPUT: true; the input reads as it did. -/
def foldWritesSpec : ChangeSpec := { name := "foldWrites", fn := fun _ => fun
  | [d] => { results := [.lit (.bool true)], args := [d] }
  | _ => none }
def foldWritesRow : OpenClaim := { program := "ytknmbalhbecdhaadoor", sum := "2758316b3c299d3475915536165673651fdbcf8bcb98457c2ed0f9d0e5b75314", func := "tryst/trystlaw08.FoldWrites", spec := "foldWrites", inPlace := ["internal/bytealg.IndexByteString", "internal/bytealg.IndexString", "internal/abi.NoEscape"], named := ["unicode/utf8.first", "unicode/utf8.acceptRanges", "internal/bytealg.MaxLen"], apart := false, laid := [("unicode/utf8.acceptRanges", laid_unicode_utf8_acceptRanges), ("unicode/utf8.first", laid_unicode_utf8_first)] }
def FoldWritesSaid : Prop := foldWritesRow.holds Tryd.pinned (OpenSpec.ofChange foldWritesSpec)

/-- ITS FALSE NEIGHBOUR: 'it returns false'. Refute it at one input. -/
def foldWritesWrong : ChangeSpec := { name := "foldWrites", fn := fun _ => fun
  | [d] => { results := [.lit (.bool false)], args := [d] }
  | _ => none }
def FoldWritesWrongFalsely : Prop := foldWritesRow.holds Tryd.pinned (OpenSpec.ofChange foldWritesWrong)

/-- 'trystlaw08.FoldReads': WHATEVER THE INPUT: true; the input reads as it did. -/
def foldReadsSpec : ChangeSpec := { name := "foldReads", fn := fun _ => fun
  | [d] => { results := [.lit (.bool true)], args := [d] }
  | _ => none }
def foldReadsRow : OpenClaim := { program := "ytknmbalhbecdhaadoor", sum := "2758316b3c299d3475915536165673651fdbcf8bcb98457c2ed0f9d0e5b75314", func := "tryst/trystlaw08.FoldReads", spec := "foldReads", inPlace := ["internal/bytealg.IndexByteString", "internal/bytealg.IndexString", "internal/abi.NoEscape"], named := ["unicode/utf8.first", "unicode/utf8.acceptRanges", "internal/bytealg.MaxLen"], apart := false, laid := [("unicode/utf8.acceptRanges", laid_unicode_utf8_acceptRanges), ("unicode/utf8.first", laid_unicode_utf8_first)] }
def FoldReadsSaid : Prop := foldReadsRow.holds Tryd.pinned (OpenSpec.ofChange foldReadsSpec)

/-- ITS FALSE NEIGHBOUR: 'it returns false'. Refute it at one input. -/
def foldReadsWrong : ChangeSpec := { name := "foldReads", fn := fun _ => fun
  | [d] => { results := [.lit (.bool false)], args := [d] }
  | _ => none }
def FoldReadsWrongFalsely : Prop := foldReadsRow.holds Tryd.pinned (OpenSpec.ofChange foldReadsWrong)

/-- 'trystlaw08.FoldBack': WHATEVER THE INPUT: true; the input reads as it did. -/
def foldBackSpec : ChangeSpec := { name := "foldBack", fn := fun _ => fun
  | [d] => { results := [.lit (.bool true)], args := [d] }
  | _ => none }
def foldBackRow : OpenClaim := { program := "ytknmbalhbecdhaadoor", sum := "2758316b3c299d3475915536165673651fdbcf8bcb98457c2ed0f9d0e5b75314", func := "tryst/trystlaw08.FoldBack", spec := "foldBack", inPlace := ["internal/bytealg.IndexByteString", "internal/bytealg.IndexString", "internal/abi.NoEscape"], named := ["unicode/utf8.first", "unicode/utf8.acceptRanges", "internal/bytealg.MaxLen"], apart := false, laid := [("unicode/utf8.acceptRanges", laid_unicode_utf8_acceptRanges), ("unicode/utf8.first", laid_unicode_utf8_first)] }
def FoldBackSaid : Prop := foldBackRow.holds Tryd.pinned (OpenSpec.ofChange foldBackSpec)

/-- ITS FALSE NEIGHBOUR: 'it returns false'. Refute it at one input. -/
def foldBackWrong : ChangeSpec := { name := "foldBack", fn := fun _ => fun
  | [d] => { results := [.lit (.bool false)], args := [d] }
  | _ => none }
def FoldBackWrongFalsely : Prop := foldBackRow.holds Tryd.pinned (OpenSpec.ofChange foldBackWrong)

/-- 'trystlaw08.FoldOther': WHATEVER THE INPUT: true; the input reads as it did. -/
def foldOtherSpec : ChangeSpec := { name := "foldOther", fn := fun _ => fun
  | [d1, d2, d3, d4] => { results := [.lit (.bool true)], args := [d1, d2, d3, d4] }
  | _ => none }
def foldOtherRow : OpenClaim := { program := "ytknmbalhbecdhaadoor", sum := "2758316b3c299d3475915536165673651fdbcf8bcb98457c2ed0f9d0e5b75314", func := "tryst/trystlaw08.FoldOther", spec := "foldOther", inPlace := ["internal/bytealg.IndexByteString", "internal/bytealg.IndexString", "internal/abi.NoEscape"], named := ["unicode/utf8.first", "unicode/utf8.acceptRanges", "internal/bytealg.MaxLen"], apart := false, laid := [("unicode/utf8.acceptRanges", laid_unicode_utf8_acceptRanges), ("unicode/utf8.first", laid_unicode_utf8_first)] }
def FoldOtherSaid : Prop := foldOtherRow.holds Tryd.pinned (OpenSpec.ofChange foldOtherSpec)

/-- ITS FALSE NEIGHBOUR: 'it returns false'. Refute it at one input. -/
def foldOtherWrong : ChangeSpec := { name := "foldOther", fn := fun _ => fun
  | [d1, d2, d3, d4] => { results := [.lit (.bool false)], args := [d1, d2, d3, d4] }
  | _ => none }
def FoldOtherWrongFalsely : Prop := foldOtherRow.holds Tryd.pinned (OpenSpec.ofChange foldOtherWrong)

/-- 'trystlaw10.LineEqual': WHATEVER THE INPUT: true; the input reads as it did. -/
def lineEqualSpec : ChangeSpec := { name := "lineEqual", fn := fun _ => fun
  | [d1, d2, d3] => { results := [.lit (.bool true)], args := [d1, d2, d3] }
  | _ => none }
def lineEqualRow : OpenClaim := { program := "ytknmbalhbecdhaadoor", sum := "2758316b3c299d3475915536165673651fdbcf8bcb98457c2ed0f9d0e5b75314", func := "tryst/trystlaw10.LineEqual", spec := "lineEqual", inPlace := ["internal/bytealg.IndexByteString", "internal/bytealg.IndexString", "internal/abi.NoEscape"], unfollowed := true, recurses := true, named := ["unicode/utf8.first", "unicode/utf8.acceptRanges", "internal/bytealg.MaxLen"], apart := false, laid := [("unicode/utf8.acceptRanges", laid_unicode_utf8_acceptRanges), ("unicode/utf8.first", laid_unicode_utf8_first)] }
def LineEqualSaid : Prop := lineEqualRow.holds Tryd.pinned (OpenSpec.ofChange lineEqualSpec)

/-- ITS FALSE NEIGHBOUR: 'it returns false'. Refute it at one input. -/
def lineEqualWrong : ChangeSpec := { name := "lineEqual", fn := fun _ => fun
  | [d1, d2, d3] => { results := [.lit (.bool false)], args := [d1, d2, d3] }
  | _ => none }
def LineEqualWrongFalsely : Prop := lineEqualRow.holds Tryd.pinned (OpenSpec.ofChange lineEqualWrong)

/- THE SECOND FORM. 'bulk': how many values and letters a reading holds, each counted each time it is reached (what is shared counts as often as it is met; a slice's spare places count too). A statement '..UptoSaid' is the law's where the arguments, and the package variables that the reading takes, are together of bulk at most 1048576: NARROWER than '..Said'. Prove '..Said' where nothing that the law and all that it calls make is longer than what came in: it says more and counts as full. Else prove '..UptoSaid'. A law counts once. -/
mutual
def uptoBulk {H : Type} : DataW H → Nat
  | .lit (.string bytes) => bytes.length + 1
  | .lit _ => 1
  | .nil => 1
  | .ptr d => uptoBulk d + 1
  | .slice elems spare => uptoBulkAll elems + uptoBulkAll spare + 1
  | .agg parts => uptoBulkAll parts + 1
  | .iface _ d => uptoBulk d + 1
  | .map entries => uptoBulkEntries entries + 1
  | .held _ => 1
def uptoBulkAll {H : Type} : List (DataW H) → Nat
  | [] => 0
  | d :: r => uptoBulk d + uptoBulkAll r
def uptoBulkEntries {H : Type} : List (Lit × DataW H) → Nat
  | [] => 0
  | x :: r => uptoBulkEntry x + uptoBulkEntries r
def uptoBulkEntry {H : Type} : Lit × DataW H → Nat
  | (.string bytes, d) => bytes.length + uptoBulk d + 1
  | (_, d) => uptoBulk d + 1
 end
def uptoSmall : (H : Type) → List (DataW H) → Bool := fun _ ds => decide (uptoBulkAll ds ≤ 1048576)
def OpenSpec.upto (s : _root_.Go.ChangeSpec) : _root_.Go.OpenSpec := { _root_.Go.OpenSpec.ofChange s with cond := some uptoSmall }

/-- 'trystlaw09.EscapeLists', WHERE WHAT IT READS IS OF BULK AT MOST 1048576: true; the input reads as it did. -/
def escapeListsUptoRow : OpenClaim := { program := "ytknmbalhbecdhaadoor", sum := "2758316b3c299d3475915536165673651fdbcf8bcb98457c2ed0f9d0e5b75314", func := "tryst/trystlaw09.EscapeLists", spec := "escapeLists", inPlace := ["internal/abi.NoEscape", "internal/bytealg.IndexByteString", "internal/bytealg.MakeNoZero"], named := ["unicode/utf8.first", "unicode/utf8.acceptRanges"], apart := false, laid := [("unicode/utf8.acceptRanges", laid_unicode_utf8_acceptRanges), ("unicode/utf8.first", laid_unicode_utf8_first)], narrowed := true }
def EscapeListsUptoSaid : Prop := escapeListsUptoRow.holds Tryd.pinned (OpenSpec.upto escapeListsSpec)

/-- 'trystlaw09.EscapeReads', WHERE WHAT IT READS IS OF BULK AT MOST 1048576: true; the input reads as it did. -/
def escapeReadsUptoRow : OpenClaim := { program := "ytknmbalhbecdhaadoor", sum := "2758316b3c299d3475915536165673651fdbcf8bcb98457c2ed0f9d0e5b75314", func := "tryst/trystlaw09.EscapeReads", spec := "escapeReads", inPlace := ["internal/abi.NoEscape", "internal/bytealg.IndexByteString", "internal/bytealg.IndexString"], named := ["unicode/utf8.first", "unicode/utf8.acceptRanges", "internal/bytealg.MaxLen"], apart := false, laid := [("unicode/utf8.acceptRanges", laid_unicode_utf8_acceptRanges), ("unicode/utf8.first", laid_unicode_utf8_first)], narrowed := true }
def EscapeReadsUptoSaid : Prop := escapeReadsUptoRow.holds Tryd.pinned (OpenSpec.upto escapeReadsSpec)

/-- 'trystlaw09.EscapeWrites', WHERE WHAT IT READS IS OF BULK AT MOST 1048576: true; the input reads as it did. -/
def escapeWritesUptoRow : OpenClaim := { program := "ytknmbalhbecdhaadoor", sum := "2758316b3c299d3475915536165673651fdbcf8bcb98457c2ed0f9d0e5b75314", func := "tryst/trystlaw09.EscapeWrites", spec := "escapeWrites", inPlace := ["internal/abi.NoEscape", "internal/bytealg.IndexByteString", "sync/atomic.LoadUint32", "(*internal/sync.Mutex).Lock", "internal/race.Disable", "sync/atomic.CompareAndSwapInt32", "internal/race.Enable", "internal/race.Acquire", "(*internal/sync.Mutex).lockSlow", "internal/sync.runtime_canSpin", "internal/sync.runtime_doSpin", "internal/sync.throw", "internal/sync.runtime_nanotime", "internal/sync.runtime_SemacquireMutex", "sync/atomic.AddInt32", "(*internal/sync.Mutex).Unlock", "internal/race.ReleaseMerge", "(*internal/sync.Mutex).unlockSlow", "internal/sync.fatal", "internal/sync.runtime_Semrelease", "sync/atomic.StoreUint32", "internal/bytealg.IndexString"], unfollowed := true, recurses := true, named := ["unicode/utf8.first", "unicode/utf8.acceptRanges", "internal/bytealg.MaxLen"], apart := false, laid := [("unicode/utf8.acceptRanges", laid_unicode_utf8_acceptRanges), ("unicode/utf8.first", laid_unicode_utf8_first)], narrowed := true }
def EscapeWritesUptoSaid : Prop := escapeWritesUptoRow.holds Tryd.pinned (OpenSpec.upto escapeWritesSpec)

/-- 'trystlaw09.EscapeBack', WHERE WHAT IT READS IS OF BULK AT MOST 1048576: true; the input reads as it did. -/
def escapeBackUptoRow : OpenClaim := { program := "ytknmbalhbecdhaadoor", sum := "2758316b3c299d3475915536165673651fdbcf8bcb98457c2ed0f9d0e5b75314", func := "tryst/trystlaw09.EscapeBack", spec := "escapeBack", inPlace := ["internal/abi.NoEscape", "internal/bytealg.IndexByteString", "sync/atomic.LoadUint32", "(*internal/sync.Mutex).Lock", "internal/race.Disable", "sync/atomic.CompareAndSwapInt32", "internal/race.Enable", "internal/race.Acquire", "(*internal/sync.Mutex).lockSlow", "internal/sync.runtime_canSpin", "internal/sync.runtime_doSpin", "internal/sync.throw", "internal/sync.runtime_nanotime", "internal/sync.runtime_SemacquireMutex", "sync/atomic.AddInt32", "(*internal/sync.Mutex).Unlock", "internal/race.ReleaseMerge", "(*internal/sync.Mutex).unlockSlow", "internal/sync.fatal", "internal/sync.runtime_Semrelease", "sync/atomic.StoreUint32", "internal/bytealg.IndexString"], unfollowed := true, recurses := true, named := ["unicode/utf8.first", "unicode/utf8.acceptRanges", "internal/bytealg.MaxLen"], apart := false, laid := [("unicode/utf8.acceptRanges", laid_unicode_utf8_acceptRanges), ("unicode/utf8.first", laid_unicode_utf8_first)], narrowed := true }
def EscapeBackUptoSaid : Prop := escapeBackUptoRow.holds Tryd.pinned (OpenSpec.upto escapeBackSpec)

/-- 'trystlaw08.FoldWrites', WHERE WHAT IT READS IS OF BULK AT MOST 1048576: true; the input reads as it did. -/
def foldWritesUptoRow : OpenClaim := { program := "ytknmbalhbecdhaadoor", sum := "2758316b3c299d3475915536165673651fdbcf8bcb98457c2ed0f9d0e5b75314", func := "tryst/trystlaw08.FoldWrites", spec := "foldWrites", inPlace := ["internal/bytealg.IndexByteString", "internal/bytealg.IndexString", "internal/abi.NoEscape"], named := ["unicode/utf8.first", "unicode/utf8.acceptRanges", "internal/bytealg.MaxLen"], apart := false, laid := [("unicode/utf8.acceptRanges", laid_unicode_utf8_acceptRanges), ("unicode/utf8.first", laid_unicode_utf8_first)], narrowed := true }
def FoldWritesUptoSaid : Prop := foldWritesUptoRow.holds Tryd.pinned (OpenSpec.upto foldWritesSpec)

/-- 'trystlaw08.FoldReads', WHERE WHAT IT READS IS OF BULK AT MOST 1048576: true; the input reads as it did. -/
def foldReadsUptoRow : OpenClaim := { program := "ytknmbalhbecdhaadoor", sum := "2758316b3c299d3475915536165673651fdbcf8bcb98457c2ed0f9d0e5b75314", func := "tryst/trystlaw08.FoldReads", spec := "foldReads", inPlace := ["internal/bytealg.IndexByteString", "internal/bytealg.IndexString", "internal/abi.NoEscape"], named := ["unicode/utf8.first", "unicode/utf8.acceptRanges", "internal/bytealg.MaxLen"], apart := false, laid := [("unicode/utf8.acceptRanges", laid_unicode_utf8_acceptRanges), ("unicode/utf8.first", laid_unicode_utf8_first)], narrowed := true }
def FoldReadsUptoSaid : Prop := foldReadsUptoRow.holds Tryd.pinned (OpenSpec.upto foldReadsSpec)

/-- 'trystlaw08.FoldBack', WHERE WHAT IT READS IS OF BULK AT MOST 1048576: true; the input reads as it did. -/
def foldBackUptoRow : OpenClaim := { program := "ytknmbalhbecdhaadoor", sum := "2758316b3c299d3475915536165673651fdbcf8bcb98457c2ed0f9d0e5b75314", func := "tryst/trystlaw08.FoldBack", spec := "foldBack", inPlace := ["internal/bytealg.IndexByteString", "internal/bytealg.IndexString", "internal/abi.NoEscape"], named := ["unicode/utf8.first", "unicode/utf8.acceptRanges", "internal/bytealg.MaxLen"], apart := false, laid := [("unicode/utf8.acceptRanges", laid_unicode_utf8_acceptRanges), ("unicode/utf8.first", laid_unicode_utf8_first)], narrowed := true }
def FoldBackUptoSaid : Prop := foldBackUptoRow.holds Tryd.pinned (OpenSpec.upto foldBackSpec)

/-- 'trystlaw08.FoldOther', WHERE WHAT IT READS IS OF BULK AT MOST 1048576: true; the input reads as it did. -/
def foldOtherUptoRow : OpenClaim := { program := "ytknmbalhbecdhaadoor", sum := "2758316b3c299d3475915536165673651fdbcf8bcb98457c2ed0f9d0e5b75314", func := "tryst/trystlaw08.FoldOther", spec := "foldOther", inPlace := ["internal/bytealg.IndexByteString", "internal/bytealg.IndexString", "internal/abi.NoEscape"], named := ["unicode/utf8.first", "unicode/utf8.acceptRanges", "internal/bytealg.MaxLen"], apart := false, laid := [("unicode/utf8.acceptRanges", laid_unicode_utf8_acceptRanges), ("unicode/utf8.first", laid_unicode_utf8_first)], narrowed := true }
def FoldOtherUptoSaid : Prop := foldOtherUptoRow.holds Tryd.pinned (OpenSpec.upto foldOtherSpec)

/-- 'trystlaw10.LineEqual', WHERE WHAT IT READS IS OF BULK AT MOST 1048576: true; the input reads as it did. -/
def lineEqualUptoRow : OpenClaim := { program := "ytknmbalhbecdhaadoor", sum := "2758316b3c299d3475915536165673651fdbcf8bcb98457c2ed0f9d0e5b75314", func := "tryst/trystlaw10.LineEqual", spec := "lineEqual", inPlace := ["internal/bytealg.IndexByteString", "internal/bytealg.IndexString", "internal/abi.NoEscape"], unfollowed := true, recurses := true, named := ["unicode/utf8.first", "unicode/utf8.acceptRanges", "internal/bytealg.MaxLen"], apart := false, laid := [("unicode/utf8.acceptRanges", laid_unicode_utf8_acceptRanges), ("unicode/utf8.first", laid_unicode_utf8_first)], narrowed := true }
def LineEqualUptoSaid : Prop := lineEqualUptoRow.holds Tryd.pinned (OpenSpec.upto lineEqualSpec)

end Rows
end Go.Proofs.YtknmbalhbecdhaaDoor
