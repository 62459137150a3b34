/-
  NARROWER THAN 'FOR EVERY INPUT', by the rows' own cells (each row's printed sentence says how): ObjectNames: laid · StatusTells: laid · EscapeLists: laid · FoldWrites: laid · EscapeReads: laid.
  DERIVED. THE GIVEN ROWS OF THIS SEAT. 5 by the template 'for every input the law returns true; each argument reads behind the call as it read before'; 0 by the template 'total and deterministic' (their statements: YtmnghjoamdlajaaDoorTotals.lean).
  GIVEN WITH THE SEED: the statements are not yours to turn. If you find one false, say at which input.
  Laid BY PROGRAM, IN A SANDBOX (cutbox-rows.mjs): the forced cells as the released guide's own fill.sh prints them over the translation a3f0737551c2e51c… (all of the seat's roots in one cut). By AI agents, Wed Nov 11 2026. No macro, syntax, notation, axiom, sorry.
-/
import Derived.Test.YtmnghjoamdlajaaDoorChecked
import GoSem.PinnedTables
import GoSem.Claim
import GoSem.ClaimJoined
import GoSem.ClaimMapViews
import Derived.JoinedTies
import Derived.KernelRfl
namespace Go.Proofs.YtmnghjoamdlajaaDoor
/- THE CELL 'sum', in the pinned program and in every row, IS THE sha256 OF THE DUMP (.gsa) THAT YtmnghjoamdlajaaDoorProg.lean LOADS. Nothing in Lean hashes anything: it is a label: what it is worth is what the hold of that sum in a sandbox is worth. -/
noncomputable def Tryd.pinned : Pinned := { name := "ytmnghjoamdlajaadoor", sum := "a3f0737551c2e51cbd29049240d52f96c713f692412fdedd67ef6619a55ec600", checked := Tryd.checked }
namespace Rows
def none {H : Type} : Left H := { results := [], args := [] }

/- WHAT THE LISTED PACKAGE-LEVEL VARIABLES READ AS WHEN THE CALL BEGINS. Each datum BY PROGRAM (the guide's laid-datum.mjs) off the statement by which the dump's own 'gosem.cut.vars' lays the variable. In a bare row this is a premise. The card (YtmnghjoamdlajaaDoorCards.lean) ties it to the program's text. -/
def laid_tryst_object_roles {H : Type} : DataW H := .agg [.lit (.string [82, 69, 81, 45, 80, 65, 82, 84, 73, 67, 73, 80, 65, 78, 84]), .lit (.string [79, 80, 84, 45, 80, 65, 82, 84, 73, 67, 73, 80, 65, 78, 84]), .lit (.string [78, 79, 78, 45, 80, 65, 82, 84, 73, 67, 73, 80, 65, 78, 84]), .lit (.string [67, 72, 65, 73, 82])]
def laid_tryst_object_states {H : Type} : DataW H := .agg [.lit (.string [78, 69, 69, 68, 83, 45, 65, 67, 84, 73, 79, 78]), .lit (.string [65, 67, 67, 69, 80, 84, 69, 68]), .lit (.string [68, 69, 67, 76, 73, 78, 69, 68]), .lit (.string [84, 69, 78, 84, 65, 84, 73, 86, 69]), .lit (.string [68, 69, 76, 69, 71, 65, 84, 69, 68])]
def laid_errors_errorType {H : Type} : DataW H := .iface "internal/reflectlite.rtype" (.agg [.ptr (.lit (.string [101, 114, 114, 111, 114]))])
def laid_unicode_utf8_acceptRanges {H : Type} : DataW H := .agg [.agg [.lit (.int .u8 128), .lit (.int .u8 191)], .agg [.lit (.int .u8 160), .lit (.int .u8 191)], .agg [.lit (.int .u8 128), .lit (.int .u8 159)], .agg [.lit (.int .u8 144), .lit (.int .u8 191)], .agg [.lit (.int .u8 128), .lit (.int .u8 143)], .agg [.lit (.int .u8 0), .lit (.int .u8 0)], .agg [.lit (.int .u8 0), .lit (.int .u8 0)], .agg [.lit (.int .u8 0), .lit (.int .u8 0)], .agg [.lit (.int .u8 0), .lit (.int .u8 0)], .agg [.lit (.int .u8 0), .lit (.int .u8 0)], .agg [.lit (.int .u8 0), .lit (.int .u8 0)], .agg [.lit (.int .u8 0), .lit (.int .u8 0)], .agg [.lit (.int .u8 0), .lit (.int .u8 0)], .agg [.lit (.int .u8 0), .lit (.int .u8 0)], .agg [.lit (.int .u8 0), .lit (.int .u8 0)], .agg [.lit (.int .u8 0), .lit (.int .u8 0)]]
/-- One of Go's own tables, pinned by name: the form's constant. -/
def laid_unicode_utf8_first : DataW Unit := Go.Pinned.utf8First

/-- 'trystlaw19.ObjectNames': WHATEVER THE INPUT: true; the input reads as it did. -/
def objectNamesSpec : ChangeSpec := { name := "objectNames", fn := fun _ => fun
  | [d] => { results := [.lit (.bool true)], args := [d] }
  | _ => none }
def objectNamesRow : OpenClaim := { program := "ytmnghjoamdlajaadoor", sum := "a3f0737551c2e51cbd29049240d52f96c713f692412fdedd67ef6619a55ec600", func := "tryst/trystlaw19.ObjectNames", spec := "objectNames", named := ["tryst/object.states", "tryst/object.roles"], apart := false, laid := [("tryst/object.roles", laid_tryst_object_roles), ("tryst/object.states", laid_tryst_object_states)] }
def ObjectNamesSaid : Prop := objectNamesRow.holds Tryd.pinned (OpenSpec.ofChange objectNamesSpec)

/-- ITS FALSE NEIGHBOUR: 'it returns false'. Refute it at one input. -/
def objectNamesWrong : ChangeSpec := { name := "objectNames", fn := fun _ => fun
  | [d] => { results := [.lit (.bool false)], args := [d] }
  | _ => none }
def ObjectNamesWrongFalsely : Prop := objectNamesRow.holds Tryd.pinned (OpenSpec.ofChange objectNamesWrong)

/-- 'trystlaw22.StatusTells': WHATEVER THE INPUT: true; the input reads as it did. -/
def statusTellsSpec : ChangeSpec := { name := "statusTells", fn := fun _ => fun
  | [d1, d2] => { results := [.lit (.bool true)], args := [d1, d2] }
  | _ => none }
def statusTellsRow : OpenClaim := { program := "ytmnghjoamdlajaadoor", sum := "a3f0737551c2e51cbd29049240d52f96c713f692412fdedd67ef6619a55ec600", func := "tryst/trystlaw22.StatusTells", spec := "statusTells", inPlace := ["internal/reflectlite.TypeOf", "internal/reflectlite.ValueOf", "(internal/reflectlite.Value).Type", "(internal/reflectlite.Value).IsNil", "(internal/reflectlite.Value).Elem", "(internal/reflectlite.Value).Set"], unfollowed := true, recurses := true, named := ["errors.errorType"], apart := false, laid := [("errors.errorType", laid_errors_errorType)] }
def StatusTellsSaid : Prop := statusTellsRow.holds Tryd.pinned (OpenSpec.ofChange statusTellsSpec)

/-- ITS FALSE NEIGHBOUR: 'it returns false'. Refute it at one input. -/
def statusTellsWrong : ChangeSpec := { name := "statusTells", fn := fun _ => fun
  | [d1, d2] => { results := [.lit (.bool false)], args := [d1, d2] }
  | _ => none }
def StatusTellsWrongFalsely : Prop := statusTellsRow.holds Tryd.pinned (OpenSpec.ofChange statusTellsWrong)

/-- 'trystlaw09.EscapeLists': WHATEVER THE INPUT: true; the input reads as it did. -/
def escapeListsSpec : ChangeSpec := { name := "escapeLists", fn := fun _ => fun
  | [d] => { results := [.lit (.bool true)], args := [d] }
  | _ => none }
def escapeListsRow : OpenClaim := { program := "ytmnghjoamdlajaadoor", sum := "a3f0737551c2e51cbd29049240d52f96c713f692412fdedd67ef6619a55ec600", func := "tryst/trystlaw09.EscapeLists", spec := "escapeLists", inPlace := ["internal/abi.NoEscape", "internal/bytealg.IndexByteString", "internal/bytealg.MakeNoZero"], named := ["unicode/utf8.first", "unicode/utf8.acceptRanges"], apart := false, laid := [("unicode/utf8.acceptRanges", laid_unicode_utf8_acceptRanges), ("unicode/utf8.first", laid_unicode_utf8_first)] }
def EscapeListsSaid : Prop := escapeListsRow.holds Tryd.pinned (OpenSpec.ofChange escapeListsSpec)

/-- ITS FALSE NEIGHBOUR: 'it returns false'. Refute it at one input. -/
def escapeListsWrong : ChangeSpec := { name := "escapeLists", fn := fun _ => fun
  | [d] => { results := [.lit (.bool false)], args := [d] }
  | _ => none }
def EscapeListsWrongFalsely : Prop := escapeListsRow.holds Tryd.pinned (OpenSpec.ofChange escapeListsWrong)

/-- 'trystlaw08.FoldWrites': WHATEVER THE INPUT: true; the input reads as it did. -/
def foldWritesSpec : ChangeSpec := { name := "foldWrites", fn := fun _ => fun
  | [d] => { results := [.lit (.bool true)], args := [d] }
  | _ => none }
def foldWritesRow : OpenClaim := { program := "ytmnghjoamdlajaadoor", sum := "a3f0737551c2e51cbd29049240d52f96c713f692412fdedd67ef6619a55ec600", func := "tryst/trystlaw08.FoldWrites", spec := "foldWrites", inPlace := ["internal/bytealg.IndexByteString", "internal/bytealg.IndexString", "internal/abi.NoEscape"], named := ["unicode/utf8.first", "unicode/utf8.acceptRanges", "internal/bytealg.MaxLen"], apart := false, laid := [("unicode/utf8.acceptRanges", laid_unicode_utf8_acceptRanges), ("unicode/utf8.first", laid_unicode_utf8_first)] }
def FoldWritesSaid : Prop := foldWritesRow.holds Tryd.pinned (OpenSpec.ofChange foldWritesSpec)

/-- ITS FALSE NEIGHBOUR: 'it returns false'. Refute it at one input. -/
def foldWritesWrong : ChangeSpec := { name := "foldWrites", fn := fun _ => fun
  | [d] => { results := [.lit (.bool false)], args := [d] }
  | _ => none }
def FoldWritesWrongFalsely : Prop := foldWritesRow.holds Tryd.pinned (OpenSpec.ofChange foldWritesWrong)

/-- 'trystlaw09.EscapeReads': WHATEVER THE INPUT: true; the input reads as it did. -/
def escapeReadsSpec : ChangeSpec := { name := "escapeReads", fn := fun _ => fun
  | [d] => { results := [.lit (.bool true)], args := [d] }
  | _ => none }
def escapeReadsRow : OpenClaim := { program := "ytmnghjoamdlajaadoor", sum := "a3f0737551c2e51cbd29049240d52f96c713f692412fdedd67ef6619a55ec600", func := "tryst/trystlaw09.EscapeReads", spec := "escapeReads", inPlace := ["internal/abi.NoEscape", "internal/bytealg.IndexByteString", "internal/bytealg.IndexString"], named := ["unicode/utf8.first", "unicode/utf8.acceptRanges", "internal/bytealg.MaxLen"], apart := false, laid := [("unicode/utf8.acceptRanges", laid_unicode_utf8_acceptRanges), ("unicode/utf8.first", laid_unicode_utf8_first)] }
def EscapeReadsSaid : Prop := escapeReadsRow.holds Tryd.pinned (OpenSpec.ofChange escapeReadsSpec)

/-- ITS FALSE NEIGHBOUR: 'it returns false'. Refute it at one input. -/
def escapeReadsWrong : ChangeSpec := { name := "escapeReads", fn := fun _ => fun
  | [d] => { results := [.lit (.bool false)], args := [d] }
  | _ => none }
def EscapeReadsWrongFalsely : Prop := escapeReadsRow.holds Tryd.pinned (OpenSpec.ofChange escapeReadsWrong)

/- THE SECOND FORM. 'bulk': how many values and letters a reading holds, each counted each time it is reached (what is shared counts as often as it is met; a slice's spare places count too). A statement '..UptoSaid' is the law's where the arguments, and the package variables that the reading takes, are together of bulk at most 1048576: NARROWER than '..Said'. Prove '..Said' where nothing that the law and all that it calls make is longer than what came in: it says more and counts as full. Else prove '..UptoSaid'. A law counts once. -/
mutual
def uptoBulk {H : Type} : DataW H → Nat
  | .lit (.string bytes) => bytes.length + 1
  | .lit _ => 1
  | .nil => 1
  | .ptr d => uptoBulk d + 1
  | .slice elems spare => uptoBulkAll elems + uptoBulkAll spare + 1
  | .agg parts => uptoBulkAll parts + 1
  | .iface _ d => uptoBulk d + 1
  | .map entries => uptoBulkEntries entries + 1
  | .held _ => 1
def uptoBulkAll {H : Type} : List (DataW H) → Nat
  | [] => 0
  | d :: r => uptoBulk d + uptoBulkAll r
def uptoBulkEntries {H : Type} : List (Lit × DataW H) → Nat
  | [] => 0
  | x :: r => uptoBulkEntry x + uptoBulkEntries r
def uptoBulkEntry {H : Type} : Lit × DataW H → Nat
  | (.string bytes, d) => bytes.length + uptoBulk d + 1
  | (_, d) => uptoBulk d + 1
 end
def uptoSmall : (H : Type) → List (DataW H) → Bool := fun _ ds => decide (uptoBulkAll ds ≤ 1048576)
def OpenSpec.upto (s : _root_.Go.ChangeSpec) : _root_.Go.OpenSpec := { _root_.Go.OpenSpec.ofChange s with cond := some uptoSmall }

/-- 'trystlaw19.ObjectNames', WHERE WHAT IT READS IS OF BULK AT MOST 1048576: true; the input reads as it did. -/
def objectNamesUptoRow : OpenClaim := { program := "ytmnghjoamdlajaadoor", sum := "a3f0737551c2e51cbd29049240d52f96c713f692412fdedd67ef6619a55ec600", func := "tryst/trystlaw19.ObjectNames", spec := "objectNames", named := ["tryst/object.states", "tryst/object.roles"], apart := false, laid := [("tryst/object.roles", laid_tryst_object_roles), ("tryst/object.states", laid_tryst_object_states)], narrowed := true }
def ObjectNamesUptoSaid : Prop := objectNamesUptoRow.holds Tryd.pinned (OpenSpec.upto objectNamesSpec)

/-- 'trystlaw22.StatusTells', WHERE WHAT IT READS IS OF BULK AT MOST 1048576: true; the input reads as it did. -/
def statusTellsUptoRow : OpenClaim := { program := "ytmnghjoamdlajaadoor", sum := "a3f0737551c2e51cbd29049240d52f96c713f692412fdedd67ef6619a55ec600", func := "tryst/trystlaw22.StatusTells", spec := "statusTells", inPlace := ["internal/reflectlite.TypeOf", "internal/reflectlite.ValueOf", "(internal/reflectlite.Value).Type", "(internal/reflectlite.Value).IsNil", "(internal/reflectlite.Value).Elem", "(internal/reflectlite.Value).Set"], unfollowed := true, recurses := true, named := ["errors.errorType"], apart := false, laid := [("errors.errorType", laid_errors_errorType)], narrowed := true }
def StatusTellsUptoSaid : Prop := statusTellsUptoRow.holds Tryd.pinned (OpenSpec.upto statusTellsSpec)

/-- 'trystlaw09.EscapeLists', WHERE WHAT IT READS IS OF BULK AT MOST 1048576: true; the input reads as it did. -/
def escapeListsUptoRow : OpenClaim := { program := "ytmnghjoamdlajaadoor", sum := "a3f0737551c2e51cbd29049240d52f96c713f692412fdedd67ef6619a55ec600", func := "tryst/trystlaw09.EscapeLists", spec := "escapeLists", inPlace := ["internal/abi.NoEscape", "internal/bytealg.IndexByteString", "internal/bytealg.MakeNoZero"], named := ["unicode/utf8.first", "unicode/utf8.acceptRanges"], apart := false, laid := [("unicode/utf8.acceptRanges", laid_unicode_utf8_acceptRanges), ("unicode/utf8.first", laid_unicode_utf8_first)], narrowed := true }
def EscapeListsUptoSaid : Prop := escapeListsUptoRow.holds Tryd.pinned (OpenSpec.upto escapeListsSpec)

/-- 'trystlaw08.FoldWrites', WHERE WHAT IT READS IS OF BULK AT MOST 1048576: true; the input reads as it did. -/
def foldWritesUptoRow : OpenClaim := { program := "ytmnghjoamdlajaadoor", sum := "a3f0737551c2e51cbd29049240d52f96c713f692412fdedd67ef6619a55ec600", func := "tryst/trystlaw08.FoldWrites", spec := "foldWrites", inPlace := ["internal/bytealg.IndexByteString", "internal/bytealg.IndexString", "internal/abi.NoEscape"], named := ["unicode/utf8.first", "unicode/utf8.acceptRanges", "internal/bytealg.MaxLen"], apart := false, laid := [("unicode/utf8.acceptRanges", laid_unicode_utf8_acceptRanges), ("unicode/utf8.first", laid_unicode_utf8_first)], narrowed := true }
def FoldWritesUptoSaid : Prop := foldWritesUptoRow.holds Tryd.pinned (OpenSpec.upto foldWritesSpec)

/-- 'trystlaw09.EscapeReads', WHERE WHAT IT READS IS OF BULK AT MOST 1048576: true; the input reads as it did. -/
def escapeReadsUptoRow : OpenClaim := { program := "ytmnghjoamdlajaadoor", sum := "a3f0737551c2e51cbd29049240d52f96c713f692412fdedd67ef6619a55ec600", func := "tryst/trystlaw09.EscapeReads", spec := "escapeReads", inPlace := ["internal/abi.NoEscape", "internal/bytealg.IndexByteString", "internal/bytealg.IndexString"], named := ["unicode/utf8.first", "unicode/utf8.acceptRanges", "internal/bytealg.MaxLen"], apart := false, laid := [("unicode/utf8.acceptRanges", laid_unicode_utf8_acceptRanges), ("unicode/utf8.first", laid_unicode_utf8_first)], narrowed := true }
def EscapeReadsUptoSaid : Prop := escapeReadsUptoRow.holds Tryd.pinned (OpenSpec.upto escapeReadsSpec)

end Rows
end Go.Proofs.YtmnghjoamdlajaaDoor
