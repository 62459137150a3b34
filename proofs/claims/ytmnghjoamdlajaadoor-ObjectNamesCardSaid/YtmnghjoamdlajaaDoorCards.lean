/-
  DERIVED. GIVEN WITH THE SEED: THE CARDS: each row of YtmnghjoamdlajaaDoorRows.lean that lists a variable, with what it lists TIED to the program's text (the seventh form; the later family's looks); each row that meets fmt, with fmt's text TOLD by the authors' own Lean function (tested against real Go, not proved from fmt's source: count such statements apart). THE CARD IS WHAT COUNTS. Prove the row's statement (the work); the ties are given (YtmnghjoamdlajaaDoorTie.lean); close each card by the builder's one call (the guide's Derived/Test/ToyasCard.lean, 'card_holds'). Laid BY PROGRAM, IN A SANDBOX (cutbox-door.mjs). By AI agents, Wed Nov 11 2026. No macro, syntax, notation, axiom, sorry.
-/
import Derived.Test.YtmnghjoamdlajaaDoorRows
import GoSem.ClaimSeven
namespace Go.Proofs.YtmnghjoamdlajaaDoor
namespace Rows

/-- THE TIED CARD OF 'trystlaw19.ObjectNames'. -/
def objectNamesCard : Claim7 := { stood := { row := objectNamesRow, standIns := [], harness := (true, "9eb678347d872d347878996610fbe8ea4b988df7a1b5cc9479e45a74127951bc"), looks := true }, kinds := [], alts := [], laidByText := true, laidKinds := [.widerDeep, .widerDeep], laidTests := true, laidLooks := .later }
def ObjectNamesCardSaid : Prop := Claim7.holds Tryd.pinned (.plain (OpenSpec.ofChange objectNamesSpec)) objectNamesCard

/-- THE TIED CARD OF 'trystlaw22.StatusTells'. -/
def statusTellsCard : Claim7 := { stood := { row := statusTellsRow, standIns := [], harness := (true, "9eb678347d872d347878996610fbe8ea4b988df7a1b5cc9479e45a74127951bc"), looks := true }, kinds := [], alts := [], laidByText := true, laidKinds := [.handle], laidTests := true, laidLooks := .later }
def StatusTellsCardSaid : Prop := Claim7.holds Tryd.pinned (.plain (OpenSpec.ofChange statusTellsSpec)) statusTellsCard

/-- THE TIED CARD OF 'trystlaw09.EscapeLists'. -/
def escapeListsCard : Claim7 := { stood := { row := escapeListsRow, standIns := [], harness := (true, "9eb678347d872d347878996610fbe8ea4b988df7a1b5cc9479e45a74127951bc"), looks := true }, kinds := [], alts := [], laidByText := true, laidKinds := [.data, .pinned], laidTests := true, laidLooks := .later }
def EscapeListsCardSaid : Prop := Claim7.holds Tryd.pinned (.plain (OpenSpec.ofChange escapeListsSpec)) escapeListsCard

/-- THE TIED CARD OF 'trystlaw08.FoldWrites'. -/
def foldWritesCard : Claim7 := { stood := { row := foldWritesRow, standIns := [], harness := (true, "9eb678347d872d347878996610fbe8ea4b988df7a1b5cc9479e45a74127951bc"), looks := true }, kinds := [], alts := [], laidByText := true, laidKinds := [.data, .pinned], laidTests := true, laidLooks := .later }
def FoldWritesCardSaid : Prop := Claim7.holds Tryd.pinned (.plain (OpenSpec.ofChange foldWritesSpec)) foldWritesCard

/-- THE TIED CARD OF 'trystlaw09.EscapeReads'. -/
def escapeReadsCard : Claim7 := { stood := { row := escapeReadsRow, standIns := [], harness := (true, "9eb678347d872d347878996610fbe8ea4b988df7a1b5cc9479e45a74127951bc"), looks := true }, kinds := [], alts := [], laidByText := true, laidKinds := [.data, .pinned], laidTests := true, laidLooks := .later }
def EscapeReadsCardSaid : Prop := Claim7.holds Tryd.pinned (.plain (OpenSpec.ofChange escapeReadsSpec)) escapeReadsCard

/-- THE SECOND FORM's CARD OF 'trystlaw19.ObjectNames'. -/
def objectNamesUptoCard : Claim7 := { stood := { row := objectNamesUptoRow, standIns := [], harness := (true, "9eb678347d872d347878996610fbe8ea4b988df7a1b5cc9479e45a74127951bc"), looks := true }, kinds := [], alts := [], laidByText := true, laidKinds := [.widerDeep, .widerDeep], laidTests := true, laidLooks := .later }
def ObjectNamesUptoCardSaid : Prop := Claim7.holds Tryd.pinned (.plain (OpenSpec.upto objectNamesSpec)) objectNamesUptoCard

/-- THE SECOND FORM's CARD OF 'trystlaw22.StatusTells'. -/
def statusTellsUptoCard : Claim7 := { stood := { row := statusTellsUptoRow, standIns := [], harness := (true, "9eb678347d872d347878996610fbe8ea4b988df7a1b5cc9479e45a74127951bc"), looks := true }, kinds := [], alts := [], laidByText := true, laidKinds := [.handle], laidTests := true, laidLooks := .later }
def StatusTellsUptoCardSaid : Prop := Claim7.holds Tryd.pinned (.plain (OpenSpec.upto statusTellsSpec)) statusTellsUptoCard

/-- THE SECOND FORM's CARD OF 'trystlaw09.EscapeLists'. -/
def escapeListsUptoCard : Claim7 := { stood := { row := escapeListsUptoRow, standIns := [], harness := (true, "9eb678347d872d347878996610fbe8ea4b988df7a1b5cc9479e45a74127951bc"), looks := true }, kinds := [], alts := [], laidByText := true, laidKinds := [.data, .pinned], laidTests := true, laidLooks := .later }
def EscapeListsUptoCardSaid : Prop := Claim7.holds Tryd.pinned (.plain (OpenSpec.upto escapeListsSpec)) escapeListsUptoCard

/-- THE SECOND FORM's CARD OF 'trystlaw08.FoldWrites'. -/
def foldWritesUptoCard : Claim7 := { stood := { row := foldWritesUptoRow, standIns := [], harness := (true, "9eb678347d872d347878996610fbe8ea4b988df7a1b5cc9479e45a74127951bc"), looks := true }, kinds := [], alts := [], laidByText := true, laidKinds := [.data, .pinned], laidTests := true, laidLooks := .later }
def FoldWritesUptoCardSaid : Prop := Claim7.holds Tryd.pinned (.plain (OpenSpec.upto foldWritesSpec)) foldWritesUptoCard

/-- THE SECOND FORM's CARD OF 'trystlaw09.EscapeReads'. -/
def escapeReadsUptoCard : Claim7 := { stood := { row := escapeReadsUptoRow, standIns := [], harness := (true, "9eb678347d872d347878996610fbe8ea4b988df7a1b5cc9479e45a74127951bc"), looks := true }, kinds := [], alts := [], laidByText := true, laidKinds := [.data, .pinned], laidTests := true, laidLooks := .later }
def EscapeReadsUptoCardSaid : Prop := Claim7.holds Tryd.pinned (.plain (OpenSpec.upto escapeReadsSpec)) escapeReadsUptoCard
end Rows
end Go.Proofs.YtmnghjoamdlajaaDoor
