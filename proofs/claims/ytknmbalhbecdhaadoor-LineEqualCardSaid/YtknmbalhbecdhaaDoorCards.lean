/-
  DERIVED. GIVEN WITH THE SEED: THE CARDS: each row of YtknmbalhbecdhaaDoorRows.lean that lists a variable, with what it lists TIED to the program's text (the seventh form; the later family's looks); each row that meets fmt, with fmt's text TOLD by the authors' own Lean function (tested against real Go, not proved from fmt's source: count such statements apart). THE CARD IS WHAT COUNTS. Prove the row's statement (the work); the ties are given (YtknmbalhbecdhaaDoorTie.lean); close each card by the builder's one call (the guide's Derived/Test/ToyasCard.lean, 'card_holds'). Laid BY PROGRAM, IN A SANDBOX (cutbox-door.mjs). By AI agents, Wed Nov 11 2026. No macro, syntax, notation, axiom, sorry.
-/
import Derived.Test.YtknmbalhbecdhaaDoorRows
import GoSem.ClaimSeven
namespace Go.Proofs.YtknmbalhbecdhaaDoor
namespace Rows

/-- THE TIED CARD OF 'trystlaw09.EscapeLists'. -/
def escapeListsCard : Claim7 := { stood := { row := escapeListsRow, standIns := [], harness := (true, "91f4114588b308aaafec784ea655163a9c8ce9790987d23e3dc119926420c699"), looks := true }, kinds := [], alts := [], laidByText := true, laidKinds := [.data, .pinned], laidTests := true, laidLooks := .later }
def EscapeListsCardSaid : Prop := Claim7.holds Tryd.pinned (.plain (OpenSpec.ofChange escapeListsSpec)) escapeListsCard

/-- THE TIED CARD OF 'trystlaw09.EscapeReads'. -/
def escapeReadsCard : Claim7 := { stood := { row := escapeReadsRow, standIns := [], harness := (true, "91f4114588b308aaafec784ea655163a9c8ce9790987d23e3dc119926420c699"), looks := true }, kinds := [], alts := [], laidByText := true, laidKinds := [.data, .pinned], laidTests := true, laidLooks := .later }
def EscapeReadsCardSaid : Prop := Claim7.holds Tryd.pinned (.plain (OpenSpec.ofChange escapeReadsSpec)) escapeReadsCard

/-- THE TIED CARD OF 'trystlaw09.EscapeWrites'. -/
def escapeWritesCard : Claim7 := { stood := { row := escapeWritesRow, standIns := [], harness := (true, "91f4114588b308aaafec784ea655163a9c8ce9790987d23e3dc119926420c699"), looks := true }, kinds := [], alts := [], laidByText := true, laidKinds := [.data, .pinned], laidTests := true, laidLooks := .later }
def EscapeWritesCardSaid : Prop := Claim7.holds Tryd.pinned (.plain (OpenSpec.ofChange escapeWritesSpec)) escapeWritesCard

/-- THE TIED CARD OF 'trystlaw09.EscapeBack'. -/
def escapeBackCard : Claim7 := { stood := { row := escapeBackRow, standIns := [], harness := (true, "91f4114588b308aaafec784ea655163a9c8ce9790987d23e3dc119926420c699"), looks := true }, kinds := [], alts := [], laidByText := true, laidKinds := [.data, .pinned], laidTests := true, laidLooks := .later }
def EscapeBackCardSaid : Prop := Claim7.holds Tryd.pinned (.plain (OpenSpec.ofChange escapeBackSpec)) escapeBackCard

/-- THE TIED CARD OF 'trystlaw08.FoldWrites'. -/
def foldWritesCard : Claim7 := { stood := { row := foldWritesRow, standIns := [], harness := (true, "91f4114588b308aaafec784ea655163a9c8ce9790987d23e3dc119926420c699"), looks := true }, kinds := [], alts := [], laidByText := true, laidKinds := [.data, .pinned], laidTests := true, laidLooks := .later }
def FoldWritesCardSaid : Prop := Claim7.holds Tryd.pinned (.plain (OpenSpec.ofChange foldWritesSpec)) foldWritesCard

/-- THE TIED CARD OF 'trystlaw08.FoldReads'. -/
def foldReadsCard : Claim7 := { stood := { row := foldReadsRow, standIns := [], harness := (true, "91f4114588b308aaafec784ea655163a9c8ce9790987d23e3dc119926420c699"), looks := true }, kinds := [], alts := [], laidByText := true, laidKinds := [.data, .pinned], laidTests := true, laidLooks := .later }
def FoldReadsCardSaid : Prop := Claim7.holds Tryd.pinned (.plain (OpenSpec.ofChange foldReadsSpec)) foldReadsCard

/-- THE TIED CARD OF 'trystlaw08.FoldBack'. -/
def foldBackCard : Claim7 := { stood := { row := foldBackRow, standIns := [], harness := (true, "91f4114588b308aaafec784ea655163a9c8ce9790987d23e3dc119926420c699"), looks := true }, kinds := [], alts := [], laidByText := true, laidKinds := [.data, .pinned], laidTests := true, laidLooks := .later }
def FoldBackCardSaid : Prop := Claim7.holds Tryd.pinned (.plain (OpenSpec.ofChange foldBackSpec)) foldBackCard

/-- THE TIED CARD OF 'trystlaw08.FoldOther'. -/
def foldOtherCard : Claim7 := { stood := { row := foldOtherRow, standIns := [], harness := (true, "91f4114588b308aaafec784ea655163a9c8ce9790987d23e3dc119926420c699"), looks := true }, kinds := [], alts := [], laidByText := true, laidKinds := [.data, .pinned], laidTests := true, laidLooks := .later }
def FoldOtherCardSaid : Prop := Claim7.holds Tryd.pinned (.plain (OpenSpec.ofChange foldOtherSpec)) foldOtherCard

/-- THE TIED CARD OF 'trystlaw10.LineEqual'. -/
def lineEqualCard : Claim7 := { stood := { row := lineEqualRow, standIns := [], harness := (true, "91f4114588b308aaafec784ea655163a9c8ce9790987d23e3dc119926420c699"), looks := true }, kinds := [], alts := [], laidByText := true, laidKinds := [.data, .pinned], laidTests := true, laidLooks := .later }
def LineEqualCardSaid : Prop := Claim7.holds Tryd.pinned (.plain (OpenSpec.ofChange lineEqualSpec)) lineEqualCard

/-- THE SECOND FORM's CARD OF 'trystlaw09.EscapeLists'. -/
def escapeListsUptoCard : Claim7 := { stood := { row := escapeListsUptoRow, standIns := [], harness := (true, "91f4114588b308aaafec784ea655163a9c8ce9790987d23e3dc119926420c699"), looks := true }, kinds := [], alts := [], laidByText := true, laidKinds := [.data, .pinned], laidTests := true, laidLooks := .later }
def EscapeListsUptoCardSaid : Prop := Claim7.holds Tryd.pinned (.plain (OpenSpec.upto escapeListsSpec)) escapeListsUptoCard

/-- THE SECOND FORM's CARD OF 'trystlaw09.EscapeReads'. -/
def escapeReadsUptoCard : Claim7 := { stood := { row := escapeReadsUptoRow, standIns := [], harness := (true, "91f4114588b308aaafec784ea655163a9c8ce9790987d23e3dc119926420c699"), looks := true }, kinds := [], alts := [], laidByText := true, laidKinds := [.data, .pinned], laidTests := true, laidLooks := .later }
def EscapeReadsUptoCardSaid : Prop := Claim7.holds Tryd.pinned (.plain (OpenSpec.upto escapeReadsSpec)) escapeReadsUptoCard

/-- THE SECOND FORM's CARD OF 'trystlaw09.EscapeWrites'. -/
def escapeWritesUptoCard : Claim7 := { stood := { row := escapeWritesUptoRow, standIns := [], harness := (true, "91f4114588b308aaafec784ea655163a9c8ce9790987d23e3dc119926420c699"), looks := true }, kinds := [], alts := [], laidByText := true, laidKinds := [.data, .pinned], laidTests := true, laidLooks := .later }
def EscapeWritesUptoCardSaid : Prop := Claim7.holds Tryd.pinned (.plain (OpenSpec.upto escapeWritesSpec)) escapeWritesUptoCard

/-- THE SECOND FORM's CARD OF 'trystlaw09.EscapeBack'. -/
def escapeBackUptoCard : Claim7 := { stood := { row := escapeBackUptoRow, standIns := [], harness := (true, "91f4114588b308aaafec784ea655163a9c8ce9790987d23e3dc119926420c699"), looks := true }, kinds := [], alts := [], laidByText := true, laidKinds := [.data, .pinned], laidTests := true, laidLooks := .later }
def EscapeBackUptoCardSaid : Prop := Claim7.holds Tryd.pinned (.plain (OpenSpec.upto escapeBackSpec)) escapeBackUptoCard

/-- THE SECOND FORM's CARD OF 'trystlaw08.FoldWrites'. -/
def foldWritesUptoCard : Claim7 := { stood := { row := foldWritesUptoRow, standIns := [], harness := (true, "91f4114588b308aaafec784ea655163a9c8ce9790987d23e3dc119926420c699"), looks := true }, kinds := [], alts := [], laidByText := true, laidKinds := [.data, .pinned], laidTests := true, laidLooks := .later }
def FoldWritesUptoCardSaid : Prop := Claim7.holds Tryd.pinned (.plain (OpenSpec.upto foldWritesSpec)) foldWritesUptoCard

/-- THE SECOND FORM's CARD OF 'trystlaw08.FoldReads'. -/
def foldReadsUptoCard : Claim7 := { stood := { row := foldReadsUptoRow, standIns := [], harness := (true, "91f4114588b308aaafec784ea655163a9c8ce9790987d23e3dc119926420c699"), looks := true }, kinds := [], alts := [], laidByText := true, laidKinds := [.data, .pinned], laidTests := true, laidLooks := .later }
def FoldReadsUptoCardSaid : Prop := Claim7.holds Tryd.pinned (.plain (OpenSpec.upto foldReadsSpec)) foldReadsUptoCard

/-- THE SECOND FORM's CARD OF 'trystlaw08.FoldBack'. -/
def foldBackUptoCard : Claim7 := { stood := { row := foldBackUptoRow, standIns := [], harness := (true, "91f4114588b308aaafec784ea655163a9c8ce9790987d23e3dc119926420c699"), looks := true }, kinds := [], alts := [], laidByText := true, laidKinds := [.data, .pinned], laidTests := true, laidLooks := .later }
def FoldBackUptoCardSaid : Prop := Claim7.holds Tryd.pinned (.plain (OpenSpec.upto foldBackSpec)) foldBackUptoCard

/-- THE SECOND FORM's CARD OF 'trystlaw08.FoldOther'. -/
def foldOtherUptoCard : Claim7 := { stood := { row := foldOtherUptoRow, standIns := [], harness := (true, "91f4114588b308aaafec784ea655163a9c8ce9790987d23e3dc119926420c699"), looks := true }, kinds := [], alts := [], laidByText := true, laidKinds := [.data, .pinned], laidTests := true, laidLooks := .later }
def FoldOtherUptoCardSaid : Prop := Claim7.holds Tryd.pinned (.plain (OpenSpec.upto foldOtherSpec)) foldOtherUptoCard

/-- THE SECOND FORM's CARD OF 'trystlaw10.LineEqual'. -/
def lineEqualUptoCard : Claim7 := { stood := { row := lineEqualUptoRow, standIns := [], harness := (true, "91f4114588b308aaafec784ea655163a9c8ce9790987d23e3dc119926420c699"), looks := true }, kinds := [], alts := [], laidByText := true, laidKinds := [.data, .pinned], laidTests := true, laidLooks := .later }
def LineEqualUptoCardSaid : Prop := Claim7.holds Tryd.pinned (.plain (OpenSpec.upto lineEqualSpec)) lineEqualUptoCard
end Rows
end Go.Proofs.YtknmbalhbecdhaaDoor
