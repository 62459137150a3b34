/-
  DERIVED. GIVEN WITH THE SEED: THE CARDS: each row of YtnapdaddlbnpiaaDoorRows.lean that lists a variable, with what it lists TIED to the program's text (the seventh form; the later family's looks); each row that meets fmt, with fmt's text TOLD by the authors' own Lean function (tested against real Go, not proved from fmt's source: count such statements apart). THE CARD IS WHAT COUNTS. Prove the row's statement (the work); the ties are given (YtnapdaddlbnpiaaDoorTie.lean); close each card by the builder's one call (the guide's Derived/Test/ToyasCard.lean, 'card_holds'). Laid BY PROGRAM, IN A SANDBOX (cutbox-door.mjs). By AI agents, Wed Nov 11 2026. No macro, syntax, notation, axiom, sorry.
-/
import Derived.Test.YtnapdaddlbnpiaaDoorRows
import GoSem.ClaimSeven
namespace Go.Proofs.YtnapdaddlbnpiaaDoor
namespace Rows

/-- THE TIED CARD OF 'trystlaw21.MessageNames'. -/
def messageNamesCard : Claim7 := { stood := { row := messageNamesRow, standIns := [], harness := (true, "6334eaa4e9a5c72932a8ff03b1aff7dd52aef92622e4d0814c6adc7eb957c692"), looks := false }, kinds := [], alts := [], laidByText := true, laidKinds := [.data, .widerDeep, .pinned], laidTests := true, laidLooks := .later }
def MessageNamesCardSaid : Prop := Claim7.holds Tryd.pinned (.plain (OpenSpec.ofChange messageNamesSpec)) messageNamesCard

/-- THE SECOND FORM's CARD OF 'trystlaw21.MessageNames'. -/
def messageNamesUptoCard : Claim7 := { stood := { row := messageNamesUptoRow, standIns := [], harness := (true, "6334eaa4e9a5c72932a8ff03b1aff7dd52aef92622e4d0814c6adc7eb957c692"), looks := false }, kinds := [], alts := [], laidByText := true, laidKinds := [.data, .widerDeep, .pinned], laidTests := true, laidLooks := .later }
def MessageNamesUptoCardSaid : Prop := Claim7.holds Tryd.pinned (.plain (OpenSpec.upto messageNamesSpec)) messageNamesUptoCard
end Rows
end Go.Proofs.YtnapdaddlbnpiaaDoor
