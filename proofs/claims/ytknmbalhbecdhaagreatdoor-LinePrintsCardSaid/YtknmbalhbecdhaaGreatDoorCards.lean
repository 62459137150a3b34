/-
  DERIVED. GIVEN WITH THE SEED: THE CARDS: each row of YtknmbalhbecdhaaGreatDoorRows.lean that lists a variable, with what it lists TIED to the program's text (the seventh form; the later family's looks); each row that meets fmt, with fmt's text TOLD by the authors' own Lean function (tested against real Go, not proved from fmt's source: count such statements apart). THE CARD IS WHAT COUNTS. Prove the row's statement (the work); the ties are given (YtknmbalhbecdhaaGreatDoorTie.lean); close each card by the builder's one call (the guide's Derived/Test/ToyasCard.lean, 'card_holds'). Laid BY PROGRAM, IN A SANDBOX (cutbox-door.mjs). By AI agents, Wed Nov 11 2026. No macro, syntax, notation, axiom, sorry.
-/
import Derived.Test.YtknmbalhbecdhaaGreatDoorRows
import GoSem.ClaimSeven
namespace Go.Proofs.YtknmbalhbecdhaaGreatDoor
namespace Rows

/-- THE TIED CARD OF 'trystlaw10.LinePrints'. -/
def linePrintsCard : Claim7 := { stood := { row := linePrintsRow, standIns := [], harness := (true, "d1132c58fbd5b590dd67f194896df41ed7bbf385f7a0b433af7bac3fcc015da8"), looks := true }, kinds := [], alts := [], laidByText := true, laidKinds := [.data, .pinned], laidTests := true, laidLooks := .later }
def LinePrintsCardSaid : Prop := Claim7.holds Tryz.pinned (.plain (OpenSpec.ofChange linePrintsSpec)) linePrintsCard

/-- THE TIED CARD OF 'trystlaw10.LineBack'. -/
def lineBackCard : Claim7 := { stood := { row := lineBackRow, standIns := [], harness := (true, "d1132c58fbd5b590dd67f194896df41ed7bbf385f7a0b433af7bac3fcc015da8"), looks := true }, kinds := [], alts := [], laidByText := true, laidKinds := [.data, .pinned], laidTests := true, laidLooks := .later }
def LineBackCardSaid : Prop := Claim7.holds Tryz.pinned (.plain (OpenSpec.ofChange lineBackSpec)) lineBackCard

/-- THE TIED CARD OF 'trystlaw10.LineAgain'. -/
def lineAgainCard : Claim7 := { stood := { row := lineAgainRow, standIns := [], harness := (true, "d1132c58fbd5b590dd67f194896df41ed7bbf385f7a0b433af7bac3fcc015da8"), looks := true }, kinds := [], alts := [], laidByText := true, laidKinds := [.data, .pinned], laidTests := true, laidLooks := .later }
def LineAgainCardSaid : Prop := Claim7.holds Tryz.pinned (.plain (OpenSpec.ofChange lineAgainSpec)) lineAgainCard

/-- THE SECOND FORM's CARD OF 'trystlaw10.LinePrints'. -/
def linePrintsUptoCard : Claim7 := { stood := { row := linePrintsUptoRow, standIns := [], harness := (true, "d1132c58fbd5b590dd67f194896df41ed7bbf385f7a0b433af7bac3fcc015da8"), looks := true }, kinds := [], alts := [], laidByText := true, laidKinds := [.data, .pinned], laidTests := true, laidLooks := .later }
def LinePrintsUptoCardSaid : Prop := Claim7.holds Tryz.pinned (.plain (OpenSpec.upto linePrintsSpec)) linePrintsUptoCard

/-- THE SECOND FORM's CARD OF 'trystlaw10.LineBack'. -/
def lineBackUptoCard : Claim7 := { stood := { row := lineBackUptoRow, standIns := [], harness := (true, "d1132c58fbd5b590dd67f194896df41ed7bbf385f7a0b433af7bac3fcc015da8"), looks := true }, kinds := [], alts := [], laidByText := true, laidKinds := [.data, .pinned], laidTests := true, laidLooks := .later }
def LineBackUptoCardSaid : Prop := Claim7.holds Tryz.pinned (.plain (OpenSpec.upto lineBackSpec)) lineBackUptoCard

/-- THE SECOND FORM's CARD OF 'trystlaw10.LineAgain'. -/
def lineAgainUptoCard : Claim7 := { stood := { row := lineAgainUptoRow, standIns := [], harness := (true, "d1132c58fbd5b590dd67f194896df41ed7bbf385f7a0b433af7bac3fcc015da8"), looks := true }, kinds := [], alts := [], laidByText := true, laidKinds := [.data, .pinned], laidTests := true, laidLooks := .later }
def LineAgainUptoCardSaid : Prop := Claim7.holds Tryz.pinned (.plain (OpenSpec.upto lineAgainSpec)) lineAgainUptoCard
end Rows
end Go.Proofs.YtknmbalhbecdhaaGreatDoor
