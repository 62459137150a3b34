/-
  DERIVED. GIVEN WITH THE SEED: THE CARDS: each row of YtdojmdbaiddkgaaGreatDoorRows.lean that lists a variable, with what it lists TIED to the program's text (the seventh form; the later family's looks); each row that meets fmt, with fmt's text TOLD by the authors' own Lean function (tested against real Go, not proved from fmt's source: count such statements apart). THE CARD IS WHAT COUNTS. Prove the row's statement (the work); the ties are given (YtdojmdbaiddkgaaGreatDoorTie.lean); close each card by the builder's one call (the guide's Derived/Test/ToyasCard.lean, 'card_holds'). Laid BY PROGRAM, IN A SANDBOX (cutbox-door.mjs). By AI agents, Wed Nov 11 2026. No macro, syntax, notation, axiom, sorry.
-/
import Derived.Test.YtdojmdbaiddkgaaGreatDoorRows
import GoSem.ClaimSeven
namespace Go.Proofs.YtdojmdbaiddkgaaGreatDoor
namespace Rows

/-- THE TIED CARD OF 'trystlaw11.TreePrints'. -/
def treePrintsCard : Claim7 := { stood := { row := treePrintsRow, standIns := [], harness := (true, "ab4e8100ec4a7c4ff39faedd00b8e4b9bc4364702e59f48f578e0033a1a8f312"), looks := true }, kinds := [], alts := [], laidByText := true, laidKinds := [.data, .pinned], laidTests := true, laidLooks := .later }
def TreePrintsCardSaid : Prop := Claim7.holds Tryz.pinned (.plain (OpenSpec.ofChange treePrintsSpec)) treePrintsCard

/-- THE TIED CARD OF 'trystlaw11.TreeBack'. -/
def treeBackCard : Claim7 := { stood := { row := treeBackRow, standIns := [], harness := (true, "ab4e8100ec4a7c4ff39faedd00b8e4b9bc4364702e59f48f578e0033a1a8f312"), looks := true }, kinds := [], alts := [], laidByText := true, laidKinds := [.data, .pinned], laidTests := true, laidLooks := .later }
def TreeBackCardSaid : Prop := Claim7.holds Tryz.pinned (.plain (OpenSpec.ofChange treeBackSpec)) treeBackCard

/-- THE TIED CARD OF 'trystlaw11.TreeAgain'. -/
def treeAgainCard : Claim7 := { stood := { row := treeAgainRow, standIns := [], harness := (true, "ab4e8100ec4a7c4ff39faedd00b8e4b9bc4364702e59f48f578e0033a1a8f312"), looks := true }, kinds := [], alts := [], laidByText := true, laidKinds := [.data, .pinned], laidTests := true, laidLooks := .later }
def TreeAgainCardSaid : Prop := Claim7.holds Tryz.pinned (.plain (OpenSpec.ofChange treeAgainSpec)) treeAgainCard

/-- THE SECOND FORM's CARD OF 'trystlaw11.TreePrints'. -/
def treePrintsUptoCard : Claim7 := { stood := { row := treePrintsUptoRow, standIns := [], harness := (true, "ab4e8100ec4a7c4ff39faedd00b8e4b9bc4364702e59f48f578e0033a1a8f312"), looks := true }, kinds := [], alts := [], laidByText := true, laidKinds := [.data, .pinned], laidTests := true, laidLooks := .later }
def TreePrintsUptoCardSaid : Prop := Claim7.holds Tryz.pinned (.plain (OpenSpec.upto treePrintsSpec)) treePrintsUptoCard

/-- THE SECOND FORM's CARD OF 'trystlaw11.TreeBack'. -/
def treeBackUptoCard : Claim7 := { stood := { row := treeBackUptoRow, standIns := [], harness := (true, "ab4e8100ec4a7c4ff39faedd00b8e4b9bc4364702e59f48f578e0033a1a8f312"), looks := true }, kinds := [], alts := [], laidByText := true, laidKinds := [.data, .pinned], laidTests := true, laidLooks := .later }
def TreeBackUptoCardSaid : Prop := Claim7.holds Tryz.pinned (.plain (OpenSpec.upto treeBackSpec)) treeBackUptoCard

/-- THE SECOND FORM's CARD OF 'trystlaw11.TreeAgain'. -/
def treeAgainUptoCard : Claim7 := { stood := { row := treeAgainUptoRow, standIns := [], harness := (true, "ab4e8100ec4a7c4ff39faedd00b8e4b9bc4364702e59f48f578e0033a1a8f312"), looks := true }, kinds := [], alts := [], laidByText := true, laidKinds := [.data, .pinned], laidTests := true, laidLooks := .later }
def TreeAgainUptoCardSaid : Prop := Claim7.holds Tryz.pinned (.plain (OpenSpec.upto treeAgainSpec)) treeAgainUptoCard
end Rows
end Go.Proofs.YtdojmdbaiddkgaaGreatDoor
