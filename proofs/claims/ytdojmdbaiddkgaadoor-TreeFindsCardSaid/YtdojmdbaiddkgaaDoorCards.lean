/-
  DERIVED. GIVEN WITH THE SEED: THE CARDS: each row of YtdojmdbaiddkgaaDoorRows.lean that lists a variable, with what it lists TIED to the program's text (the seventh form; the later family's looks); each row that meets fmt, with fmt's text TOLD by the authors' own Lean function (tested against real Go, not proved from fmt's source: count such statements apart). THE CARD IS WHAT COUNTS. Prove the row's statement (the work); the ties are given (YtdojmdbaiddkgaaDoorTie.lean); close each card by the builder's one call (the guide's Derived/Test/ToyasCard.lean, 'card_holds'). Laid BY PROGRAM, IN A SANDBOX (cutbox-door.mjs). By AI agents, Wed Nov 11 2026. No macro, syntax, notation, axiom, sorry.
-/
import Derived.Test.YtdojmdbaiddkgaaDoorRows
import GoSem.ClaimSeven
namespace Go.Proofs.YtdojmdbaiddkgaaDoor
namespace Rows

/-- THE TIED CARD OF 'trystlaw11.TreeFinds'. -/
def treeFindsCard : Claim7 := { stood := { row := treeFindsRow, standIns := [], harness := (true, "bf349bdd8d842762cb0204bfd5fd0f755bafefe04f624ee9c636006e972311a2"), looks := false }, kinds := [], alts := [], laidByText := true, laidKinds := [.data, .pinned], laidTests := true, laidLooks := .later }
def TreeFindsCardSaid : Prop := Claim7.holds Tryd.pinned (.plain (OpenSpec.ofChange treeFindsSpec)) treeFindsCard

/-- THE SECOND FORM's CARD OF 'trystlaw11.TreeFinds'. -/
def treeFindsUptoCard : Claim7 := { stood := { row := treeFindsUptoRow, standIns := [], harness := (true, "bf349bdd8d842762cb0204bfd5fd0f755bafefe04f624ee9c636006e972311a2"), looks := false }, kinds := [], alts := [], laidByText := true, laidKinds := [.data, .pinned], laidTests := true, laidLooks := .later }
def TreeFindsUptoCardSaid : Prop := Claim7.holds Tryd.pinned (.plain (OpenSpec.upto treeFindsSpec)) treeFindsUptoCard
end Rows
end Go.Proofs.YtdojmdbaiddkgaaDoor
