/-
  DERIVED. GIVEN WITH THE SEED: THE CARDS: each row of YtdlfnhobnijdjaaDoorRows.lean that lists a variable, with what it lists TIED to the program's text (the seventh form; the later family's looks); each row that meets fmt, with fmt's text TOLD by the authors' own Lean function (tested against real Go, not proved from fmt's source: count such statements apart). THE CARD IS WHAT COUNTS. Prove the row's statement (the work); the ties are given (YtdlfnhobnijdjaaDoorTie.lean); close each card by the builder's one call (the guide's Derived/Test/ToyasCard.lean, 'card_holds'). Laid BY PROGRAM, IN A SANDBOX (cutbox-door.mjs). By AI agents, Wed Nov 11 2026. No macro, syntax, notation, axiom, sorry.
-/
import Derived.Test.YtdlfnhobnijdjaaDoorRows
import GoSem.ClaimSeven
namespace Go.Proofs.YtdlfnhobnijdjaaDoor
namespace Rows

/-- THE TIED CARD OF 'trystlaw22.StatusTells'. -/
def statusTellsCard : Claim7 := { stood := { row := statusTellsRow, standIns := [], harness := (true, "0d1fd1a3861799c11ed45806693ebcc1f8694678dce9a30f87031616662d50e2"), looks := true }, kinds := [], alts := [], laidByText := true, laidKinds := [.handle], laidTests := true, laidLooks := .later }
def StatusTellsCardSaid : Prop := Claim7.holds Tryd.pinned (.plain (OpenSpec.ofChange statusTellsSpec)) statusTellsCard

/-- THE SECOND FORM's CARD OF 'trystlaw22.StatusTells'. -/
def statusTellsUptoCard : Claim7 := { stood := { row := statusTellsUptoRow, standIns := [], harness := (true, "0d1fd1a3861799c11ed45806693ebcc1f8694678dce9a30f87031616662d50e2"), looks := true }, kinds := [], alts := [], laidByText := true, laidKinds := [.handle], laidTests := true, laidLooks := .later }
def StatusTellsUptoCardSaid : Prop := Claim7.holds Tryd.pinned (.plain (OpenSpec.upto statusTellsSpec)) statusTellsUptoCard
end Rows
end Go.Proofs.YtdlfnhobnijdjaaDoor
