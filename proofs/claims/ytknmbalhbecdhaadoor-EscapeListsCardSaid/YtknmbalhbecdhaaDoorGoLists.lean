/- EscapeLists: the walk and its plain law joined. -/
import Derived.Test.YtknmbalhbecdhaaDoorTabsU8
import Derived.Test.YtknmbalhbecdhaaDoorStrsArg
import Derived.Test.YtknmbalhbecdhaaDoorPLists
set_option linter.unusedVariables false
namespace Go.Proofs.YtknmbalhbecdhaaDoor.Tabs
open Go Go.RowKit Go.Lib
theorem tabsLists {W : World} (h : laidMetH Tryd.prog Rows.escapeListsRow.laid W) : Print.GG W := by
  rw [MakeChecks.laidMetH_plain _ _ _ (by kernel_rfl)] at h
  exact gg_of_laid h
theorem walkLists (a : Option Addr) (len cap : Nat) (zs : List ByteArray) (w : World) (hG : Print.GG w) (w0 : IsStrs w a len cap zs) :
    Calls Tryd.prog 3 #[.slice a len cap] w fun e w' => e = .returned (.bool true) ∧ Below w.heap.size w w' := by
  obtain ⟨rfl, hc, hr⟩ := w0
  obtain ⟨k, h⟩ := Pure.lists_pure zs
  refine (Print.trystlaw09_EscapeLists.calls k a cap zs true w hG hr hc h).mono ?_
  rintro e w' ⟨rfl, hd⟩
  exact ⟨rfl, hd⟩
end Go.Proofs.YtknmbalhbecdhaaDoor.Tabs
