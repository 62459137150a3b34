/- EscapeWrites: the walk and its plain law joined. -/
import Derived.Test.YtknmbalhbecdhaaDoorTabsU8
import Derived.Test.YtknmbalhbecdhaaDoorPEscW
set_option linter.unusedVariables false
namespace Go.Proofs.YtknmbalhbecdhaaDoor.Tabs
open Go Go.RowKit Go.Lib
theorem tabsEscW {W : World} (h : laidMetH Tryd.prog Rows.escapeWritesRow.laid W) : Print.GG W := by
  rw [MakeChecks.laidMetH_plain _ _ _ (by kernel_rfl)] at h
  exact gg_of_laid h
theorem walkEscW (a0 : ByteArray) (w : World) (hG : Print.GG w) (w0 : a0.size ≤ 140737488351232) :
    Calls Tryd.prog 5 #[.string a0] w fun e w' => e = .returned (.bool true) ∧ Below w.heap.size w w' :=
  Print.trystlaw09_EscapeWrites.walk Pure.writes9_pure a0 w hG w0
end Go.Proofs.YtknmbalhbecdhaaDoor.Tabs
