/- FoldOther: the walk and its plain law joined. -/
import Derived.Test.YtknmbalhbecdhaaDoorTabsU8
import Derived.Test.YtknmbalhbecdhaaDoorRowArg
import Derived.Test.YtknmbalhbecdhaaDoorPOther
set_option linter.unusedVariables false
namespace Go.Proofs.YtknmbalhbecdhaaDoor.Tabs
open Go Go.RowKit Go.Lib
theorem tabsOther {W : World} (h : laidMetH Tryd.prog Rows.foldOtherRow.laid W) : Print.GG W := by
  rw [MakeChecks.laidMetH_plain _ _ _ (by kernel_rfl)] at h
  exact gg_of_laid h
theorem walkOther (a0 : ByteArray) (a1 : Option Addr) (len1 cap1 : Nat) (z1 : List Int) (a2 a3 : Bool) (w : World) (hG : Print.GG w) (w0 : a0.size ≤ 140737488351232) (w1 : IsRow .u16 w a1 len1 cap1 z1 ∧ len1 * 2 ≤ 140737488351232) :
    Calls Tryd.prog 10 #[.string a0, .slice a1 len1 cap1, .bool a2, .bool a3] w fun e w' => e = .returned (.bool true) ∧ Below w.heap.size w w' :=
  Print.trystlaw08_FoldOther.walk Pure.other_pure a0 a1 len1 cap1 z1 a2 a3 w hG w0 w1.1 w1.2
end Go.Proofs.YtknmbalhbecdhaaDoor.Tabs
