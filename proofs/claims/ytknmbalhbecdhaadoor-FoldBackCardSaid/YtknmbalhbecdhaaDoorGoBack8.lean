/- FoldBack: the walk and its plain law joined. -/
import Derived.Test.YtknmbalhbecdhaaDoorTabsU8
import Derived.Test.YtknmbalhbecdhaaDoorStrsSized
import Derived.Test.YtknmbalhbecdhaaDoorPBack
set_option linter.unusedVariables false
namespace Go.Proofs.YtknmbalhbecdhaaDoor.Tabs
open Go Go.RowKit Go.Lib
theorem tabsBack8 {W : World} (h : laidMetH Tryd.prog Rows.foldBackRow.laid W) : Print.GG W := by
  rw [MakeChecks.laidMetH_plain _ _ _ (by kernel_rfl)] at h
  exact gg_of_laid h
theorem walkBack8 (a : Option Addr) (len cap : Nat) (zs : List ByteArray) (w : World) (hG : Print.GG w) (w0 : IsStrsZ w a len cap zs) :
    Calls Tryd.prog 9 #[.slice a len cap] w fun e w' => e = .returned (.bool true) ∧ Below w.heap.size w w' := by
  obtain ⟨⟨rfl, hc, hr⟩, hz⟩ := w0
  obtain ⟨k, h⟩ := Pure.back_pure zs hz
  refine (Print.trystlaw08_FoldBack.calls k a cap zs true w hG hr hc h).mono ?_
  rintro e w' ⟨rfl, hd⟩
  exact ⟨rfl, hd⟩
end Go.Proofs.YtknmbalhbecdhaaDoor.Tabs
