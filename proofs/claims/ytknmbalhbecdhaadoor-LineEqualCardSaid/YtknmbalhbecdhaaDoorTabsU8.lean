/- The tables of unicode/utf8, off what the rows list. -/
import Derived.Test.YtknmbalhbecdhaaDoorRows
import Derived.Test.YtknmbalhbecdhaaDoorXBase
import Derived.Lib.LaidU8T
import Derived.PinnedBridge
import Derived.MakeChecks
import Derived.ProofKit
set_option linter.unusedVariables false
namespace Go.Proofs.YtknmbalhbecdhaaDoor.Tabs
open Go Go.RowKit Go.Lib
def gFirst : Nat := 0
def gAccept : Nat := 1
theorem gg_of_reads {w : World} (h3 : VarReads Tryd.prog w "unicode/utf8.first" firstData) (h4 : VarReads Tryd.prog w "unicode/utf8.acceptRanges" acceptData) : Print.GG w :=
  ⟨utf8Tabs_of_readsT (U8Types.of196 Tryd.lays196) ⟨by kernel_rfl, by kernel_rfl, by kernel_rfl, by kernel_rfl, by kernel_rfl, by kernel_rfl, by kernel_rfl⟩ h3 h4⟩
theorem gg_of_laid {W : World} (h : laidMet Tryd.prog [("unicode/utf8.acceptRanges", Rows.laid_unicode_utf8_acceptRanges), ("unicode/utf8.first", Rows.laid_unicode_utf8_first)] W) : Print.GG W :=
  gg_of_reads (by have := Lib.laidMet.reads h (n := "unicode/utf8.first") (.tail _ (.head _)); rw [show Rows.laid_unicode_utf8_first = firstData from Pinned.utf8First_eq] at this; exact this) (Lib.laidMet.reads h (n := "unicode/utf8.acceptRanges") (.head _))
end Go.Proofs.YtknmbalhbecdhaaDoor.Tabs
