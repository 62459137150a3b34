/- LineEqual: the walk and its plain law joined. -/
import Derived.Test.YtknmbalhbecdhaaDoorTabsU8
import Derived.Test.YtknmbalhbecdhaaDoorLArgs
import Derived.Test.YtknmbalhbecdhaaDoorPLine
set_option linter.unusedVariables false
namespace Go.Proofs.YtknmbalhbecdhaaDoor.Tabs
open Go Go.RowKit Go.Lib Go.Proofs.YtknmbalhbecdhaaDoor.Args
theorem tabsLineEq {W : World} (h : laidMetH Tryd.prog Rows.lineEqualRow.laid W) : Print.GG W := by
  rw [MakeChecks.laidMetH_plain _ _ _ (by kernel_rfl)] at h
  exact gg_of_laid h
theorem walkLineEq (v0 : Value) (z0 : RLine) (v1 : Value) (z1 : RLine) (a2 : ByteArray) (w : World) (hG : Print.GG w) (w0 : IsLine w v0 z0) (w1 : IsLine w v1 z1) (w2 : a2.size ≤ 140737488351232) :
    Calls Tryd.prog 11 #[v0, v1, .string a2] w fun e w' => e = .returned (.bool true) ∧ Below w.heap.size w w' := by
  obtain ⟨b0, A0, c0, rfl, l0, h0⟩ := w0
  obtain ⟨b1, A1, c1, rfl, l1, h1⟩ := w1
  obtain ⟨k, hk⟩ := Pure.lineEqual_pure z0.1 z0.2.1 z0.2.2 z1.1 z1.2.1 z1.2.2 a2 (by have := b0.2.1.1; omega) (by have := b1.2.1.1; omega) (fun p hp => by have := (b0.2.1.2 p hp).2.1; omega) (fun p hp => by have := (b1.2.1.2 p hp).2.1; omega)
  exact Print.trystlaw10_LineEqual.calls k z0.1 A0 c0 z0.2.1 z0.2.2 z1.1 A1 c1 z1.2.1 z1.2.2 a2 true w hG h0 l0 h1 l1 hk
end Go.Proofs.YtknmbalhbecdhaaDoor.Tabs
