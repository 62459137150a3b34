/- Plain: escape.Text and escape.Param, as functions of bytes. -/
import Derived.Test.YtknmbalhbecdhaaDoorPUtf
import Derived.Test.YtknmbalhbecdhaaDoorParam
import Derived.Test.YtknmbalhbecdhaaDoorText
import Derived.Test.YtknmbalhbecdhaaDoorPrint2
set_option linter.unusedVariables false
set_option linter.unusedSimpArgs false
set_option linter.unusedSectionVars false
namespace Go.Proofs.YtknmbalhbecdhaaDoor.Pure
open Go.RowKit Go.Proofs.YtknmbalhbecdhaaDoor.Print Go.Proofs.YtknmbalhbecdhaaDoorW.PrintWords Go.Proofs.YtknmbalhbecdhaaDoorW.PrintLast Go.Proofs.YtknmbalhbecdhaaDoorW.PrintMore

def textW (x : ByteArray) : ByteArray × Int := if cleanR true x.data.toList = 0 then (⟨(escT x.data.toList).toArray⟩, 0) else (⟨#[]⟩, cleanR true x.data.toList)
def paramW (x : ByteArray) : ByteArray × Int := if cleanR true x.data.toList = 0 then (parW x, 0) else (⟨#[]⟩, cleanR true x.data.toList)
theorem esc_text (s : ByteArray) (hs : s.size ≤ 100000) : Ev (fun k => escape_Text.f k s) (textW s) := by
  refine Ev.bind (escClean s true (by omega)) ?_
  unfold textW
  by_cases h0 : cleanR true s.data.toList = 0
  · simp only [if_pos h0, if_pos (show 2 * s.size ≤ 140737488355328 by omega)]; exact Ev.now _
  · simp only [if_neg h0]; exact Ev.now _
theorem esc_param (s : ByteArray) (hs : s.size ≤ 100000) : Ev (fun k => escape_Param.f k s) (paramW s) := by
  refine Ev.bind (escClean s true (by omega)) ?_
  unfold paramW
  by_cases h0 : cleanR true s.data.toList = 0
  · simp only [if_pos h0, if_pos (show s.size ≤ 2000000000 by omega)]; exact Ev.now _
  · simp only [if_neg h0]; exact Ev.now _
theorem awake9 : Ev (fun k => trystlaw09_awake.f k) true := by
  refine Ev.bind (esc_text ⟨#[97, 44, 98]⟩ (by decide)) ?_
  have e : textW ⟨#[97, 44, 98]⟩ = (⟨#[97, 92, 44, 98]⟩, 0) := by
    have h0 : cleanR true (⟨#[97, 44, 98]⟩ : ByteArray).data.toList = 0 := by decide
    unfold textW; rw [if_pos h0]; rfl
  rw [e]
  simp only [if_true, Lib.toList_data]
  exact Ev.now _
end Go.Proofs.YtknmbalhbecdhaaDoor.Pure
