/- Plain: escape.items and escape.Plain, as functions of bytes. -/
import Derived.Test.YtknmbalhbecdhaaDoorPUtf
import Derived.Test.YtknmbalhbecdhaaDoorItems
import Derived.Test.YtknmbalhbecdhaaDoorPrint6
set_option linter.unusedVariables false
set_option linter.unusedSimpArgs false
set_option linter.unusedSectionVars false
namespace Go.Proofs.YtknmbalhbecdhaaDoor.Pure
open Go.RowKit Go.Proofs.YtknmbalhbecdhaaDoor.Print Go.Proofs.YtknmbalhbecdhaaDoorW.PrintWords Go.Proofs.YtknmbalhbecdhaaDoorW.PrintLast Go.Proofs.YtknmbalhbecdhaaDoorW.PrintMore

/-- What is read of a list of texts. -/
def itemsA (s : ByteArray) : List ByteArray × Int := if cleanR false s.data.toList = 0 then itemsR s else ([], cleanR false s.data.toList)
theorem items_ev (s : ByteArray) (hs : s.size ≤ 4294967296) : Ev (fun k => escape_items.f k s) (itemsA s) := by
  refine Ev.bind (escClean s false (by omega)) ?_
  unfold itemsA
  by_cases h0 : cleanR false s.data.toList = 0
  · simp only [if_pos h0, if_pos hs]; exact Ev.now _
  · simp only [if_neg h0]; exact Ev.now _
def plainA (p : List ByteArray × Int) : ByteArray × Int := if p.2 = 0 then (if p.1.length = 1 then (rdOf ByteArray.empty p.1 0, 0) else (⟨#[]⟩, 7)) else (⟨#[]⟩, p.2)
theorem plain_ev (s : ByteArray) (hs : s.size ≤ 4294967296) : Ev (fun k => escape_Plain.f k s) (plainA (itemsA s)) := by
  refine Ev.bind (items_ev s hs) ?_
  unfold plainA
  by_cases h0 : (itemsA s).2 = 0
  · simp only [if_pos h0]
    by_cases h1 : (itemsA s).1.length = 1
    · simp only [if_pos h1, if_pos (show ((itemsA s).1.length : Int) = 1 by omega), if_pos (show 0 < ((itemsA s).1.length : Int) by omega)]; exact Ev.now _
    · simp only [if_neg h1, if_neg (show ¬ ((itemsA s).1.length : Int) = 1 by omega)]; exact Ev.now _
  · simp only [if_neg h0]; exact Ev.now _
end Go.Proofs.YtknmbalhbecdhaaDoor.Pure
