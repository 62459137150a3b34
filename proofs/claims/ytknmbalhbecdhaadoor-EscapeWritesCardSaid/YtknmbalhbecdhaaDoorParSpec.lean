/- escape.Param: what it writes, byte by byte. -/
import Derived.Test.YtknmbalhbecdhaaDoorPrint1
set_option linter.unusedVariables false
set_option linter.unusedSimpArgs false
namespace Go.Proofs.YtknmbalhbecdhaaDoor.Print
open Go.RowKit Go.Proofs.YtknmbalhbecdhaaDoorW.PrintWords Go.Proofs.YtknmbalhbecdhaaDoorW.PrintLast Go.Proofs.YtknmbalhbecdhaaDoorW.PrintMore

/-- What a byte of a parameter's value is written as. -/
def parB (c : UInt8) : List UInt8 := if c = 94 then [94, 94] else if c = 10 then [94, 110] else if c = 34 then [94, 39] else [c]
def parT (l : List UInt8) : List UInt8 := l.flatMap parB
theorem parB_le (c : UInt8) : (parB c).length ≤ 2 := by unfold parB; split <;> (try split) <;> (try split) <;> simp
theorem parT_le (l : List UInt8) : (parT l).length ≤ 2 * l.length := by
  induction l with
  | nil => simp [parT]
  | cons c t ih => have := parB_le c; simp only [parT, List.flatMap_cons, List.length_append, List.length_cons] at *; omega
theorem parT_cons (c : UInt8) (t : List UInt8) : parT (c :: t) = parB c ++ parT t := by simp [parT]
/-- Bytes for which a value is quoted. -/
def quoB (c : UInt8) : Bool := c == 58 || c == 59 || c == 44
def parL (l : List UInt8) : List UInt8 := if l.any quoB = true then [34] ++ parT l ++ [34] else parT l
def parW (s : ByteArray) : ByteArray := ⟨(parL s.data.toList).toArray⟩
def escape_Param.f (k : Nat) (a0 : ByteArray) : Option (ByteArray × Int) := (escape_Clean.f k a0 true).bind fun e => if e = 0 then (if a0.size ≤ 2000000000 then some (parW a0, 0) else none) else some (⟨#[]⟩, e)
theorem escape_Param.mono : ∀ a0 k, LeO (escape_Param.f k a0) (escape_Param.f (k + 1) a0) := by
  intro a0 k
  unfold escape_Param.f
  exact LeO.bind (escape_Clean.mono _ _ _) (fun _ => LeO.refl _)
end Go.Proofs.YtknmbalhbecdhaaDoor.Print
