/- Plain: escape.Value, as a function of bytes. -/
import Derived.Test.YtknmbalhbecdhaaDoorPUtf
import Derived.Test.YtknmbalhbecdhaaDoorCaret
import Derived.Test.YtknmbalhbecdhaaDoorPrint6
import Derived.Lib.IndexLaws
import Derived.Lib.SmallJoins
set_option linter.unusedVariables false
set_option linter.unusedSimpArgs false
set_option linter.unusedSectionVars false
namespace Go.Proofs.YtknmbalhbecdhaaDoor.Pure
open Go.RowKit Go.Proofs.YtknmbalhbecdhaaDoor.Print Go.Proofs.YtknmbalhbecdhaaDoorW.PrintWords Go.Proofs.YtknmbalhbecdhaaDoorW.PrintLast Go.Proofs.YtknmbalhbecdhaaDoorW.PrintMore

theorem nil_of (s : ByteArray) (h : s.size = 0) : s.data.toList = [] := by
  apply List.length_eq_zero_iff.1; rw [Array.length_toList]; exact h
theorem ext_one (s : ByteArray) : (s.extract 1 s.size).data.toList = s.data.toList.drop 1 := by
  rw [ByteArray.data_extract, Array.toList_extract, List.extract_eq_take_drop]
  exact List.take_of_length_le (by rw [List.length_drop, Array.length_toList]; exact Nat.le_refl _)
def qB (c : UInt8) : Bool := c == 34 || c == 58 || c == 59 || c == 44
def openR (s : ByteArray) : ByteArray × Int := if s.data.toList.any qB = true then (⟨#[]⟩, 7) else (⟨(carL s.data.toList).toArray⟩, 0)
theorem contains_any (l : List UInt8) : Lib.containsAny l [34, 58, 59, 44] = l.any qB := by
  unfold Lib.containsAny
  induction l with
  | nil => rfl
  | cons b t ih =>
    have hge := Lib.indexAny_ge [34, 58, 59, 44] t
    have hq : ([34, 58, 59, 44] : List UInt8).contains b = qB b := by
      simp [qB, List.contains_cons, Bool.or_assoc]; rfl
    rw [List.any_cons, ← ih, Lib.indexAny, hq]
    cases hb : qB b
    · simp only [Bool.false_eq_true, if_false, Bool.false_or]
      by_cases h1 : Lib.indexAny t [34, 58, 59, 44] = -1
      · rw [h1]; rfl
      · have : (Lib.indexAny t [34, 58, 59, 44] == -1) = false := beq_eq_false_iff_ne.2 h1
        rw [this]
        have h0 : 0 ≤ Lib.indexAny t [34, 58, 59, 44] := by omega
        simp [h0]; omega
    · simp
theorem wrap_sub (m c : Nat) (h : m ≤ 140737488351232) (hc : c ≤ m) : wrap64 ((m : Int) - (c : Int)) = ((m - c : Nat) : Int) := by unfold wrap64; omega
/-- What is read of a parameter's value. -/
def valB (s : ByteArray) : ByteArray × Int :=
  if s.data.toList.getD 0 0 = 34 then
    (if s.size < 2 then (⟨#[]⟩, 7) else if Lib.indexByte (s.data.toList.drop 1) 34 = ((s.size - 2 : Nat) : Int) then (⟨(carL (s.extract 1 (s.size - 1)).data.toList).toArray⟩, 0) else (⟨#[]⟩, 7))
  else openR s
def valA (s : ByteArray) : ByteArray × Int := if cleanR false s.data.toList = 0 then valB s else (⟨#[]⟩, cleanR false s.data.toList)
theorem has_prefix (s : ByteArray) : strings_HasPrefix.f s ⟨#[34]⟩ = some (decide (s.data.toList.getD 0 0 = 34)) := by
  have h1 : ((⟨#[34]⟩ : ByteArray).size : Int) = 1 := rfl
  simp only [strings_HasPrefix.f, stringslite_HasPrefix.f, h1]
  by_cases hz : 1 ≤ s.size
  · rw [if_pos (by omega), if_pos (by omega), if_pos (by omega)]
    simp only [Option.bind_some]
    congr 1
    have e : (s.extract 0 (1 : Int).toNat).toList = [s.data.toList.getD 0 0] := by
      rw [Lib.toList_data, show (1 : Int).toNat = 1 from rfl, Lib.extract_from_zero]
      have := drop_at s 0 (by omega)
      rw [List.drop_zero] at this
      rw [this]; rfl
    rw [e, Lib.toList_data]
    by_cases h : s.data.toList.getD 0 0 = 34
    · rw [h]; rfl
    · rw [decide_eq_false h]; exact beq_eq_false_iff_ne.2 (by intro e; exact h (List.head_eq_of_cons_eq e))
  · rw [if_neg (by omega)]
    have : s.data.toList = [] := nil_of s (by omega)
    rw [this]; rfl
theorem esc_value (s : ByteArray) (hs : s.size < 4294967281) : Ev (fun k => escape_Value.f k s) (valA s) := by
  refine Ev.bind (escClean s false (by omega)) ?_
  unfold valA
  by_cases h0 : cleanR false s.data.toList = 0
  case neg => simp only [if_neg h0]; exact Ev.now _
  simp only [if_pos h0, has_prefix, Option.bind_some]
  unfold valB
  by_cases h34 : s.data.toList.getD 0 0 = 34
  · have hz : 1 ≤ s.size := by
      rcases Nat.eq_zero_or_pos s.size with h | h
      · have : s.data.toList = [] := nil_of s (by omega)
        rw [this] at h34; exact absurd h34 (by decide)
      · omega
    rw [if_pos h34]
    simp only [decide_eq_true h34, if_true]
    by_cases h2 : s.size < 2
    · simp only [if_pos h2, if_pos (show (s.size : Int) < 2 by omega)]; exact Ev.now _
    · have e1 : (s.extract 1 s.size).data.toList = s.data.toList.drop 1 := ext_one s
      have e2 : wrap64 ((s.size : Int) - 2) = ((s.size - 2 : Nat) : Int) := wrap_sub s.size 2 (by omega) (by omega)
      have e3 : wrap64 ((s.size : Int) - 1) = ((s.size - 1 : Nat) : Int) := wrap_sub s.size 1 (by omega) (by omega)
      have e4 : (34 : Int).toNat.toUInt8 = 34 := rfl
      simp only [if_neg h2, if_neg (show ¬ (s.size : Int) < 2 by omega), if_pos (show (1 : Int) ≤ (s.size : Int) by omega), strings_IndexByte.f, Option.bind_some, e1, e2, e3, e4]
      by_cases h3 : Lib.indexByte (s.data.toList.drop 1) 34 = ((s.size - 2 : Nat) : Int)
      · simp only [if_pos h3]
        rw [if_pos (by omega), if_pos (by omega)]
        have e5 : escape_caret.f (s.extract 1 (s.size - 1)) = some ⟨(carL (s.extract 1 (s.size - 1)).data.toList).toArray⟩ := by
          unfold escape_caret.f; rw [if_pos (by rw [ByteArray.size_extract]; omega)]
        simp only [Int.toNat_natCast, e5, Option.bind_some]
        exact Ev.now _
      · simp only [if_neg h3]; exact Ev.now _
  · rw [if_neg h34]
    simp only [decide_eq_false h34, Bool.false_eq_true, if_false]
    have ec : strings_ContainsAny.f s ⟨#[34, 58, 59, 44]⟩ = some (s.data.toList.any qB) := by
      unfold strings_ContainsAny.f
      rw [if_pos ⟨hs, by decide, by decide, by decide⟩, ← contains_any]
    simp only [ec, Option.bind_some]
    unfold openR
    cases s.data.toList.any qB
    · simp only [Bool.false_eq_true, if_false]
      have e5 : escape_caret.f s = some ⟨(carL s.data.toList).toArray⟩ := by
        unfold escape_caret.f; rw [if_pos (by omega)]
      simp only [e5, Option.bind_some]
      exact Ev.now _
    · simp only [if_true]; exact Ev.now _
end Go.Proofs.YtknmbalhbecdhaaDoor.Pure
