/- Texts of the proof of LineAgain, put together: PValS PPar PPrint PBackB PBackP PLineA GoLineA. -/
import Derived.Test.YtknmbalhbecdhaaGreatDoorProg
import Derived.Below
import Derived.Deep.Draws
import Derived.Deep.AppendLies
import Derived.Maps.AppendAt
import Derived.OwnWalk
import Derived.Laws.BytesArg
import Derived.Laws.MakeOwn
import Derived.Laws.OwnMore
import Derived.Deep.OwnRows
import Derived.Tactics
import Derived.Lib.ConvBytes
import Derived.Laws.Slices
import Derived.WalkKit
import Derived.KernelRfl
import Derived.RowKit3
import Derived.Deep.LoopGhost
import Derived.Deep.QuietTactic
import Derived.BigQuiet
import Derived.WideLaws
import Derived.Deep.DeepCutAuto
import Derived.Deep.CutBlock
import Derived.Deep.RegionHeld3
import Derived.Laws.Rows
import Derived.Lib.AppendStr
import Derived.ArgAppend
import Derived.Laws.IdiomCopy
import Derived.OrdersHeld
import Derived.Laws.BitsLemmas
import Derived.RowKit
import Derived.Test.YtknmbalhbecdhaaGreatDoorWMore
import Derived.Shelf.Unicode.ValidAny
import Derived.Shelf.Strings.Builder1
import Derived.Shelf.Small.Utf8
import Derived.Shelf.Small.Strs
import Derived.Shelf.Strings.BuilderF
import Derived.Shelf.Strings.BuilderK
import Derived.Shelf.Strings.Search1
import Derived.Shelf.Strings.Search2
import Derived.Shelf.Strings.Search3
import Derived.Shelf.Strings.Count
import Derived.Shelf.LaysM
import Derived.Shelf.Strings.Shaped
import Derived.Shelf.Strings.Runes
import Derived.Shelf.Strings.IndexAny
import Derived.Shelf.Strings.AsciiSet
import Derived.Shelf.Strings.IndexAnyAll
import Derived.Shelf.Slices.Equal
import Derived.Shelf.Slices.Empties2
import Derived.WalkSpells
import Derived.Laws.Runes
import Derived.Laws.RangeAny
import Derived.Laws.RangeString
import Derived.Lib.IndexAny
import Derived.Lib.SpaceUEq
import Derived.Lib.RuneCount
import Derived.Lib.QuoteLoop
import Derived.Lib.Hide
import Derived.Lib.OthersKept
import Derived.Lib.DecodeN
import Derived.IntWalk
import Derived.Test.YtknmbalhbecdhaaGreatDoorWWords
import Derived.Test.YtknmbalhbecdhaaGreatDoorWLast
import Derived.Test.YtknmbalhbecdhaaGreatDoorWTab
import Derived.Test.YtknmbalhbecdhaaGreatDoorWQPut
import Derived.Test.YtknmbalhbecdhaaGreatDoorWApart
import Derived.Test.YtknmbalhbecdhaaGreatDoorWArr
import Derived.Test.YtknmbalhbecdhaaGreatDoorWZeros
import Derived.Test.YtknmbalhbecdhaaGreatDoorWFoot
import Derived.Test.YtknmbalhbecdhaaGreatDoorWKept
import Derived.Test.YtknmbalhbecdhaaGreatDoorWShare
import Derived.Test.YtknmbalhbecdhaaGreatDoorWN
import Derived.Test.YtknmbalhbecdhaaGreatDoorWRepsOne
import Derived.Test.YtknmbalhbecdhaaGreatDoorWInv
import Derived.Test.YtknmbalhbecdhaaGreatDoorWGuard
import Derived.Test.YtknmbalhbecdhaaGreatDoorWNEv
import Derived.Lib.ValidU
import Derived.Lib.TrimUEq
import Derived.Lib.ValidLaws
import Derived.Lib.MapLaws
import Derived.Laws.NewBlocks
import Derived.Lib.IndexLaws
import Derived.Lib.SmallJoins
import Derived.Laws.CopyRow
import Derived.Laws.CopyOwn
import Derived.Deep.RegionWith
import Derived.Deep.WholeRow
import Derived.Outline
import Derived.Tactics2
import Derived.Defers
import Derived.Laws.Pointers
import Derived.Laws.LoneSync
import Derived.RegionTactic
import Derived.RegionCalls
import Derived.Lib.LazyBuf
import Derived.Laws.IdiomStrings
import Derived.Test.YtknmbalhbecdhaaGreatDoorRows
import Derived.Lib.LaidU8T
import Derived.PinnedBridge
import Derived.MakeChecks
import Derived.ProofKit
import Derived.Test.YtknmbalhbecdhaaGreatDoorQLineAgainC
section
set_option linter.unusedVariables false
set_option linter.unusedSimpArgs false
set_option linter.unusedSectionVars false
namespace Go.Proofs.YtknmbalhbecdhaaGreatDoor.Pure
open Go.RowKit Go.Proofs.YtknmbalhbecdhaaGreatDoor.Print Go.Proofs.YtknmbalhbecdhaaGreatDoorW.PrintWords Go.Proofs.YtknmbalhbecdhaaGreatDoorW.PrintLast Go.Proofs.YtknmbalhbecdhaaGreatDoorW.PrintMore
theorem nil_of (s : ByteArray) (h : s.size = 0) : s.data.toList = [] := by
  apply List.length_eq_zero_iff.1; rw [Array.length_toList]; exact h
theorem ext_one (s : ByteArray) : (s.extract 1 s.size).data.toList = s.data.toList.drop 1 := by
  rw [ByteArray.data_extract, Array.toList_extract, List.extract_eq_take_drop]
  exact List.take_of_length_le (by rw [List.length_drop, Array.length_toList]; exact Nat.le_refl _)
def qB (c : UInt8) : Bool := c == 34 || c == 58 || c == 59 || c == 44
def openR (s : ByteArray) : ByteArray × Int := if s.data.toList.any qB = true then (⟨#[]⟩, 7) else (⟨(carL s.data.toList).toArray⟩, 0)
theorem contains_any (l : List UInt8) : Lib.containsAny l [34, 58, 59, 44] = l.any qB := by
  unfold Lib.containsAny
  induction l with
  | nil => rfl
  | cons b t ih =>
    have hge := Lib.indexAny_ge [34, 58, 59, 44] t
    have hq : ([34, 58, 59, 44] : List UInt8).contains b = qB b := by
      simp [qB, List.contains_cons, Bool.or_assoc]; rfl
    rw [List.any_cons, ← ih, Lib.indexAny, hq]
    cases hb : qB b
    · simp only [Bool.false_eq_true, if_false, Bool.false_or]
      by_cases h1 : Lib.indexAny t [34, 58, 59, 44] = -1
      · rw [h1]; rfl
      · have : (Lib.indexAny t [34, 58, 59, 44] == -1) = false := beq_eq_false_iff_ne.2 h1
        rw [this]
        have h0 : 0 ≤ Lib.indexAny t [34, 58, 59, 44] := by omega
        simp [h0]; omega
    · simp
theorem wrap_sub (m c : Nat) (h : m ≤ 140737488351232) (hc : c ≤ m) : wrap64 ((m : Int) - (c : Int)) = ((m - c : Nat) : Int) := by unfold wrap64; omega
/-- What is read of a parameter's value. -/
def valB (s : ByteArray) : ByteArray × Int :=
  if s.data.toList.getD 0 0 = 34 then
    (if s.size < 2 then (⟨#[]⟩, 7) else if Lib.indexByte (s.data.toList.drop 1) 34 = ((s.size - 2 : Nat) : Int) then (⟨(carL (s.extract 1 (s.size - 1)).data.toList).toArray⟩, 0) else (⟨#[]⟩, 7))
  else openR s
def valA (s : ByteArray) : ByteArray × Int := if cleanR false s.data.toList = 0 then valB s else (⟨#[]⟩, cleanR false s.data.toList)
theorem has_prefix (s : ByteArray) : strings_HasPrefix.f s ⟨#[34]⟩ = some (decide (s.data.toList.getD 0 0 = 34)) := by
  have h1 : ((⟨#[34]⟩ : ByteArray).size : Int) = 1 := rfl
  simp only [strings_HasPrefix.f, stringslite_HasPrefix.f, h1]
  by_cases hz : 1 ≤ s.size
  · rw [if_pos (by omega), if_pos (by omega), if_pos (by omega)]
    simp only [Option.bind_some]
    congr 1
    have e : (s.extract 0 (1 : Int).toNat).toList = [s.data.toList.getD 0 0] := by
      rw [Lib.toList_data, show (1 : Int).toNat = 1 from rfl, Lib.extract_from_zero]
      have := drop_at s 0 (by omega)
      rw [List.drop_zero] at this
      rw [this]; rfl
    rw [e, Lib.toList_data]
    by_cases h : s.data.toList.getD 0 0 = 34
    · rw [h]; rfl
    · rw [decide_eq_false h]; exact beq_eq_false_iff_ne.2 (by intro e; exact h (List.head_eq_of_cons_eq e))
  · rw [if_neg (by omega)]
    have : s.data.toList = [] := nil_of s (by omega)
    rw [this]; rfl
theorem esc_value (s : ByteArray) (hs : s.size < 4294967281) : Ev (fun k => escape_Value.f k s) (valA s) := by
  refine Ev.bind (escClean s false (by omega)) ?_
  unfold valA
  by_cases h0 : cleanR false s.data.toList = 0
  case neg => simp only [if_neg h0]; exact Ev.now _
  simp only [if_pos h0, has_prefix, Option.bind_some]
  unfold valB
  by_cases h34 : s.data.toList.getD 0 0 = 34
  · have hz : 1 ≤ s.size := by
      rcases Nat.eq_zero_or_pos s.size with h | h
      · have : s.data.toList = [] := nil_of s (by omega)
        rw [this] at h34; exact absurd h34 (by decide)
      · omega
    rw [if_pos h34]
    simp only [decide_eq_true h34, if_true]
    by_cases h2 : s.size < 2
    · simp only [if_pos h2, if_pos (show (s.size : Int) < 2 by omega)]; exact Ev.now _
    · have e1 : (s.extract 1 s.size).data.toList = s.data.toList.drop 1 := ext_one s
      have e2 : wrap64 ((s.size : Int) - 2) = ((s.size - 2 : Nat) : Int) := wrap_sub s.size 2 (by omega) (by omega)
      have e3 : wrap64 ((s.size : Int) - 1) = ((s.size - 1 : Nat) : Int) := wrap_sub s.size 1 (by omega) (by omega)
      have e4 : (34 : Int).toNat.toUInt8 = 34 := rfl
      simp only [if_neg h2, if_neg (show ¬ (s.size : Int) < 2 by omega), if_pos (show (1 : Int) ≤ (s.size : Int) by omega), strings_IndexByte.f, Option.bind_some, e1, e2, e3, e4]
      by_cases h3 : Lib.indexByte (s.data.toList.drop 1) 34 = ((s.size - 2 : Nat) : Int)
      · simp only [if_pos h3]
        rw [if_pos (by omega), if_pos (by omega)]
        have e5 : escape_caret.f (s.extract 1 (s.size - 1)) = some ⟨(carL (s.extract 1 (s.size - 1)).data.toList).toArray⟩ := by
          unfold escape_caret.f; rw [if_pos (by rw [ByteArray.size_extract]; omega)]
        simp only [Int.toNat_natCast, e5, Option.bind_some]
        exact Ev.now _
      · simp only [if_neg h3]; exact Ev.now _
  · rw [if_neg h34]
    simp only [decide_eq_false h34, Bool.false_eq_true, if_false]
    have ec : strings_ContainsAny.f s ⟨#[34, 58, 59, 44]⟩ = some (s.data.toList.any qB) := by
      unfold strings_ContainsAny.f
      rw [if_pos ⟨hs, by decide, by decide, by decide⟩, ← contains_any]
    simp only [ec, Option.bind_some]
    unfold openR
    cases s.data.toList.any qB
    · simp only [Bool.false_eq_true, if_false]
      have e5 : escape_caret.f s = some ⟨(carL s.data.toList).toArray⟩ := by
        unfold escape_caret.f; rw [if_pos (by omega)]
      simp only [e5, Option.bind_some]
      exact Ev.now _
    · simp only [if_true]; exact Ev.now _
end Go.Proofs.YtknmbalhbecdhaaGreatDoor.Pure
end
section
set_option linter.unusedVariables false
set_option linter.unusedSimpArgs false
set_option linter.unusedSectionVars false
namespace Go.Proofs.YtknmbalhbecdhaaGreatDoor.Pure
open Go.RowKit Go.Proofs.YtknmbalhbecdhaaGreatDoor.Print Go.Proofs.YtknmbalhbecdhaaGreatDoorW.PrintWords Go.Proofs.YtknmbalhbecdhaaGreatDoorW.PrintLast Go.Proofs.YtknmbalhbecdhaaGreatDoorW.PrintMore
theorem nx_eq (l : List UInt8) (hne : l ≠ []) : nx l = refN l.length (l.getD 0 0).toNat (l.getD 1 0).toNat (l.getD 2 0).toNat (l.getD 3 0).toNat := by
  have : 0 < l.length := List.length_pos_iff.2 hne
  rw [refN_eq _ _ _ _ _ (by omega) (lt256 _ _) (lt256 _ _) (lt256 _ _) (lt256 _ _)]
  unfold nx
  rw [Lib.decodeL_N]
theorem validD_nx (l : List UInt8) (hne : l ≠ []) : Lib.validD l = if nx l = 0 then false else Lib.validD (l.drop (nx l)) := by
  rw [Lib.validD_step l hne]
  by_cases h : (Lib.decodeL l).1 = 65533 ∧ (Lib.decodeL l).2 = 1
  · rw [if_pos h, if_pos ((nx_bad l hne).2 h)]
  · rw [if_neg h, nx_good l h, if_neg (by have := decL_pos l hne; omega)]
def U2 (a b : UInt8) : Prop := (194 ≤ a.toNat ∧ a.toNat < 224) ∧ 128 ≤ b.toNat ∧ b.toNat < 192
def U3 (a b c : UInt8) : Prop := (224 ≤ a.toNat ∧ a.toNat < 240) ∧ ((128 ≤ b.toNat ∧ b.toNat < 192) ∧ 128 ≤ c.toNat ∧ c.toNat < 192) ∧ ¬ (a.toNat = 224 ∧ b.toNat < 160 ∨ a.toNat = 237 ∧ 159 < b.toNat)
def U4 (a b c d : UInt8) : Prop := (240 ≤ a.toNat ∧ a.toNat < 245) ∧ ((128 ≤ b.toNat ∧ b.toNat < 192) ∧ (128 ≤ c.toNat ∧ c.toNat < 192) ∧ 128 ≤ d.toNat ∧ d.toNat < 192) ∧ ¬ (a.toNat = 240 ∧ b.toNat < 144 ∨ a.toNat = 244 ∧ 143 < b.toNat)
theorem valid_2 (a b : UInt8) (t : List UInt8) (h : U2 a b) : Lib.validD (a :: b :: t) = Lib.validD t := by
  obtain ⟨h1, h2⟩ := h
  have e : nx (a :: b :: t) = 2 := by
    rw [nx_eq _ (by simp)]
    simp only [List.getD_cons_zero, List.getD_cons_succ, List.length_cons]
    unfold refN
    rw [if_neg (by omega), if_pos h1, if_neg (by omega), if_pos h2]
  rw [validD_nx _ (by simp), e]; rfl
theorem valid_3 (a b c : UInt8) (t : List UInt8) (h : U3 a b c) : Lib.validD (a :: b :: c :: t) = Lib.validD t := by
  obtain ⟨h1, h2, h3⟩ := h
  have e : nx (a :: b :: c :: t) = 3 := by
    rw [nx_eq _ (by simp)]
    simp only [List.getD_cons_zero, List.getD_cons_succ, List.length_cons]
    unfold refN
    rw [if_neg (by omega), if_neg (by omega), if_pos h1, if_neg (by omega), if_pos h2, if_neg h3]
  rw [validD_nx _ (by simp), e]; rfl
theorem valid_4 (a b c d : UInt8) (t : List UInt8) (h : U4 a b c d) : Lib.validD (a :: b :: c :: d :: t) = Lib.validD t := by
  obtain ⟨h1, h2, h3⟩ := h
  have e : nx (a :: b :: c :: d :: t) = 4 := by
    rw [nx_eq _ (by simp)]
    simp only [List.getD_cons_zero, List.getD_cons_succ, List.length_cons]
    unfold refN
    rw [if_neg (by omega), if_neg (by omega), if_neg (by omega), if_pos h1, if_neg (by omega), if_pos h2, if_neg h3]
  rw [validD_nx _ (by simp), e]; rfl
/-- The code points at the head of a valid text. -/
theorem valid_head (l : List UInt8) (hne : l ≠ []) (h : Lib.validD l = true) :
    (∃ a t, l = a :: t ∧ a.toNat < 128 ∧ Lib.validD t = true) ∨ (∃ a b t, l = a :: b :: t ∧ U2 a b ∧ Lib.validD t = true) ∨
    (∃ a b c t, l = a :: b :: c :: t ∧ U3 a b c ∧ Lib.validD t = true) ∨ (∃ a b c d t, l = a :: b :: c :: d :: t ∧ U4 a b c d ∧ Lib.validD t = true) := by
  have hv := validD_nx l hne
  rw [h] at hv
  have hn : nx l ≠ 0 := by intro e; rw [if_pos e] at hv; cases hv
  rw [if_neg hn, nx_eq l hne] at hv
  rw [nx_eq l hne] at hn
  unfold refN at hn hv
  cases l with
  | nil => exact absurd rfl hne
  | cons a l1 =>
    simp only [List.getD_cons_zero, List.getD_cons_succ, List.length_cons] at hn hv
    by_cases c1 : a.toNat < 128
    · rw [if_pos c1] at hv; exact .inl ⟨a, l1, rfl, c1, hv.symm⟩
    rw [if_neg c1] at hn hv
    by_cases c2 : 194 ≤ a.toNat ∧ a.toNat < 224
    · rw [if_pos c2] at hn hv
      cases l1 with
      | nil => simp at hn
      | cons b t =>
        simp only [List.getD_cons_zero, List.getD_cons_succ, List.length_cons] at hn hv
        rw [if_neg (by omega)] at hn hv
        by_cases c3 : 128 ≤ b.toNat ∧ b.toNat < 192
        · rw [if_pos c3] at hv; exact .inr (.inl ⟨a, b, t, rfl, ⟨c2, c3⟩, hv.symm⟩)
        · rw [if_neg c3] at hn; exact absurd rfl hn
    rw [if_neg c2] at hn hv
    by_cases c3 : 224 ≤ a.toNat ∧ a.toNat < 240
    · rw [if_pos c3] at hn hv
      rcases l1 with _ | ⟨b, _ | ⟨c, t⟩⟩
      · simp at hn
      · simp at hn
      · simp only [List.getD_cons_zero, List.getD_cons_succ, List.length_cons] at hn hv
        rw [if_neg (by omega)] at hn hv
        split at hn
        · rename_i c4
          rw [if_pos c4] at hv
          split at hn
          · exact absurd rfl hn
          · rename_i c5
            rw [if_neg c5] at hv
            exact .inr (.inr (.inl ⟨a, b, c, t, rfl, ⟨c3, c4, c5⟩, hv.symm⟩))
        · exact absurd rfl hn
    rw [if_neg c3] at hn hv
    by_cases c4 : 240 ≤ a.toNat ∧ a.toNat < 245
    · rw [if_pos c4] at hn hv
      rcases l1 with _ | ⟨b, _ | ⟨c, _ | ⟨d, t⟩⟩⟩
      · simp at hn
      · simp at hn
      · simp at hn
      · simp only [List.getD_cons_zero, List.getD_cons_succ, List.length_cons] at hn hv
        rw [if_neg (by omega)] at hn hv
        split at hn
        · rename_i c5
          rw [if_pos c5] at hv
          split at hn
          · exact absurd rfl hn
          · rename_i c6
            rw [if_neg c6] at hv
            exact .inr (.inr (.inr ⟨a, b, c, d, t, rfl, ⟨c4, c5, c6⟩, hv.symm⟩))
        · exact absurd rfl hn
    rw [if_neg c4] at hn
    exact absurd rfl hn
theorem ba_backB (s : ByteArray) : (⟨s.data.toList.toArray⟩ : ByteArray) = s := by cases s; simp
theorem ba_sizeB (l : List UInt8) : (⟨l.toArray⟩ : ByteArray).size = l.length := by show l.toArray.size = _; rw [List.size_toArray]
theorem clean_true {l : List UInt8} (h : cleanR true l = 0) : Lib.validD l = true ∧ l.all (okB true) = true := by
  unfold cleanR at h
  by_cases h1 : Lib.validD l = true
  · rw [if_pos h1] at h
    by_cases h2 : l.all (okB true) = true
    · exact ⟨h1, h2⟩
    · rw [if_neg h2] at h; exact absurd h (by decide)
  · rw [if_neg h1] at h; exact absurd h (by decide)
theorem clean_of {f : Bool} {l : List UInt8} (h1 : Lib.validD l = true) (h2 : l.all (okB f) = true) : cleanR f l = 0 := by
  unfold cleanR; rw [if_pos h1, if_pos h2]
theorem parB_high (c : UInt8) (h : 128 ≤ c.toNat) : parB c = [c] := by
  have n1 : c ≠ 94 := by rintro rfl; exact absurd h (by decide)
  have n2 : c ≠ 10 := by rintro rfl; exact absurd h (by decide)
  have n3 : c ≠ 34 := by rintro rfl; exact absurd h (by decide)
  unfold parB; rw [if_neg n1, if_neg n2, if_neg n3]
theorem parB_low (c : UInt8) (h : c.toNat < 128) (s : List UInt8) : Lib.validD (parB c ++ s) = Lib.validD s := by
  unfold parB
  split
  · show Lib.validD (94 :: 94 :: s) = _
    rw [Lib.validD_cons _ _ (by decide), Lib.validD_cons _ _ (by decide)]
  split
  · show Lib.validD (94 :: 110 :: s) = _
    rw [Lib.validD_cons _ _ (by decide), Lib.validD_cons _ _ (by decide)]
  split
  · show Lib.validD (94 :: 39 :: s) = _
    rw [Lib.validD_cons _ _ (by decide), Lib.validD_cons _ _ (by decide)]
  · exact Lib.validD_cons _ _ h
theorem par_valid : ∀ (n : Nat) (l s : List UInt8), l.length ≤ n → Lib.validD l = true → Lib.validD (parT l ++ s) = Lib.validD s
  | _, [], s, _, _ => rfl
  | 0, a :: t, s, hn, _ => by simp at hn
  | n + 1, x :: l, s, hn, h => by
    rcases valid_head (x :: l) (by simp) h with ⟨a, t, e, ha, hv⟩ | ⟨a, b, t, e, ha, hv⟩ | ⟨a, b, c, t, e, ha, hv⟩ | ⟨a, b, c, d, t, e, ha, hv⟩
    · have hl := congrArg List.length e
      simp only [List.length_cons] at hl hn
      rw [e, parT_cons, List.append_assoc, parB_low a ha]
      exact par_valid n t s (by omega) hv
    · have hl := congrArg List.length e
      simp only [List.length_cons] at hl hn
      rw [e, parT_cons, parT_cons, parB_high a (by have := ha.1; omega), parB_high b (by have := ha.2; omega)]
      show Lib.validD (a :: b :: (parT t ++ s)) = _
      rw [valid_2 _ _ _ ha]
      exact par_valid n t s (by omega) hv
    · have hl := congrArg List.length e
      simp only [List.length_cons] at hl hn
      obtain ⟨h1, h2, h3⟩ := ha
      rw [e, parT_cons, parT_cons, parT_cons, parB_high a (by omega), parB_high b (by omega), parB_high c (by omega)]
      show Lib.validD (a :: b :: c :: (parT t ++ s)) = _
      rw [valid_3 _ _ _ _ ⟨h1, h2, h3⟩]
      exact par_valid n t s (by omega) hv
    · have hl := congrArg List.length e
      simp only [List.length_cons] at hl hn
      obtain ⟨h1, h2, h3⟩ := ha
      rw [e, parT_cons, parT_cons, parT_cons, parT_cons, parB_high a (by omega), parB_high b (by omega), parB_high c (by omega), parB_high d (by omega)]
      show Lib.validD (a :: b :: c :: d :: (parT t ++ s)) = _
      rw [valid_4 _ _ _ _ _ ⟨h1, h2, h3⟩]
      exact par_valid n t s (by omega) hv
theorem parB_ok (c : UInt8) (h : okB true c = true) : (parB c).all (okB false) = true := by
  unfold parB
  by_cases h94 : c = 94
  · rw [if_pos h94]; rfl
  rw [if_neg h94]
  by_cases h10 : c = 10
  · rw [if_pos h10]; rfl
  rw [if_neg h10]
  by_cases h34 : c = 34
  · rw [if_pos h34]; rfl
  rw [if_neg h34]
  have h10b : (c == 10) = false := beq_eq_false_iff_ne.2 h10
  have hc : okB false c = true := by
    unfold okB at h ⊢
    rw [h10b] at h ⊢
    simpa using h
  simp [hc]
theorem parT_ok (l : List UInt8) (h : l.all (okB true) = true) : (parT l).all (okB false) = true := by
  induction l with
  | nil => rfl
  | cons c t ih =>
    rw [List.all_cons, Bool.and_eq_true] at h
    rw [parT_cons, List.all_append, parB_ok c h.1, ih h.2]; rfl
theorem car_par : ∀ (l : List UInt8), carL (parT l) = l
  | [] => rfl
  | c :: t => by
    rw [parT_cons]
    unfold parB
    by_cases h94 : c = 94
    · rw [if_pos h94, h94]
      show carL (94 :: 94 :: parT t) = _
      simp [carL, car_par t]
    rw [if_neg h94]
    by_cases h10 : c = 10
    · rw [if_pos h10, h10]
      show carL (94 :: 110 :: parT t) = _
      simp [carL, car_par t]
    rw [if_neg h10]
    by_cases h34 : c = 34
    · rw [if_pos h34, h34]
      show carL (94 :: 39 :: parT t) = _
      simp [carL, car_par t]
    rw [if_neg h34]
    show carL (c :: parT t) = _
    have : carL (c :: parT t) = c :: carL (parT t) := by cases parT t <;> simp [carL, h94]
    rw [this, car_par t]
theorem par_any : ∀ (l : List UInt8), (parT l).any qB = l.any quoB
  | [] => rfl
  | c :: t => by
    rw [parT_cons, List.any_append, par_any t, List.any_cons]
    congr 1
    unfold parB
    by_cases h94 : c = 94
    · rw [if_pos h94, h94]; rfl
    rw [if_neg h94]
    by_cases h10 : c = 10
    · rw [if_pos h10, h10]; rfl
    rw [if_neg h10]
    by_cases h34 : c = 34
    · rw [if_pos h34, h34]; rfl
    rw [if_neg h34, List.any_cons, List.any_nil, Bool.or_false]
    unfold qB quoB
    rw [beq_eq_false_iff_ne.2 h34, Bool.false_or]
theorem par_34 : ∀ (l : List UInt8), (parT l).any (· == 34) = false
  | [] => rfl
  | c :: t => by
    rw [parT_cons, List.any_append, par_34 t, Bool.or_false]
    unfold parB
    by_cases h94 : c = 94
    · rw [if_pos h94]; rfl
    rw [if_neg h94]
    by_cases h10 : c = 10
    · rw [if_pos h10]; rfl
    rw [if_neg h10]
    by_cases h34 : c = 34
    · rw [if_pos h34]; rfl
    rw [if_neg h34, List.any_cons, List.any_nil, Bool.or_false]
    exact beq_eq_false_iff_ne.2 h34
theorem head_34 (l : List UInt8) (h : l.any (· == 34) = false) : l.getD 0 0 ≠ 34 := by
  cases l with
  | nil => decide
  | cons a t =>
    rw [List.any_cons, Bool.or_eq_false_iff] at h
    exact beq_eq_false_iff_ne.1 h.1
theorem idx_34 : ∀ (l : List UInt8), l.any (· == 34) = false → Lib.indexByte (l ++ [34]) 34 = (l.length : Int)
  | [], _ => rfl
  | c :: t, h => by
    rw [List.any_cons, Bool.or_eq_false_iff] at h
    have ih := idx_34 t h.2
    show Lib.indexByte (c :: (t ++ [34])) 34 = _
    unfold Lib.indexByte
    rw [h.1, ih]
    have hn : (((t.length : Nat) : Int) == -1) = false := beq_eq_false_iff_ne.2 (by omega)
    rw [hn]
    simp
theorem value_par (s : ByteArray) (h : cleanR true s.data.toList = 0) : valA (parW s) = (s, 0) := by
  obtain ⟨h1, h2⟩ := clean_true h
  have hd : (parW s).data.toList = parL s.data.toList := rfl
  have hv := fun t => par_valid s.data.toList.length s.data.toList t (Nat.le_refl _) h1
  have hok := parT_ok s.data.toList h2
  have hcar := car_par s.data.toList
  have hany := par_any s.data.toList
  have h34 := par_34 s.data.toList
  have hback := ba_backB s
  have hsz : (parW s).size = (parL s.data.toList).length := ba_sizeB _
  unfold valA
  by_cases hq : s.data.toList.any quoB = true
  · have hL : parL s.data.toList = 34 :: (parT s.data.toList ++ [34]) := by unfold parL; rw [if_pos hq]; rfl
    have hc : cleanR false (parW s).data.toList = 0 := by
      rw [hd, hL]
      refine clean_of ?_ ?_
      · rw [Lib.validD_cons _ _ (by decide), hv [34]]; rfl
      · rw [List.all_cons, List.all_append, hok]; rfl
    rw [if_pos hc]
    unfold valB
    have hlen : (parW s).size = (parT s.data.toList).length + 2 := by rw [hsz, hL]; simp
    have hex : ((parW s).extract 1 ((parW s).size - 1)).data.toList = parT s.data.toList := by
      rw [ByteArray.data_extract, Array.toList_extract, List.extract_eq_take_drop, hd, hL, hlen]
      simp
    rw [if_pos (by rw [hd, hL]; rfl), if_neg (by omega), if_pos (by rw [hd, hL]; show Lib.indexByte (parT s.data.toList ++ [34]) 34 = _; rw [idx_34 _ h34, hlen]; rfl), hex, hcar, hback]
  · have hL : parL s.data.toList = parT s.data.toList := by unfold parL; rw [if_neg hq]
    have hc : cleanR false (parW s).data.toList = 0 := by
      rw [hd, hL]
      refine clean_of ?_ hok
      have := hv []
      rw [List.append_nil] at this
      rw [this]; rfl
    rw [if_pos hc]
    unfold valB openR
    rw [if_neg (by rw [hd, hL]; exact head_34 _ h34), hd, hL, hany, if_neg hq, hcar, hback]
end Go.Proofs.YtknmbalhbecdhaaGreatDoor.Pure
end
section
set_option linter.unusedVariables false
set_option linter.unusedSimpArgs false
set_option linter.unusedSectionVars false
namespace Go.Proofs.YtknmbalhbecdhaaGreatDoor.Pure
open Go.RowKit Go.Proofs.YtknmbalhbecdhaaGreatDoor.Print Go.Proofs.YtknmbalhbecdhaaGreatDoorW.PrintWords Go.Proofs.YtknmbalhbecdhaaGreatDoorW.PrintLast Go.Proofs.YtknmbalhbecdhaaGreatDoorW.PrintMore
theorem okPs_all : ∀ (l seen : List LP), okPs seen l = true → ∀ p ∈ l, parR p.f0 p.f1 = true
  | [], _, _, p, hp => by simp at hp
  | q :: t, seen, h, p, hp => by
    rw [okPs, Bool.and_eq_true, Bool.and_eq_true] at h
    rcases List.mem_cons.1 hp with rfl | hp
    · exact h.1
    · exact okPs_all t _ h.2.2 p hp
theorem parR_of {nm : ByteArray} {l : List ByteArray} (h : parR nm l = true) : nameR nm = true ∧ 1 ≤ l.length ∧ l.length ≤ 60 ∧ ∀ x ∈ l, cleanR true x.data.toList = 0 := by
  unfold parR at h
  rw [Bool.and_eq_true, Bool.and_eq_true, Bool.and_eq_true] at h
  exact ⟨h.1, of_decide_eq_true h.2.1, of_decide_eq_true h.2.2.1, fun x hx => of_decide_eq_true (List.all_eq_true.1 h.2.2.2 x hx)⟩
theorem formR_of {nm : ByteArray} {l : List LP} {v : ByteArray} (h : formR nm l v = true) : nameR nm = true ∧ l.length ≤ 60 ∧ cleanR false v.data.toList = 0 ∧ okPs [] l = true := by
  unfold formR at h
  rw [Bool.and_eq_true, Bool.and_eq_true, Bool.and_eq_true] at h
  exact ⟨h.1, of_decide_eq_true h.2.1, of_decide_eq_true h.2.2.1, h.2.2.2⟩
theorem parT_le : ∀ l : List UInt8, (parT l).length ≤ 2 * l.length
  | [] => by simp [parT]
  | c :: t => by
    have := parT_le t
    rw [parT_cons, List.length_append, List.length_cons]
    have : (parB c).length ≤ 2 := by unfold parB; split <;> (try split) <;> (try split) <;> simp
    omega
theorem parL_le (l : List UInt8) : (parL l).length ≤ 2 * l.length + 2 := by
  have := parT_le l
  unfold parL; split
  · simp; omega
  · omega
theorem clean_evS : ∀ l : List ByteArray, (∀ x ∈ l, x.size ≤ 140737488351232 ∧ cleanR true x.data.toList = 0) → ∃ K, ∀ k, K ≤ k → ∀ x ∈ l, escape_Clean.f k x true = some 0
  | [], _ => ⟨0, fun _ _ x hx => by simp at hx⟩
  | x :: t, h => by
    obtain ⟨K, hK⟩ := clean_evS t (fun y hy => h y (List.mem_cons_of_mem _ hy))
    have hx := h x List.mem_cons_self
    obtain ⟨K2, hK2⟩ := escClean x true hx.1
    rw [hx.2] at hK2
    refine ⟨max K K2, fun k hk y hy => ?_⟩
    rcases List.mem_cons.1 hy with rfl | hy
    · exact hK2 k (by omega)
    · exact hK k (by omega) y hy
theorem clean_evP : ∀ l : List LP, (∀ p ∈ l, ∀ x ∈ p.f1, x.size ≤ 140737488351232 ∧ cleanR true x.data.toList = 0) → ∃ K, ∀ k, K ≤ k → cleanAll k l = true
  | [], _ => ⟨0, fun _ _ => rfl⟩
  | p :: t, h => by
    obtain ⟨K, hK⟩ := clean_evP t (fun y hy => h y (List.mem_cons_of_mem _ hy))
    obtain ⟨K2, hK2⟩ := clean_evS p.f1 (h p List.mem_cons_self)
    refine ⟨max K K2, fun k hk => ?_⟩
    have h1 := hK k (by omega)
    unfold cleanAll at h1 ⊢
    rw [List.all_cons, h1, Bool.and_true]
    exact List.all_eq_true.2 fun x hx => decide_eq_true (hK2 k (by omega) x hx)
def printR (nm : ByteArray) (l : List LP) (v : ByteArray) : ByteArray × Int := if formR nm l v = true then lineR nm l v else (⟨#[]⟩, 1)
theorem printL (nm v : ByteArray) (l : List LP) (hn : nm.size ≤ 140737488351232) (hv : v.size ≤ 140737488351232) (hs : ∀ p ∈ l, ParB' p) (hlen : formR nm l v = true → (lineT nm l v).length ≤ 1000000000) : Ev (fun k => line_Print.f k nm l v) (printR nm l v) := by
  refine Ev.bind (formL nm v l hn hv hs) ?_
  unfold printR
  cases hf : formR nm l v with
  | false => exact Ev.congr (f := fun _ => some (⟨#[]⟩, 1)) (fun k => by rw [if_neg (by simp)]) (by rw [if_neg (by simp)]; exact Ev.now _)
  | true =>
    have h1 := hlen hf
    have h2 := formR_of hf
    obtain ⟨K, hK⟩ := clean_evP l (fun p hp x hx => ⟨(hs p hp).2 x hx, (parR_of (okPs_all l [] h2.2.2.2 p hp)).2.2.2 x hx⟩)
    rw [if_pos rfl]
    exact ⟨K, fun k hk => by show (if true = true then _ else _) = _; rw [if_pos rfl, if_pos ⟨hK k hk, h1⟩]⟩
end Go.Proofs.YtknmbalhbecdhaaGreatDoor.Pure
end
section
set_option linter.unusedVariables false
set_option linter.unusedSimpArgs false
set_option linter.unusedSectionVars false
namespace Go.Proofs.YtknmbalhbecdhaaGreatDoor.Pure
open Go.RowKit Go.Proofs.YtknmbalhbecdhaaGreatDoor.Print Go.Proofs.YtknmbalhbecdhaaGreatDoorW.PrintWords Go.Proofs.YtknmbalhbecdhaaGreatDoorW.PrintLast Go.Proofs.YtknmbalhbecdhaaGreatDoorW.PrintMore
theorem up_sign (c : UInt8) (h : upB c = true) : signS c = true := by
  have h1 : ∀ c : Fin 256, upB (UInt8.ofFin c) = true → signS (UInt8.ofFin c) = true := by decide +kernel
  exact h1 c.toFin h
theorem up_great (c : UInt8) (h : upB c = true) : greatB c = c := by
  have h1 : ∀ c : Fin 256, upB (UInt8.ofFin c) = true → greatB (UInt8.ofFin c) = UInt8.ofFin c := by decide +kernel
  exact h1 c.toFin h
theorem sign_great (c : UInt8) (h : signS c = true) : upB (greatB c) = true := by
  have h1 : ∀ c : Fin 256, signS (UInt8.ofFin c) = true → upB (greatB (UInt8.ofFin c)) = true := by decide +kernel
  exact h1 c.toFin h
theorem up_low (c : UInt8) (h : upB c = true) : c.toNat < 128 := by
  have h1 : ∀ c : Fin 256, upB (UInt8.ofFin c) = true → (UInt8.ofFin c).toNat < 128 := by decide +kernel
  exact h1 c.toFin h
theorem sign_58 : signS 58 = false := by decide +kernel
theorem sign_59 : signS 59 = false := by decide +kernel
theorem sign_61 : signS 61 = false := by decide +kernel
theorem nameEnd_of : ∀ (l : List UInt8) (c : UInt8) (t : List UInt8) (n : Nat), l.all upB = true → l.length ≤ n → signS c = false → nameEnd (l ++ c :: t) n = l.length
  | [], c, t, n, _, _, hc => by
    cases n with
    | zero => exact nameEnd_zero _
    | succ n => exact nameEnd_no c t n hc
  | x :: l, c, t, n, h, hl, hc => by
    rw [List.all_cons, Bool.and_eq_true] at h
    cases n with
    | zero => simp at hl
    | succ n =>
      rw [List.cons_append, nameEnd_yes x _ n (up_sign x h.1), nameEnd_of l c t n h.2 (by simpa using hl) hc]; rfl
theorem map_great : ∀ l : List UInt8, l.all upB = true → l.map greatB = l
  | [], _ => rfl
  | x :: t, h => by
    rw [List.all_cons, Bool.and_eq_true] at h
    rw [List.map_cons, up_great x h.1, map_great t h.2]
theorem great_of (s : ByteArray) (h : s.data.toList.all upB = true) : greatS s = s := by
  unfold greatS; rw [map_great _ h, ba_backB]
theorem nameR_of {s : ByteArray} (h : nameR s = true) : s.data.toList.all upB = true ∧ 1 ≤ s.size ∧ s.size ≤ 60 := by
  unfold nameR at h
  rw [Bool.and_eq_true, Bool.and_eq_true, decide_eq_true_eq, decide_eq_true_eq] at h; exact h
theorem nameR_mk {s : ByteArray} (h1 : s.data.toList.all upB = true) (h2 : 1 ≤ s.size) (h3 : s.size ≤ 60) : nameR s = true := by
  unfold nameR; rw [h1, decide_eq_true h2, decide_eq_true h3]; rfl
theorem plain_q (c : UInt8) : plainV c = !(qB c) := by
  unfold plainV qB
  cases c == 34 <;> cases c == 58 <;> cases c == 59 <;> cases c == 44 <;> rfl
theorem takeW_of : ∀ (l : List UInt8) (c : UInt8) (t : List UInt8), l.any qB = false → plainV c = false → (l ++ c :: t).takeWhile plainV = l
  | [], c, t, _, hc => by rw [List.nil_append, List.takeWhile_cons, if_neg (by simp [hc])]
  | x :: l, c, t, h, hc => by
    rw [List.any_cons, Bool.or_eq_false_iff] at h
    rw [List.cons_append, List.takeWhile_cons, if_pos (by rw [plain_q, h.1]; rfl), takeW_of l c t h.2 hc]
theorem idx_34r : ∀ (l r : List UInt8), l.any (· == 34) = false → Lib.indexByte (l ++ 34 :: r) 34 = (l.length : Int)
  | [], r, _ => rfl
  | c :: t, r, h => by
    rw [List.any_cons, Bool.or_eq_false_iff] at h
    have ih := idx_34r t r h.2
    show Lib.indexByte (c :: (t ++ 34 :: r)) 34 = _
    unfold Lib.indexByte
    rw [h.1, ih]
    have hn : (((t.length : Nat) : Int) == -1) = false := beq_eq_false_iff_ne.2 (by omega)
    rw [hn]
    simp
theorem valEnd_par (x : List UInt8) (c : UInt8) (t : List UInt8) (hc : plainV c = false) (hc2 : c ≠ 34) : valEnd (parL x ++ c :: t) = some (parL x).length := by
  by_cases hq : x.any quoB = true
  · have hL : parL x = 34 :: (parT x ++ [34]) := by unfold parL; rw [if_pos hq]; rfl
    unfold valEnd
    rw [hL]
    rw [if_pos (by rfl)]
    have e : (List.drop 1 (34 :: (parT x ++ [34]) ++ c :: t)) = parT x ++ 34 :: (c :: t) := by simp
    rw [e, idx_34r _ _ (par_34 x), if_neg (by omega)]
    simp
  · have hL : parL x = parT x := by unfold parL; rw [if_neg hq]
    have ha : (parT x).any qB = false := by rw [par_any]; simpa using hq
    unfold valEnd
    rw [hL, takeW_of _ _ _ ha hc, if_neg]
    cases hp : parT x with
    | nil => intro e; exact hc2 (by simpa using e)
    | cons y u =>
      rw [hp, List.any_cons, Bool.or_eq_false_iff] at ha
      intro e
      have e2 : y = 34 := by simpa using e
      rw [e2] at ha
      exact absurd ha.1 (by decide)
theorem up_valid : ∀ (l s : List UInt8), l.all upB = true → Lib.validD (l ++ s) = Lib.validD s
  | [], s, _ => rfl
  | x :: l, s, h => by
    rw [List.all_cons, Bool.and_eq_true] at h
    rw [List.cons_append, Lib.validD_cons _ _ (up_low x h.1), up_valid l s h.2]
theorem parL_valid (x s : List UInt8) (h : Lib.validD x = true) : Lib.validD (parL x ++ s) = Lib.validD s := by
  by_cases hq : x.any quoB = true
  · have hL : parL x = 34 :: (parT x ++ [34]) := by unfold parL; rw [if_pos hq]; rfl
    rw [hL, List.cons_append, Lib.validD_cons _ _ (by decide), List.append_assoc, par_valid x.length x _ (Nat.le_refl _) h]
    show Lib.validD (34 :: s) = _
    rw [Lib.validD_cons _ _ (by decide)]
  · have hL : parL x = parT x := by unfold parL; rw [if_neg hq]
    rw [hL, par_valid x.length x _ (Nat.le_refl _) h]
theorem valsT_valid : ∀ (l : List ByteArray) (b : UInt8) (s : List UInt8), b.toNat < 128 → (∀ x ∈ l, cleanR true x.data.toList = 0) → Lib.validD (valsT l b ++ s) = Lib.validD s
  | [], b, s, _, _ => rfl
  | x :: l, b, s, hb, h => by
    rw [valsT, List.cons_append, List.cons_append, Lib.validD_cons _ _ hb, List.append_assoc, parL_valid _ _ (clean_true (h x (by simp))).1]
    exact valsT_valid l 44 s (by decide) (fun y hy => h y (by simp [hy]))
theorem parsT_valid : ∀ (l : List LP) (s : List UInt8), (∀ p ∈ l, parR p.f0 p.f1 = true) → Lib.validD (parsT l ++ s) = Lib.validD s
  | [], s, _ => rfl
  | p :: l, s, h => by
    have hp := parR_of (h p (by simp))
    rw [parsT, List.cons_append, List.cons_append, List.cons_append, Lib.validD_cons _ _ (by decide), List.append_assoc, List.append_assoc, up_valid _ _ (nameR_of hp.1).1, valsT_valid _ _ _ (by decide) hp.2.2.2]
    exact parsT_valid l s (fun q hq => h q (by simp [hq]))
theorem line_valid {nm v : ByteArray} {l : List LP} (h : formR nm l v = true) : Lib.validD (lineT nm l v) = true := by
  obtain ⟨h1, h2, h3, h4⟩ := formR_of h
  unfold lineT
  rw [List.append_assoc, up_valid _ _ (nameR_of h1).1, parsT_valid _ _ (okPs_all _ _ h4), Lib.validD_cons _ _ (by decide)]
  unfold cleanR at h3
  by_cases hv : Lib.validD v.data.toList = true
  · exact hv
  · rw [if_neg hv] at h3; exact absurd h3 (by decide)
theorem carL_high (x : UInt8) (t : List UInt8) (h : 128 ≤ x.toNat) : carL (x :: t) = x :: carL t := by
  have : x ≠ 94 := by rintro rfl; exact absurd h (by decide)
  cases t <;> simp [carL, this]
theorem carL_not (x : UInt8) (t : List UInt8) (h : x ≠ 94) : carL (x :: t) = x :: carL t := by cases t <;> simp [carL, h]
theorem carL_94 (y : UInt8) (t : List UInt8) : carL (94 :: y :: t) = if y = 110 then 10 :: carL t else if y = 39 then 34 :: carL t else if y = 94 then 94 :: carL t else 94 :: carL (y :: t) := by simp [carL]
theorem car_valid : ∀ (n : Nat) (l : List UInt8), l.length ≤ n → Lib.validD l = true → Lib.validD (carL l) = true
  | _, [], _, _ => rfl
  | 0, a :: t, hn, _ => by simp at hn
  | n + 1, x :: l, hn, h => by
    rcases valid_head (x :: l) (by simp) h with ⟨a, t, e, ha, hv⟩ | ⟨a, b, t, e, ha, hv⟩ | ⟨a, b, c, t, e, ha, hv⟩ | ⟨a, b, c, d, t, e, ha, hv⟩
    · have hl := congrArg List.length e
      simp only [List.length_cons] at hl hn
      rw [e]
      by_cases h94 : a = 94
      · subst h94
        cases t with
        | nil => rfl
        | cons y u =>
          simp only [List.length_cons] at hl
          have ih1 := car_valid n (y :: u) (by simp; omega) hv
          rw [carL_94]
          have low : ∀ z : UInt8, y = z → z.toNat < 128 → Lib.validD u = true := fun z hz hzl => by
            subst hz; rw [Lib.validD_cons _ _ hzl] at hv; exact hv
          split
          · rename_i hy
            rw [Lib.validD_cons _ _ (by decide)]; exact car_valid n u (by omega) (low _ hy (by decide))
          split
          · rename_i hy
            rw [Lib.validD_cons _ _ (by decide)]; exact car_valid n u (by omega) (low _ hy (by decide))
          split
          · rename_i hy
            rw [Lib.validD_cons _ _ (by decide)]; exact car_valid n u (by omega) (low _ hy (by decide))
          · rw [Lib.validD_cons _ _ (by decide)]; exact ih1
      · rw [carL_not a t h94, Lib.validD_cons _ _ ha]; exact car_valid n t (by omega) hv
    · have hl := congrArg List.length e
      simp only [List.length_cons] at hl hn
      rw [e, carL_high a _ (by have := ha.1; omega), carL_high b _ (by have := ha.2; omega), valid_2 _ _ _ ha]
      exact car_valid n t (by omega) hv
    · have hl := congrArg List.length e
      simp only [List.length_cons] at hl hn
      obtain ⟨h1, h2, h3⟩ := ha
      rw [e, carL_high a _ (by omega), carL_high b _ (by omega), carL_high c _ (by omega), valid_3 _ _ _ _ ⟨h1, h2, h3⟩]
      exact car_valid n t (by omega) hv
    · have hl := congrArg List.length e
      simp only [List.length_cons] at hl hn
      obtain ⟨h1, h2, h3⟩ := ha
      rw [e, carL_high a _ (by omega), carL_high b _ (by omega), carL_high c _ (by omega), carL_high d _ (by omega), valid_4 _ _ _ _ _ ⟨h1, h2, h3⟩]
      exact car_valid n t (by omega) hv
theorem okB_mono (c : UInt8) (h : okB false c = true) : okB true c = true := by
  unfold okB at h ⊢
  revert h
  cases c == 127 <;> cases decide (c.toNat < 32) <;> cases c != 9 <;> cases c == 10 <;> simp
theorem car_ok : ∀ (n : Nat) (l : List UInt8), l.length ≤ n → l.all (okB false) = true → (carL l).all (okB true) = true
  | _, [], _, _ => rfl
  | 0, a :: t, hn, _ => by simp at hn
  | n + 1, a :: t, hn, h => by
    rw [List.all_cons, Bool.and_eq_true] at h
    simp only [List.length_cons] at hn
    by_cases h94 : a = 94
    · subst h94
      cases t with
      | nil => rfl
      | cons y u =>
        have ih1 := car_ok n (y :: u) (by omega) h.2
        have hu : u.all (okB false) = true := by have := h.2; rw [List.all_cons, Bool.and_eq_true] at this; exact this.2
        simp only [List.length_cons] at hn
        have ih2 := car_ok n u (by omega) hu
        rw [carL_94]
        split
        · rw [List.all_cons, ih2]; rfl
        split
        · rw [List.all_cons, ih2]; rfl
        split
        · rw [List.all_cons, ih2]; rfl
        · rw [List.all_cons, ih1]; rfl
    · rw [carL_not a t h94, List.all_cons, okB_mono a h.1, car_ok n t (by omega) h.2]; rfl
theorem car_len : ∀ (n : Nat) (l : List UInt8), l.length ≤ n → (carL l).length ≤ l.length
  | _, [], _ => Nat.le_refl _
  | 0, a :: t, hn => by simp at hn
  | n + 1, a :: t, hn => by
    simp only [List.length_cons] at hn
    by_cases h94 : a = 94
    · subst h94
      cases t with
      | nil => exact Nat.le_refl _
      | cons y u =>
        simp only [List.length_cons] at hn
        have ih1 := car_len n (y :: u) (by simp; omega)
        have ih2 := car_len n u (by omega)
        simp only [List.length_cons] at ih1
        rw [carL_94]
        split
        · simp only [List.length_cons]; omega
        split
        · simp only [List.length_cons]; omega
        split
        · simp only [List.length_cons]; omega
        · simp only [List.length_cons]; omega
    · have := car_len n t (by omega)
      rw [carL_not a t h94]; simp only [List.length_cons]; omega
theorem valid_cut : ∀ (n : Nat) (l : List UInt8), l.length ≤ n → Lib.validD (l ++ [34]) = true → Lib.validD l = true
  | _, [], _, _ => rfl
  | 0, a :: t, hn, _ => by simp at hn
  | n + 1, x :: l, hn, h => by
    simp only [List.length_cons] at hn
    rcases valid_head (x :: l ++ [34]) (by simp) h with ⟨a, t, e, ha, hv⟩ | ⟨a, b, t, e, ha, hv⟩ | ⟨a, b, c, t, e, ha, hv⟩ | ⟨a, b, c, d, t, e, ha, hv⟩
    · obtain ⟨rfl, rfl⟩ : x = a ∧ l ++ [34] = t := by simpa using e
      rw [Lib.validD_cons _ _ ha]
      exact valid_cut n l (by omega) hv
    · obtain ⟨rfl, e2⟩ : x = a ∧ l ++ [34] = b :: t := by simpa using e
      rcases l with _ | ⟨y, u⟩
      · obtain ⟨rfl, _⟩ : 34 = b ∧ [] = t := by simpa using e2
        exact absurd ha.2.1 (by decide)
      · obtain ⟨rfl, rfl⟩ : y = b ∧ u ++ [34] = t := by simpa using e2
        rw [valid_2 _ _ _ ha]
        exact valid_cut n u (by simp only [List.length_cons] at hn; omega) hv
    · obtain ⟨rfl, e2⟩ : x = a ∧ l ++ [34] = b :: c :: t := by simpa using e
      rcases l with _ | ⟨y, _ | ⟨z, u⟩⟩
      · simp at e2
      · obtain ⟨rfl, rfl, _⟩ : y = b ∧ 34 = c ∧ [] = t := by simpa using e2
        exact absurd ha.2.1.2.1 (by decide)
      · obtain ⟨rfl, rfl, rfl⟩ : y = b ∧ z = c ∧ u ++ [34] = t := by simpa using e2
        rw [valid_3 _ _ _ _ ha]
        exact valid_cut n u (by simp only [List.length_cons] at hn; omega) hv
    · obtain ⟨rfl, e2⟩ : x = a ∧ l ++ [34] = b :: c :: d :: t := by simpa using e
      rcases l with _ | ⟨y, _ | ⟨z, _ | ⟨q, u⟩⟩⟩
      · simp at e2
      · simp at e2
      · obtain ⟨rfl, rfl, rfl, _⟩ : y = b ∧ z = c ∧ 34 = d ∧ [] = t := by simpa using e2
        exact absurd ha.2.1.2.2.1 (by decide)
      · obtain ⟨rfl, rfl, rfl, rfl⟩ : y = b ∧ z = c ∧ q = d ∧ u ++ [34] = t := by simpa using e2
        rw [valid_4 _ _ _ _ _ ha]
        exact valid_cut n u (by simp only [List.length_cons] at hn; omega) hv
theorem clean_false {l : List UInt8} (h : cleanR false l = 0) : Lib.validD l = true ∧ l.all (okB false) = true := by
  unfold cleanR at h
  by_cases h1 : Lib.validD l = true
  · rw [if_pos h1] at h
    by_cases h2 : l.all (okB false) = true
    · exact ⟨h1, h2⟩
    · rw [if_neg h2] at h; exact absurd h (by decide)
  · rw [if_neg h1] at h; exact absurd h (by decide)
theorem idx_last : ∀ (l : List UInt8), l ≠ [] → Lib.indexByte l 34 = ((l.length - 1 : Nat) : Int) → ∃ m, l = m ++ [34]
  | l, hne, h => by
    have h1 := (Lib.indexByte_some h).1
    have hl := List.length_pos_iff.2 hne
    refine ⟨l.take (l.length - 1), ?_⟩
    conv => lhs; rw [← List.take_append_drop (l.length - 1) l]
    rw [List.drop_eq_getElem_cons (by omega), List.drop_eq_nil_of_le (by omega)]
    rw [List.getElem?_eq_getElem (by omega)] at h1
    rw [Option.some.inj h1]
theorem valA_clean (s : ByteArray) (v : ByteArray) (h : valA s = (v, 0)) : cleanR true v.data.toList = 0 ∧ v.size ≤ s.size := by
  unfold valA at h
  by_cases hc : cleanR false s.data.toList = 0
  case neg => rw [if_neg hc] at h; exact absurd (congrArg Prod.snd h) hc
  rw [if_pos hc] at h
  obtain ⟨h1, h2⟩ := clean_false hc
  have fin : ∀ L : List UInt8, L.length ≤ s.size → Lib.validD L = true → L.all (okB false) = true → (⟨(carL L).toArray⟩ : ByteArray) = v → cleanR true v.data.toList = 0 ∧ v.size ≤ s.size := by
    rintro L hL hv ho rfl
    refine ⟨clean_of (car_valid L.length L (Nat.le_refl _) hv) (car_ok L.length L (Nat.le_refl _) ho), ?_⟩
    rw [ba_sizeB]
    have := car_len L.length L (Nat.le_refl _)
    omega
  unfold valB at h
  by_cases h34 : s.data.toList.getD 0 0 = 34
  · rw [if_pos h34] at h
    split at h
    · exact absurd (congrArg Prod.snd h) (show ¬ (7 : Int) = 0 by decide)
    · rename_i hs2
      split at h
      · rename_i hi
        refine fin _ ?_ ?_ ?_ (congrArg Prod.fst h)
        · rw [Array.length_toList]; show (s.extract 1 (s.size - 1)).size ≤ _; rw [ByteArray.size_extract]; omega
        all_goals
          have hd : s.data.toList = 34 :: s.data.toList.drop 1 := by
            have := drop_at s 0 (by omega)
            rw [List.drop_zero, h34] at this
            exact this
          have hlen : (s.data.toList.drop 1).length = s.size - 1 := by rw [List.length_drop, Array.length_toList]; rfl
          have hx : (s.extract 1 (s.size - 1)).data.toList = (s.data.toList.drop 1).take (s.size - 2) := by
            rw [ByteArray.data_extract, Array.toList_extract, List.extract_eq_take_drop]; congr 1
          obtain ⟨m, hm⟩ := idx_last (s.data.toList.drop 1) (by intro e; rw [e] at hlen; simp at hlen; omega) (by rw [hi, hlen]; congr 1)
          have hml : m.length = s.size - 2 := by have := congrArg List.length hm; rw [hlen, List.length_append, List.length_singleton] at this; omega
          have hx2 : (s.extract 1 (s.size - 1)).data.toList = m := by rw [hx, hm, ← hml, List.take_left']; rfl
          rw [hx2]
          rw [hm] at hd
        · rw [hd, Lib.validD_cons _ _ (by decide)] at h1
          exact valid_cut m.length m (Nat.le_refl _) h1
        · rw [hd, List.all_cons, List.all_append, Bool.and_eq_true, Bool.and_eq_true] at h2
          exact h2.2.1
      · exact absurd (congrArg Prod.snd h) (show ¬ (7 : Int) = 0 by decide)
  · rw [if_neg h34] at h
    unfold openR at h
    split at h
    · exact absurd (congrArg Prod.snd h) (show ¬ (7 : Int) = 0 by decide)
    · exact fin _ (by rw [Array.length_toList]; exact Nat.le_refl _) h1 h2 (congrArg Prod.fst h)
end Go.Proofs.YtknmbalhbecdhaaGreatDoor.Pure
end
section
set_option linter.unusedVariables false
set_option linter.unusedSimpArgs false
set_option linter.unusedSectionVars false
namespace Go.Proofs.YtknmbalhbecdhaaGreatDoor.Pure
open Go.RowKit Go.Proofs.YtknmbalhbecdhaaGreatDoor.Print Go.Proofs.YtknmbalhbecdhaaGreatDoorW.PrintWords Go.Proofs.YtknmbalhbecdhaaGreatDoorW.PrintLast Go.Proofs.YtknmbalhbecdhaaGreatDoorW.PrintMore
theorem szF {s : ByteArray} {L : List UInt8} (h : s.data.toList = L) : s.size = L.length := by rw [← h, Array.length_toList]; rfl
theorem ba_ext {a b : ByteArray} (h : a.data.toList = b.data.toList) : a = b := by rw [← ba_backB a, ← ba_backB b, h]
theorem extF (s : ByteArray) (p q : Nat) : (s.extract p (p + q)).data.toList = (s.data.toList.drop p).take q := by
  rw [ByteArray.data_extract, Array.toList_extract, List.extract_eq_take_drop, Nat.add_sub_cancel_left]
theorem peekF (s : ByteArray) (A R : List UInt8) (c : UInt8) (h : s.data.toList = A ++ c :: R) : line_reader_peek.f s (A.length : Int) 0 = some ((c.toNat : Int), s, (A.length : Int), 0) := by
  have hz := szF h
  rw [List.length_append, List.length_cons] at hz
  have hb := bt_nat s A.length
  have e : s.data.toList.getD A.length 0 = c := by rw [h]; simp
  rw [e] at hb
  unfold line_reader_peek.f
  rw [if_pos rfl, if_neg (by omega), if_pos (by omega), if_pos (by omega), hb]
theorem nameF (s nm : ByteArray) (A R : List UInt8) (c : UInt8) (h : s.data.toList = A ++ (nm.data.toList ++ c :: R)) (hn : nameR nm = true) (hc : signS c = false) (hs : s.size ≤ 2000) : line_reader_name.f s (A.length : Int) 0 = some (nm, s, ((A.length + nm.size : Nat) : Int), 0) := by
  obtain ⟨h1, h2, h3⟩ := nameR_of hn
  have hz := szF h
  have e2 : nm.data.toList.length = nm.size := by simp
  simp only [List.length_append, List.length_cons] at hz
  have e : s.data.toList.drop A.length = nm.data.toList ++ c :: R := by rw [h, List.drop_left' rfl]
  have hne : nameEnd (nm.data.toList ++ c :: R) 60 = nm.size := by rw [nameEnd_of _ c R 60 h1 (by omega) hc, e2]
  have hx : s.extract A.length (A.length + nm.size) = nm := by
    apply ba_ext
    rw [extF, e, List.take_left' e2]
  unfold line_reader_name.f
  rw [if_pos ⟨rfl, by omega, by omega, by omega⟩, Int.toNat_natCast, e, hne, if_neg (by omega), hx, great_of _ h1]
theorem valueF (s x : ByteArray) (A R : List UInt8) (c : UInt8) (h : s.data.toList = A ++ (parL x.data.toList ++ c :: R)) (hx : cleanR true x.data.toList = 0) (hc : plainV c = false) (hc2 : c ≠ 34) (hs : s.size ≤ 2000) :
    Ev (fun k => line_reader_value.f k s (A.length : Int) 0) (x, s, ((A.length + (parL x.data.toList).length : Nat) : Int), 0) := by
  have hz := szF h
  simp only [List.length_append, List.length_cons] at hz
  have e : s.data.toList.drop A.length = parL x.data.toList ++ c :: R := by rw [h, List.drop_left' rfl]
  have hv := valEnd_par x.data.toList c R hc hc2
  have hpd : (parW x).data.toList = parL x.data.toList := by simp [parW]
  have hex : s.extract A.length (A.length + (parL x.data.toList).length) = parW x := by
    apply ba_ext
    rw [extF, e, List.take_left' rfl, hpd]
  have hpz := szF hpd
  have h1 := esc_value (parW x) (by omega)
  rw [value_par x hx] at h1
  refine Ev.congr (f := fun k => (escape_Value.f k (parW x)).bind fun p => some (p.1, s, if p.2 = 0 then ((A.length + (parL x.data.toList).length : Nat) : Int) else (A.length : Int), if p.2 = 0 then 0 else 7)) (fun k => ?_) (Ev.bind h1 (Ev.now _))
  unfold line_reader_value.f
  rw [if_pos ⟨rfl, by omega, by omega, by omega⟩, Int.toNat_natCast, e, hv, ← hex]
theorem is44 (d : UInt8) (h : d ≠ 44) : (((d.toNat : Nat) : Int) == 44) = false := beq_eq_false_iff_ne.2 fun e => by
  have h1 : d.toNat = 44 := by omega
  exact h (UInt8.toNat_inj.1 h1)
/-- One value of a parameter. -/
theorem paramS (s nm v : ByteArray) (x5 : Int) (hs : s.size ≤ 2000) (acc : List ByteArray) (A R : List UInt8) (b d : UInt8) (h : s.data.toList = A ++ (b :: (parL v.data.toList ++ d :: R))) (hv : cleanR true v.data.toList = 0) (hd : plainV d = false) (hd2 : d ≠ 34) (hl : acc.length < 60)
    {r : ByteArray × List ByteArray × ByteArray × Int × Int} (next : Ev (fun k => line_reader_param.l0 k x5 (((d.toNat : Nat) : Int) == 44) s ((A.length + (1 + (parL v.data.toList).length) : Nat) : Int) 0 nm (acc ++ [v])) r) :
    Ev (fun k => line_reader_param.l0 k x5 true s (A.length : Int) 0 nm acc) r := by
  have h2 : s.data.toList = (A ++ [b]) ++ (parL v.data.toList ++ d :: R) := by rw [h]; simp
  have h3 : s.data.toList = (A ++ b :: parL v.data.toList) ++ d :: R := by rw [h]; simp
  have hV := valueF s v (A ++ [b]) R d h2 hv hd hd2 hs
  have hP := peekF s _ R d h3
  have hz := szF h3
  have e1 : (A ++ [b]).length = A.length + 1 := by simp
  have e2 : (A ++ b :: parL v.data.toList).length = A.length + (1 + (parL v.data.toList).length) := by simp; omega
  rw [List.length_append, e2] at hz
  rw [e1, Nat.add_assoc] at hV
  rw [e2] at hP
  have hb : acc.length < 8796093022208 := by omega
  refine Ev.step (f := fun k => line_reader_param.j5 k x5 true s (A.length : Int) 0 nm acc) (fun k => by simp only [line_reader_param.l0]; rfl) ?_
  refine Ev.step (f := fun k => (line_reader_value.f k s ((A.length + 1 : Nat) : Int) 0).bind fun q => (line_reader_peek.f q.2.1 q.2.2.1 q.2.2.2).bind fun p => line_reader_param.l0 k x5 (p.1 == 44) p.2.1 p.2.2.1 p.2.2.2 nm (acc ++ [q.1])) (fun k => by
    simp only [line_reader_param.j5, if_pos hb]
    rw [if_pos trivial, if_neg (by omega), wrapS A.length s.size (by omega) (by omega)]) ?_
  refine Ev.bind hV ?_
  exact Ev.congr (fun k => by show Option.bind (line_reader_peek.f s ((A.length + (1 + (parL v.data.toList).length) : Nat) : Int) 0) _ = _; rw [hP]; rfl) next
theorem paramL (s nm : ByteArray) (x5 : Int) (hs : s.size ≤ 2000) (c : UInt8) (R : List UInt8) (hc : plainV c = false) (hc2 : c ≠ 34) (hc3 : c ≠ 44) :
    ∀ (l : List ByteArray) (v : ByteArray) (acc : List ByteArray) (A : List UInt8) (b : UInt8), s.data.toList = A ++ (valsT (v :: l) b ++ c :: R) → (∀ x ∈ v :: l, cleanR true x.data.toList = 0) → acc.length + (v :: l).length ≤ 60 →
    Ev (fun k => line_reader_param.l0 k x5 true s (A.length : Int) 0 nm acc) (nm, acc ++ v :: l, s, ((A.length + (valsT (v :: l) b).length : Nat) : Int), 0)
  | [], v, acc, A, b, h, hcl, hl => by
    have e : valsT [v] b = b :: parL v.data.toList := by simp [valsT]
    rw [e] at h ⊢
    refine paramS s nm v x5 hs acc A R b c (by rw [h]; simp) (hcl v (by simp)) hc hc2 (by simp at hl; omega) ?_
    rw [is44 c hc3]
    have e3 : (b :: parL v.data.toList).length = 1 + (parL v.data.toList).length := by simp; omega
    rw [e3]
    refine Ev.step (f := fun k => line_reader_param.j5 k x5 false s ((A.length + (1 + (parL v.data.toList).length) : Nat) : Int) 0 nm (acc ++ [v])) (fun k => by simp only [line_reader_param.l0]; rfl) ?_
    exact Ev.step (f := fun _ => some (nm, acc ++ [v], s, ((A.length + (1 + (parL v.data.toList).length) : Nat) : Int), 0)) (fun k => by simp only [line_reader_param.j5]; rfl) (Ev.now _)
  | y :: u, v, acc, A, b, h, hcl, hl => by
    have e : valsT (v :: y :: u) b = b :: (parL v.data.toList ++ 44 :: (parL y.data.toList ++ valsT u 44)) := by simp [valsT]
    have e4 : valsT (y :: u) 44 = 44 :: (parL y.data.toList ++ valsT u 44) := by simp [valsT]
    rw [e] at h ⊢
    refine paramS s nm v x5 hs acc A (parL y.data.toList ++ valsT u 44 ++ c :: R) b 44 (by rw [h]; simp) (hcl v (by simp)) (by decide) (by decide) (by simp at hl; omega) ?_
    have ih := paramL s nm x5 hs c R hc hc2 hc3 u y (acc ++ [v]) (A ++ b :: parL v.data.toList) 44 (by rw [h, e4]; simp) (fun x hx => hcl x (by simp at hx ⊢; exact .inr hx)) (by simp at hl ⊢; omega)
    have e2 : (A ++ b :: parL v.data.toList).length = A.length + (1 + (parL v.data.toList).length) := by simp; omega
    have e5 : A.length + (1 + (parL v.data.toList).length) + (valsT (y :: u) 44).length = A.length + (b :: (parL v.data.toList ++ 44 :: (parL y.data.toList ++ valsT u 44))).length := by rw [e4]; simp; omega
    rw [e2, e5, List.append_assoc] at ih
    exact ih
theorem paramF (s : ByteArray) (p : LP) (l : List LP) (A R : List UInt8) (c : UInt8) (h : s.data.toList = A ++ (p.f0.data.toList ++ (valsT p.f1 61 ++ c :: R))) (hp : parR p.f0 p.f1 = true) (hl : l.length < 60) (hn : l.any (hasN p.f0) = false) (hc : plainV c = false) (hc2 : c ≠ 34) (hc3 : c ≠ 44) (hs : s.size ≤ 2000) :
    Ev (fun k => line_reader_param.f k s (A.length : Int) 0 l) (p.f0, p.f1, s, ((A.length + (p.f0.size + (valsT p.f1 61).length) : Nat) : Int), 0) := by
  obtain ⟨h1, h2, h3, h4⟩ := parR_of hp
  obtain ⟨v, u, hvu⟩ : ∃ v u, p.f1 = v :: u := by
    cases hq : p.f1 with
    | nil => rw [hq] at h2; simp at h2
    | cons v u => exact ⟨v, u, rfl⟩
  have e2 : p.f0.data.toList.length = p.f0.size := by simp
  have ev : valsT p.f1 61 = 61 :: (parL v.data.toList ++ valsT u 44) := by rw [hvu]; simp [valsT]
  have hN := nameF s p.f0 A (parL v.data.toList ++ valsT u 44 ++ c :: R) 61 (by rw [h, ev]; simp) h1 sign_61 hs
  have hP := peekF s (A ++ p.f0.data.toList) (parL v.data.toList ++ valsT u 44 ++ c :: R) 61 (by rw [h, ev]; simp)
  have e3 : (A ++ p.f0.data.toList).length = A.length + p.f0.size := by rw [List.length_append, e2]
  rw [e3] at hP
  have hi := idxN_any p.f0 l 0
  rw [hn] at hi
  have hL := paramL s p.f0 (A.length : Int) hs c R hc hc2 hc3 u v [] (A ++ p.f0.data.toList) 61 (by rw [h, ← hvu]; simp) (by rw [← hvu]; exact h4) (by rw [← hvu]; simp; omega)
  rw [← hvu, e3, List.nil_append, Nat.add_assoc] at hL
  refine Ev.congr (f := fun k => line_reader_param.j0 k l (A.length : Int) false s ((A.length + p.f0.size : Nat) : Int) 0 p.f0) (fun k => ?_) ?_
  · unfold line_reader_param.f
    rw [hN, Option.bind_some, if_pos (show (0 : Int) = 0 from rfl), hP]; rfl
  refine Ev.step (f := fun k => line_reader_param.j1 k l (A.length : Int) s ((A.length + p.f0.size : Nat) : Int) 0 p.f0) (fun k => by simp only [line_reader_param.j0]; rfl) ?_
  refine Ev.step (f := fun k => line_reader_param.j2 k (A.length : Int) false s ((A.length + p.f0.size : Nat) : Int) 0 p.f0) (fun k => by simp only [line_reader_param.j1]; rw [if_pos trivial, if_neg (by omega)]; unfold line_at.f; rw [Option.bind_some, hi]) ?_
  refine Ev.step (f := fun k => line_reader_param.j3 k (A.length : Int) s ((A.length + p.f0.size : Nat) : Int) 0 p.f0) (fun k => by simp only [line_reader_param.j2]; rfl) ?_
  exact Ev.step (f := fun k => line_reader_param.l0 k (A.length : Int) true s ((A.length + p.f0.size : Nat) : Int) 0 p.f0 []) (fun k => by simp only [line_reader_param.j3]) hL
theorem parseL (s : ByteArray) (R : List UInt8) (hs : s.size ≤ 2000) : ∀ (l acc : List LP) (A : List UInt8), s.data.toList = A ++ (parsT l ++ 58 :: R) → okPs acc l = true → acc.length + l.length ≤ 60 →
    Ev (fun k => line_Parse.l0 k s (A.length : Int) 0 acc) (acc ++ l, s, ((A.length + (parsT l).length : Nat) : Int), 0)
  | [], acc, A, h, hok, hl => by
    have hP := peekF s A R 58 (by rw [h]; rfl)
    refine Ev.step (f := fun _ => some (acc ++ [], s, ((A.length + (parsT []).length : Nat) : Int), 0)) (fun k => ?_) (Ev.now _)
    simp only [line_Parse.l0]
    rw [hP, List.append_nil]; rfl
  | p :: t, acc, A, h, hok, hl => by
    rw [okPs, Bool.and_eq_true, Bool.and_eq_true] at hok
    obtain ⟨h1, h2, h3⟩ := hok
    have h2 : acc.any (hasN p.f0) = false := by simpa using h2
    simp only [List.length_cons] at hl
    have e2 : p.f0.data.toList.length = p.f0.size := by simp
    have ep : parsT (p :: t) = 59 :: (p.f0.data.toList ++ (valsT p.f1 61 ++ parsT t)) := by rw [parsT]; simp
    rw [ep] at h ⊢
    have hz := szF h
    simp only [List.length_append, List.length_cons] at hz
    have hP := peekF s A (p.f0.data.toList ++ (valsT p.f1 61 ++ parsT t) ++ 58 :: R) 59 (by rw [h]; simp)
    obtain ⟨d, R', hd, hd1, hd2, hd3⟩ : ∃ d R', parsT t ++ 58 :: R = d :: R' ∧ plainV d = false ∧ d ≠ 34 ∧ d ≠ 44 := by
      cases t with
      | nil => exact ⟨58, R, rfl, by decide, by decide, by decide⟩
      | cons y u => exact ⟨59, _, by rw [parsT]; rfl, by decide, by decide, by decide⟩
    have hF := paramF s p acc (A ++ [59]) R' d (by rw [h, ← hd]; simp) h1 (by omega) h2 hd1 hd2 hd3 hs
    have e1 : (A ++ [59]).length = A.length + 1 := by simp
    rw [e1] at hF
    have ih := parseL s R hs t (acc ++ [p]) (A ++ 59 :: (p.f0.data.toList ++ valsT p.f1 61)) (by rw [h]; simp) h3 (by simp; omega)
    have e3 : (A ++ 59 :: (p.f0.data.toList ++ valsT p.f1 61)).length = A.length + 1 + (p.f0.size + (valsT p.f1 61).length) := by simp; omega
    have e4 : A.length + 1 + (p.f0.size + (valsT p.f1 61).length) + (parsT t).length = A.length + (59 :: (p.f0.data.toList ++ (valsT p.f1 61 ++ parsT t))).length := by simp; omega
    rw [e3, e4, List.append_assoc] at ih
    refine Ev.step (f := fun k => (line_reader_param.f k s ((A.length + 1 : Nat) : Int) 0 acc).bind fun q => line_Parse.l0 k q.2.2.1 q.2.2.2.1 q.2.2.2.2 (acc ++ [⟨q.1, q.2.1⟩])) (fun k => ?_) (Ev.bind hF ih)
    simp only [line_Parse.l0]
    rw [hP, Option.bind_some, if_pos (show (((59 : UInt8).toNat : Nat) : Int) = 59 from rfl), if_pos ⟨by omega, by omega⟩]; rfl
theorem parse_line (nm v : ByteArray) (l : List LP) (hf : formR nm l v = true) (hlen : (lineT nm l v).length ≤ 2000) : Ev (fun k => line_Parse.f k ⟨(lineT nm l v).toArray⟩) (nm, l, v, 0, 0) := by
  obtain ⟨h1, h2, h3, h4⟩ := formR_of hf
  have hv := line_valid hf
  obtain ⟨s, hs⟩ : ∃ s : ByteArray, s = ⟨(lineT nm l v).toArray⟩ := ⟨_, rfl⟩
  have hd : s.data.toList = lineT nm l v := by rw [hs]
  rw [← hs]
  clear hs
  have hz := szF hd
  rw [← hd] at hv
  unfold lineT at hd
  obtain ⟨c, R, hc, hc1⟩ : ∃ c R, parsT l ++ 58 :: v.data.toList = c :: R ∧ signS c = false := by
    cases l with
    | nil => exact ⟨58, _, rfl, sign_58⟩
    | cons y u => exact ⟨59, _, by rw [parsT]; rfl, sign_59⟩
  have e2 : nm.data.toList.length = nm.size := by simp
  have hN := nameF s nm [] R c (by rw [hd, List.append_assoc, hc]; rfl) h1 hc1 (by omega)
  have hL := parseL s v.data.toList (by omega) l [] nm.data.toList (by rw [hd, List.append_assoc]) h4 (by simpa using h2)
  rw [List.nil_append, e2] at hL
  have hP := peekF s (nm.data.toList ++ parsT l) v.data.toList 58 hd
  have hz2 := szF hd
  have e3 : (nm.data.toList ++ parsT l).length = nm.size + (parsT l).length := by rw [List.length_append, e2]
  rw [e3] at hP
  rw [List.length_append, e3, List.length_cons] at hz2
  have hx : s.extract (nm.size + (parsT l).length + 1) s.size = v := by
    apply ba_ext
    have e4 : s.size = nm.size + (parsT l).length + 1 + v.data.toList.length := by omega
    rw [e4, extF, hd]
    have e5 : (nm.data.toList ++ parsT l ++ 58 :: v.data.toList).drop (nm.size + (parsT l).length + 1) = v.data.toList := by
      rw [← e3]
      have : nm.data.toList ++ parsT l ++ 58 :: v.data.toList = (nm.data.toList ++ parsT l ++ [58]) ++ v.data.toList := by simp
      rw [this, List.drop_left' (by simp; omega)]
    rw [e5, List.take_of_length_le (Nat.le_refl _)]
  have hvs : v.size ≤ 2000 := by have : v.data.toList.length = v.size := by simp
                                 omega
  refine Ev.congr (f := fun k => (line_Parse.l0 k s ((nm.size : Nat) : Int) 0 []).bind fun q => line_Parse.g k s nm q.1 q.2.1 q.2.2.1 q.2.2.2) (fun k => ?_) (Ev.bind hL ?_)
  · unfold line_Parse.f utf8_ValidString.f
    rw [if_neg (by omega), if_pos (by omega), Option.bind_some, if_pos hv]
    have hN' : line_reader_name.f s 0 0 = some (nm, s, ((nm.size : Nat) : Int), 0) := by simpa using hN
    rw [hN']; rfl
  · refine Ev.congr (f := fun k => (escape_Clean.f k v false).bind fun z => if z = 0 then some (nm, l, v, 0, 0) else some (noLine (((nm.size + (parsT l).length : Nat) : Int) + 1) 7)) (fun k => ?_) ?_
    · show line_Parse.g k s nm l s ((nm.size + (parsT l).length : Nat) : Int) 0 = _
      unfold line_Parse.g
      rw [if_pos rfl, hP, Option.bind_some, if_pos (show (((58 : UInt8).toNat : Nat) : Int) = 58 from rfl), if_pos ⟨by omega, by omega⟩, Int.toNat_natCast, hx]
    · refine Ev.bind (escClean v false (by omega)) ?_
      rw [h3]; exact Ev.now _
theorem nameEnd_all (l : List UInt8) (n : Nat) : (l.take (nameEnd l n)).all signS = true := by
  have h1 : (l.take n).takeWhile signS <+: l := (List.takeWhile_prefix _).trans (List.take_prefix _ _)
  have h2 := List.prefix_iff_eq_take.1 h1
  have h3 : nameEnd l n = ((l.take n).takeWhile signS).length := rfl
  rw [h3, ← h2]
  exact List.all_takeWhile
theorem great_all : ∀ l : List UInt8, l.all signS = true → (l.map greatB).all upB = true
  | [], _ => rfl
  | x :: t, h => by
    rw [List.all_cons, Bool.and_eq_true] at h
    rw [List.map_cons, List.all_cons, sign_great x h.1, great_all t h.2]; rfl
theorem nameAny (s : ByteArray) (a : Nat) (ha : a ≤ s.size) (hs : s.size ≤ 2000) : ∃ (nm : ByteArray) (a' : Nat) (fl : Int), line_reader_name.f s (a : Int) 0 = some (nm, s, (a' : Int), fl) ∧ a' ≤ s.size ∧ (fl = 0 → nameR nm = true) := by
  have hle := nameEnd_le (s.data.toList.drop a) 60
  have hall := nameEnd_all (s.data.toList.drop a) 60
  have hdl : (s.data.toList.drop a).length = s.size - a := by simp
  unfold line_reader_name.f
  rw [if_pos ⟨rfl, by omega, by omega, by omega⟩, Int.toNat_natCast]
  generalize nameEnd (s.data.toList.drop a) 60 = n at *
  by_cases h0 : n = 0
  · rw [if_pos h0]; exact ⟨_, a, 5, rfl, ha, fun h => absurd h (by decide)⟩
  · rw [if_neg h0]
    refine ⟨_, a + n, 0, rfl, by omega, fun _ => ?_⟩
    have hd : (greatS (s.extract a (a + n))).data.toList = ((s.data.toList.drop a).take n).map greatB := by
      unfold greatS; simp only [extF]
    have hz := szF hd
    rw [List.length_map, List.length_take] at hz
    exact nameR_mk (by rw [hd]; exact great_all _ hall) (by omega) (by omega)
theorem peekAny (s : ByteArray) (a : Nat) (fl : Int) (ha : a ≤ s.size) : ∃ c : Int, line_reader_peek.f s (a : Int) fl = some (c, s, (a : Int), fl) ∧ (c ≠ 0 → fl = 0 ∧ a < s.size) := by
  unfold line_reader_peek.f
  by_cases h0 : fl = 0
  · rw [if_pos h0]
    by_cases h1 : (a : Int) ≥ (s.size : Int)
    · rw [if_pos h1]; exact ⟨0, by rw [h0], fun h => absurd rfl h⟩
    · rw [if_neg h1, if_pos (by omega), if_pos (by omega)]; exact ⟨_, by rw [h0], fun _ => ⟨h0, by omega⟩⟩
  · rw [if_neg h0]; exact ⟨0, rfl, fun h => absurd rfl h⟩
theorem valEnd_le (l : List UInt8) (n : Nat) (h : valEnd l = some n) : n ≤ l.length := by
  unfold valEnd at h
  split at h
  · rename_i h34
    split at h
    · cases h
    · rename_i h1
      obtain rfl := Option.some.inj h
      have := idx_lt (l.drop 1) 34 (by omega)
      rw [List.length_drop] at this
      omega
  · obtain rfl := Option.some.inj h
    exact (List.takeWhile_sublist _).length_le
theorem valueAny (s : ByteArray) (a : Nat) (ha : a ≤ s.size) (hs : s.size ≤ 2000) : ∃ (v : ByteArray) (a' : Nat) (fl : Int), Ev (fun k => line_reader_value.f k s (a : Int) 0) (v, s, (a' : Int), fl) ∧ a' ≤ s.size ∧ (fl = 0 → cleanR true v.data.toList = 0 ∧ v.size ≤ 2000) := by
  have hdl : (s.data.toList.drop a).length = s.size - a := by simp
  cases hv : valEnd (s.data.toList.drop a) with
  | none =>
    refine ⟨⟨#[]⟩, s.size, 5, Ev.congr (f := fun _ => some (⟨#[]⟩, s, (s.size : Int), 5)) (fun k => ?_) (Ev.now _), Nat.le_refl _, fun h => absurd h (by decide)⟩
    unfold line_reader_value.f
    rw [if_pos ⟨rfl, by omega, by omega, by omega⟩, Int.toNat_natCast, hv]
  | some n =>
    have hn := valEnd_le _ _ hv
    have hz : (s.extract a (a + n)).size ≤ 2000 := by rw [ByteArray.size_extract]; omega
    have h1 := esc_value (s.extract a (a + n)) (by omega)
    refine ⟨(valA (s.extract a (a + n))).1, if (valA (s.extract a (a + n))).2 = 0 then a + n else a, if (valA (s.extract a (a + n))).2 = 0 then 0 else 7, ?_, by split <;> omega, fun h => ?_⟩
    · refine Ev.congr (f := fun k => (escape_Value.f k (s.extract a (a + n))).bind fun p => some (p.1, s, if p.2 = 0 then ((a + n : Nat) : Int) else (a : Int), if p.2 = 0 then 0 else 7)) (fun k => ?_) (Ev.bind h1 ?_)
      · unfold line_reader_value.f
        rw [if_pos ⟨rfl, by omega, by omega, by omega⟩, Int.toNat_natCast, hv]
      · have e : (if (valA (s.extract a (a + n))).2 = 0 then ((a + n : Nat) : Int) else (a : Int)) = ((if (valA (s.extract a (a + n))).2 = 0 then a + n else a : Nat) : Int) := by split <;> rfl
        rw [e]; exact Ev.now _
    · have h2 : (valA (s.extract a (a + n))).2 = 0 := by
        by_cases h3 : (valA (s.extract a (a + n))).2 = 0
        · exact h3
        · rw [if_neg h3] at h; exact absurd h (by decide)
      have := valA_clean (s.extract a (a + n)) _ (by rw [← h2])
      exact ⟨this.1, by omega⟩
def GoodV (v : ByteArray) : Prop := cleanR true v.data.toList = 0 ∧ v.size ≤ 2000
theorem wrongF (s : ByteArray) (a e b : Int) : line_reader_wrong.f s a 0 e b = some (s, b, e) := by unfold line_reader_wrong.f; rw [if_pos rfl]
theorem paramLAny (s nm : ByteArray) (b : Nat) (hb : b ≤ s.size) (hs : s.size ≤ 2000) : ∀ (n : Nat) (acc : List ByteArray) (a : Nat), acc.length + n = 60 → a < s.size → (∀ v ∈ acc, GoodV v) →
    ∃ (l : List ByteArray) (a' : Nat) (fl : Int), Ev (fun k => line_reader_param.l0 k (b : Int) true s (a : Int) 0 nm acc) (nm, l, s, (a' : Int), fl) ∧ a' ≤ s.size ∧ (fl = 0 → 1 ≤ l.length ∧ l.length ≤ 60 ∧ ∀ v ∈ l, GoodV v)
  | 0, acc, a, hn, ha, hg => by
    refine ⟨acc, b, 9, ?_, hb, fun h => absurd h (by decide)⟩
    refine Ev.step (f := fun k => line_reader_param.j5 k (b : Int) true s (a : Int) 0 nm acc) (fun k => by simp only [line_reader_param.l0]; rfl) ?_
    refine Ev.step (f := fun _ => some (nm, acc, s, (b : Int), 9)) (fun k => ?_) (Ev.now _)
    simp only [line_reader_param.j5]
    rw [if_pos trivial, if_pos (by omega), wrongF]; rfl
  | n + 1, acc, a, hn, ha, hg => by
    obtain ⟨v, a2, fl2, hV, ha2, hg2⟩ := valueAny s (a + 1) (by omega) hs
    obtain ⟨c, hP, hc⟩ := peekAny s a2 fl2 ha2
    have hlb : acc.length < 8796093022208 := by omega
    have fin : ∀ {r : ByteArray × List ByteArray × ByteArray × Int × Int}, Ev (fun k => line_reader_param.l0 k (b : Int) (c == 44) s (a2 : Int) fl2 nm (acc ++ [v])) r → Ev (fun k => line_reader_param.l0 k (b : Int) true s (a : Int) 0 nm acc) r := fun next => by
      refine Ev.step (f := fun k => line_reader_param.j5 k (b : Int) true s (a : Int) 0 nm acc) (fun k => by simp only [line_reader_param.l0]; rfl) ?_
      refine Ev.step (f := fun k => (line_reader_value.f k s ((a + 1 : Nat) : Int) 0).bind fun q => (line_reader_peek.f q.2.1 q.2.2.1 q.2.2.2).bind fun p => line_reader_param.l0 k (b : Int) (p.1 == 44) p.2.1 p.2.2.1 p.2.2.2 nm (acc ++ [q.1])) (fun k => by
        simp only [line_reader_param.j5, if_pos hlb]
        rw [if_pos trivial, if_neg (by omega), wrapS a s.size (by omega) (by omega)]) ?_
      refine Ev.bind hV ?_
      exact Ev.congr (fun k => by show Option.bind (line_reader_peek.f s (a2 : Int) fl2) _ = _; rw [hP]; rfl) next
    by_cases h44 : c = 44
    · have h5 := hc (by rw [h44]; decide)
      have hv := hg2 h5.1
      obtain ⟨l, a3, fl3, hL, ha3, hg3⟩ := paramLAny s nm b hb hs n (acc ++ [v]) a2 (by simp; omega) h5.2 (fun x hx => by
        rcases List.mem_append.1 hx with h | h
        · exact hg x h
        · rw [List.mem_singleton.1 h]; exact hv)
      refine ⟨l, a3, fl3, fin ?_, ha3, hg3⟩
      rw [beq_iff_eq.2 h44, h5.1]; exact hL
    · refine ⟨acc ++ [v], a2, fl2, fin ?_, ha2, fun h => ⟨by simp, by simp; omega, fun x hx => by
        rcases List.mem_append.1 hx with h9 | h9
        · exact hg x h9
        · rw [List.mem_singleton.1 h9]; exact hg2 h⟩⟩
      rw [beq_eq_false_iff_ne.2 h44]
      refine Ev.step (f := fun k => line_reader_param.j5 k (b : Int) false s (a2 : Int) fl2 nm (acc ++ [v])) (fun k => by simp only [line_reader_param.l0]; rfl) ?_
      exact Ev.step (f := fun _ => some (nm, acc ++ [v], s, (a2 : Int), fl2)) (fun k => by simp only [line_reader_param.j5]; rfl) (Ev.now _)
theorem param_stop (s nm : ByteArray) (b a : Int) (fl : Int) (h : fl ≠ 0) : Ev (fun k => line_reader_param.j3 k b s a fl nm) (nm, [], s, a, fl) := by
  refine Ev.step (f := fun k => line_reader_param.l0 k b true s a fl nm []) (fun k => by simp only [line_reader_param.j3]) ?_
  refine Ev.step (f := fun k => line_reader_param.j5 k b false s a fl nm []) (fun k => by simp only [line_reader_param.l0]; rw [if_pos trivial, beq_eq_false_iff_ne.2 h]) ?_
  exact Ev.step (f := fun _ => some (nm, [], s, a, fl)) (fun k => by simp only [line_reader_param.j5]; rfl) (Ev.now _)
theorem paramAny (s : ByteArray) (l : List LP) (a : Nat) (ha : a ≤ s.size) (hs : s.size ≤ 2000) : ∃ (nm : ByteArray) (vs : List ByteArray) (a' : Nat) (fl : Int), Ev (fun k => line_reader_param.f k s (a : Int) 0 l) (nm, vs, s, (a' : Int), fl) ∧ a' ≤ s.size ∧
    (fl = 0 → nameR nm = true ∧ l.length ≠ 60 ∧ l.any (hasN nm) = false ∧ 1 ≤ vs.length ∧ vs.length ≤ 60 ∧ ∀ v ∈ vs, GoodV v) := by
  obtain ⟨nm, a1, fl1, hN, ha1, hn1⟩ := nameAny s a ha hs
  by_cases h0 : fl1 = 0
  case neg =>
    refine ⟨nm, [], a1, fl1, ?_, ha1, fun h => absurd h h0⟩
    refine Ev.congr (f := fun k => line_reader_param.j0 k l (a : Int) false s (a1 : Int) fl1 nm) (fun k => by
      unfold line_reader_param.f
      rw [hN]
      show (if fl1 = 0 then _ else _) = _
      rw [if_neg h0]) ?_
    refine Ev.step (f := fun k => line_reader_param.j1 k l (a : Int) s (a1 : Int) fl1 nm) (fun k => by simp only [line_reader_param.j0]; rfl) ?_
    refine Ev.step (f := fun k => line_reader_param.j2 k (a : Int) false s (a1 : Int) fl1 nm) (fun k => by simp only [line_reader_param.j1]; rw [if_neg h0]) ?_
    exact Ev.step (fun k => by simp only [line_reader_param.j2]; rfl) (param_stop s nm _ _ fl1 h0)
  obtain ⟨c, hP, hc⟩ := peekAny s a1 fl1 ha1
  have first : ∀ {r : ByteArray × List ByteArray × ByteArray × Int × Int}, Ev (fun k => line_reader_param.j0 k l (a : Int) (c != 61) s (a1 : Int) fl1 nm) r → Ev (fun k => line_reader_param.f k s (a : Int) 0 l) r := fun h => Ev.congr (fun k => by
      unfold line_reader_param.f
      rw [hN]
      show (if fl1 = 0 then (line_reader_peek.f s (a1 : Int) fl1).bind _ else _) = _
      rw [if_pos h0, hP]; rfl) h
  subst h0
  by_cases h61 : c = 61
  case neg =>
    refine ⟨nm, [], a1, 5, first ?_, ha1, fun h => absurd h (by decide)⟩
    have e : (c != 61) = true := by simpa using h61
    rw [e]
    refine Ev.step (f := fun k => line_reader_param.j1 k l (a : Int) s (a1 : Int) 5 nm) (fun k => by simp only [line_reader_param.j0]; rw [if_pos trivial, wrongF]; rfl) ?_
    refine Ev.step (f := fun k => line_reader_param.j2 k (a : Int) false s (a1 : Int) 5 nm) (fun k => by simp only [line_reader_param.j1]; rw [if_neg (by decide)]) ?_
    exact Ev.step (fun k => by simp only [line_reader_param.j2]; rfl) (param_stop s nm _ _ 5 (by decide))
  have e : (c != 61) = false := by simpa using h61
  have hlt := (hc (by rw [h61]; decide)).2
  have hi := idxN_any nm l 0
  by_cases hm : l.length = 60 ∨ l.any (hasN nm) = true
  · refine ⟨nm, [], a, 9, first ?_, ha, fun h => absurd h (by decide)⟩
    rw [e]
    refine Ev.step (f := fun k => line_reader_param.j1 k l (a : Int) s (a1 : Int) 0 nm) (fun k => by simp only [line_reader_param.j0]; rfl) ?_
    refine Ev.step (f := fun k => line_reader_param.j2 k (a : Int) true s (a1 : Int) 0 nm) (fun k => by
      simp only [line_reader_param.j1]; rw [if_pos trivial]
      by_cases h60 : l.length = 60
      · rw [if_pos (by omega)]
      · rw [if_neg (by omega)]; unfold line_at.f; rw [Option.bind_some, hi, hm.resolve_left h60]) ?_
    refine Ev.step (f := fun k => line_reader_param.j3 k (a : Int) s (a : Int) 9 nm) (fun k => by simp only [line_reader_param.j2]; rw [if_pos trivial, wrongF]; rfl) ?_
    exact param_stop s nm _ _ 9 (by decide)
  · have h60 : l.length ≠ 60 := fun h => hm (.inl h)
    have han : l.any (hasN nm) = false := by
      cases hq : l.any (hasN nm) with
      | false => rfl
      | true => exact absurd (.inr hq) hm
    obtain ⟨vs, a3, fl3, hL, ha3, hg3⟩ := paramLAny s nm a ha hs 60 [] a1 (by simp) hlt (fun v hv => by simp at hv)
    refine ⟨nm, vs, a3, fl3, first ?_, ha3, fun h => ⟨hn1 rfl, h60, han, hg3 h⟩⟩
    rw [e]
    refine Ev.step (f := fun k => line_reader_param.j1 k l (a : Int) s (a1 : Int) 0 nm) (fun k => by simp only [line_reader_param.j0]; rfl) ?_
    refine Ev.step (f := fun k => line_reader_param.j2 k (a : Int) false s (a1 : Int) 0 nm) (fun k => by simp only [line_reader_param.j1]; rw [if_pos trivial, if_neg (by omega)]; unfold line_at.f; rw [Option.bind_some, hi, han]) ?_
    refine Ev.step (f := fun k => line_reader_param.j3 k (a : Int) s (a1 : Int) 0 nm) (fun k => by simp only [line_reader_param.j2]; rfl) ?_
    exact Ev.step (f := fun k => line_reader_param.l0 k (a : Int) true s (a1 : Int) 0 nm []) (fun k => by simp only [line_reader_param.j3]) hL
def GoodP (p : LP) : Prop := parR p.f0 p.f1 = true ∧ ∀ v ∈ p.f1, v.size ≤ 2000
theorem okPs_snoc : ∀ (l seen : List LP) (p : LP), okPs seen l = true → parR p.f0 p.f1 = true → (seen ++ l).any (hasN p.f0) = false → okPs seen (l ++ [p]) = true
  | [], seen, p, _, hp, hn => by
    rw [List.append_nil] at hn
    show (parR p.f0 p.f1 && (!seen.any (hasN p.f0) && true)) = true
    rw [hp, hn]; rfl
  | q :: t, seen, p, h, hp, hn => by
    rw [okPs, Bool.and_eq_true, Bool.and_eq_true] at h
    rw [List.cons_append, okPs, h.1, h.2.1, okPs_snoc t (seen ++ [q]) p h.2.2 hp (by rw [List.append_assoc]; exact hn)]; rfl
theorem parR_mk {nm : ByteArray} {l : List ByteArray} (h1 : nameR nm = true) (h2 : 1 ≤ l.length) (h3 : l.length ≤ 60) (h4 : ∀ x ∈ l, cleanR true x.data.toList = 0) : parR nm l = true := by
  unfold parR
  have : l.all cleanB = true := List.all_eq_true.2 fun x hx => decide_eq_true (h4 x hx)
  rw [h1, decide_eq_true h2, decide_eq_true h3, this]; rfl
theorem parseLAny (s : ByteArray) (hs : s.size ≤ 2000) : ∀ (n : Nat) (acc : List LP) (a : Nat) (fl : Int), acc.length + n = 61 → a ≤ s.size → (fl = 0 → acc.length ≤ 60 ∧ okPs [] acc = true ∧ ∀ p ∈ acc, GoodP p) →
    ∃ (l : List LP) (a' : Nat) (fl' : Int), Ev (fun k => line_Parse.l0 k s (a : Int) fl acc) (l, s, (a' : Int), fl') ∧ a' ≤ s.size ∧ (fl' = 0 → l.length ≤ 60 ∧ okPs [] l = true ∧ ∀ p ∈ l, GoodP p) := by
  intro n
  induction n with
  | zero =>
    intro acc a fl hn ha hg
    have h0 : fl ≠ 0 := fun h => by have := (hg h).1; omega
    obtain ⟨c, hP, hc⟩ := peekAny s a fl ha
    have hc0 : c = 0 := by
      by_cases h : c = 0
      · exact h
      · exact absurd (hc h).1 h0
    refine ⟨acc, a, fl, Ev.step (f := fun _ => some (acc, s, (a : Int), fl)) (fun k => ?_) (Ev.now _), ha, hg⟩
    simp only [line_Parse.l0]
    rw [hP]
    show (if c = 59 then _ else _) = _
    rw [if_neg (by omega)]
  | succ n ih =>
    intro acc a fl hn ha hg
    obtain ⟨c, hP, hc⟩ := peekAny s a fl ha
    by_cases h59 : c = 59
    case neg =>
      refine ⟨acc, a, fl, Ev.step (f := fun _ => some (acc, s, (a : Int), fl)) (fun k => ?_) (Ev.now _), ha, hg⟩
      simp only [line_Parse.l0]
      rw [hP]
      show (if c = 59 then _ else _) = _
      rw [if_neg h59]
    obtain ⟨rfl, hlt⟩ := hc (by rw [h59]; decide)
    obtain ⟨g1, g2, g3⟩ := hg rfl
    obtain ⟨nm, vs, a2, fl2, hF, ha2, hf2⟩ := paramAny s acc (a + 1) (by omega) hs
    obtain ⟨l, a3, fl3, hL, ha3, hg3⟩ := ih (acc ++ [⟨nm, vs⟩]) a2 fl2 (by simp; omega) ha2 (fun h => by
      obtain ⟨q1, q2, q3, q4, q5, q6⟩ := hf2 h
      have hp : parR nm vs = true := parR_mk q1 q4 q5 (fun x hx => (q6 x hx).1)
      refine ⟨by simp; omega, okPs_snoc acc [] ⟨nm, vs⟩ g2 hp (by simpa using q3), fun p hp2 => ?_⟩
      rcases List.mem_append.1 hp2 with h9 | h9
      · exact g3 p h9
      · rw [List.mem_singleton.1 h9]; exact ⟨hp, fun v hv => (q6 v hv).2⟩)
    refine ⟨l, a3, fl3, ?_, ha3, hg3⟩
    refine Ev.step (f := fun k => (line_reader_param.f k s ((a + 1 : Nat) : Int) 0 acc).bind fun q => line_Parse.l0 k q.2.2.1 q.2.2.2.1 q.2.2.2.2 (acc ++ [⟨q.1, q.2.1⟩])) (fun k => ?_) (Ev.bind hF hL)
    simp only [line_Parse.l0]
    rw [hP]
    show (if c = 59 then _ else _) = _
    rw [if_pos h59, if_pos ⟨by omega, by omega⟩]; rfl
/-- Whatever text: it is read as a formed line of a known size, or refused. -/
theorem parseAny (s : ByteArray) (hs : s.size ≤ 100000) : ∃ (nm : ByteArray) (l : List LP) (v : ByteArray) (n e : Int), Ev (fun k => line_Parse.f k s) (nm, l, v, n, e) ∧ (e = 0 → formR nm l v = true ∧ v.size ≤ 2000 ∧ ∀ p ∈ l, ∀ x ∈ p.f1, x.size ≤ 2000) := by
  by_cases hb : s.size > 2000
  · refine ⟨⟨#[]⟩, [], ⟨#[]⟩, 0, 4, Ev.congr (f := fun _ => some (noLine 0 4)) (fun k => ?_) (Ev.now _), fun h => absurd h (by decide)⟩
    unfold line_Parse.f; rw [if_pos hb]
  by_cases hv : Lib.validD s.data.toList = true
  case neg =>
    refine ⟨⟨#[]⟩, [], ⟨#[]⟩, 0, 3, Ev.congr (f := fun _ => some (noLine 0 3)) (fun k => ?_) (Ev.now _), fun h => absurd h (by decide)⟩
    unfold line_Parse.f utf8_ValidString.f
    rw [if_neg hb, if_pos (by omega), Option.bind_some, if_neg hv]
  obtain ⟨nm, a1, fl1, hN, ha1, hn1⟩ := nameAny s 0 (by omega) (by omega)
  obtain ⟨l, a2, fl2, hL, ha2, hg2⟩ := parseLAny s (by omega) 61 [] a1 fl1 (by simp) ha1 (fun _ => ⟨by simp, rfl, fun p hp => by simp at hp⟩)
  have fin : ∀ {r : LineR}, Ev (fun k => line_Parse.g k s nm l s (a2 : Int) fl2) r → Ev (fun k => line_Parse.f k s) r := fun h => by
    refine Ev.congr (f := fun k => (line_Parse.l0 k s (a1 : Int) fl1 []).bind fun q => line_Parse.g k s nm q.1 q.2.1 q.2.2.1 q.2.2.2) (fun k => ?_) (Ev.bind hL h)
    unfold line_Parse.f utf8_ValidString.f
    have hN' : line_reader_name.f s 0 0 = some (nm, s, (a1 : Int), fl1) := hN
    rw [if_neg hb, if_pos (by omega), Option.bind_some, if_pos hv, hN']; rfl
  by_cases h0 : fl2 = 0
  case neg =>
    refine ⟨⟨#[]⟩, [], ⟨#[]⟩, a2, fl2, fin (Ev.congr (f := fun _ => some (noLine (a2 : Int) fl2)) (fun k => ?_) (Ev.now _)), fun h => absurd h h0⟩
    unfold line_Parse.g; rw [if_neg h0]
  obtain ⟨c, hP, hc⟩ := peekAny s a2 fl2 ha2
  by_cases h58 : c = 58
  case neg =>
    refine ⟨⟨#[]⟩, [], ⟨#[]⟩, a2, 5, fin (Ev.congr (f := fun _ => some (noLine (a2 : Int) 5)) (fun k => ?_) (Ev.now _)), fun h => absurd h (by decide)⟩
    unfold line_Parse.g
    rw [if_pos h0, hP]
    show (if c = 58 then _ else _) = _
    rw [if_neg h58]
  have hlt := (hc (by rw [h58]; decide)).2
  have hxz : (s.extract (a2 + 1) s.size).size ≤ 2000 := by rw [ByteArray.size_extract]; omega
  have hcl := escClean (s.extract (a2 + 1) s.size) false (by omega)
  by_cases hz : cleanR false (s.extract (a2 + 1) s.size).data.toList = 0
  · refine ⟨nm, l, s.extract (a2 + 1) s.size, 0, 0, fin ?_, fun _ => ?_⟩
    · refine Ev.congr (f := fun k => (escape_Clean.f k (s.extract (a2 + 1) s.size) false).bind fun z => if z = 0 then some (nm, l, s.extract (a2 + 1) s.size, 0, 0) else some (noLine ((a2 : Int) + 1) 7)) (fun k => ?_) (Ev.bind hcl ?_)
      · unfold line_Parse.g
        rw [if_pos h0, hP]
        show (if c = 58 then _ else _) = _
        rw [if_pos h58, if_pos ⟨by omega, by omega⟩, Int.toNat_natCast]
      · rw [hz]; exact Ev.now _
    · obtain ⟨q1, q2, q3⟩ := hg2 h0
      have hfl1 : nameR nm = true := by
        by_cases h9 : fl1 = 0
        · exact hn1 h9
        · -- a wrong name: the loop stops at once, with the same mark
          exfalso
          obtain ⟨c1, hP1, hc1⟩ := peekAny s a1 fl1 ha1
          have hc0 : c1 = 0 := by
            by_cases h : c1 = 0
            · exact h
            · exact absurd (hc1 h).1 h9
          have h2 : Ev (fun k => line_Parse.l0 k s (a1 : Int) fl1 []) ([], s, (a1 : Int), fl1) := Ev.step (f := fun _ => some ([], s, (a1 : Int), fl1)) (fun k => by
            simp only [line_Parse.l0]
            rw [hP1]
            show (if c1 = 59 then _ else _) = _
            rw [if_neg (by omega)]) (Ev.now _)
          obtain ⟨K1, e1⟩ := hL
          obtain ⟨K2, e2⟩ := h2
          have e3 := (e1 (max K1 K2) (by omega)).symm.trans (e2 (max K1 K2) (by omega))
          simp only [Option.some.injEq, Prod.mk.injEq] at e3
          exact h9 (e3.2.2.2.symm.trans h0)
      refine ⟨?_, hxz, fun p hp x hx => (q3 p hp).2 x hx⟩
      unfold formR
      rw [hfl1, decide_eq_true q1, decide_eq_true hz, q2]; rfl
  · refine ⟨⟨#[]⟩, [], ⟨#[]⟩, (a2 : Int) + 1, 7, fin ?_, fun h => absurd h (by decide)⟩
    refine Ev.congr (f := fun k => (escape_Clean.f k (s.extract (a2 + 1) s.size) false).bind fun z => if z = 0 then some (nm, l, s.extract (a2 + 1) s.size, 0, 0) else some (noLine ((a2 : Int) + 1) 7)) (fun k => ?_) (Ev.bind hcl ?_)
    · unfold line_Parse.g
      rw [if_pos h0, hP]
      show (if c = 58 then _ else _) = _
      rw [if_pos h58, if_pos ⟨by omega, by omega⟩, Int.toNat_natCast]
    · exact Ev.congr (f := fun _ => some (noLine ((a2 : Int) + 1) 7)) (fun k => by rw [if_neg hz]) (Ev.now _)
end Go.Proofs.YtknmbalhbecdhaaGreatDoor.Pure
end
section
set_option linter.unusedVariables false
set_option linter.unusedSimpArgs false
set_option linter.unusedSectionVars false
namespace Go.Proofs.YtknmbalhbecdhaaGreatDoor.Pure
open Go.RowKit Go.Proofs.YtknmbalhbecdhaaGreatDoor.Print Go.Proofs.YtknmbalhbecdhaaGreatDoorW.PrintWords Go.Proofs.YtknmbalhbecdhaaGreatDoorW.PrintLast Go.Proofs.YtknmbalhbecdhaaGreatDoorW.PrintMore
theorem valsT_le2 : ∀ (l : List ByteArray) (b : UInt8), (∀ x ∈ l, x.size ≤ 2000) → (valsT l b).length ≤ l.length * 4010
  | [], _, _ => by simp [valsT]
  | x :: t, b, h => by
    have h1 := h x (by simp)
    have h2 := valsT_le2 t 44 (fun y hy => h y (by simp [hy]))
    have h3 := parL_le x.data.toList
    have e : x.data.toList.length = x.size := by simp
    rw [valsT, List.length_append, List.length_cons, List.length_cons]; omega
theorem parsT_le2 : ∀ (l : List LP), (∀ p ∈ l, parR p.f0 p.f1 = true ∧ ∀ x ∈ p.f1, x.size ≤ 2000) → (parsT l).length ≤ l.length * 250000
  | [], _ => by simp [parsT]
  | p :: t, h => by
    obtain ⟨h1, h2⟩ := h p (by simp)
    obtain ⟨q1, q2, q3, q4⟩ := parR_of h1
    have hn := (nameR_of q1).2.2
    have h3 := parsT_le2 t (fun y hy => h y (by simp [hy]))
    have h4 := valsT_le2 p.f1 61 h2
    have e : p.f0.data.toList.length = p.f0.size := by simp
    rw [parsT, List.length_append, List.length_append, List.length_cons, List.length_cons]; omega
theorem lineT_le2 {nm v : ByteArray} {l : List LP} (hf : formR nm l v = true) (hv : v.size ≤ 2000) (hl : ∀ p ∈ l, ∀ x ∈ p.f1, x.size ≤ 2000) : (lineT nm l v).length ≤ 1000000000 := by
  obtain ⟨h1, h2, h3, h4⟩ := formR_of hf
  have h5 := parsT_le2 l (fun p hp => ⟨okPs_all _ _ h4 p hp, hl p hp⟩)
  have hn := (nameR_of h1).2.2
  have e : nm.data.toList.length = nm.size := by simp
  have e2 : v.data.toList.length = v.size := by simp
  unfold lineT
  rw [List.length_append, List.length_append, List.length_cons]; omega
theorem lineAgain_pure (s : ByteArray) (hs : s.size ≤ 140737488351232) : ∃ k, trystlaw10_LineAgain.f k s = some true := by
  refine Ev.rounds (r := true) ?_
  refine Ev.bind awake10 ?_
  by_cases h3 : (s.size : Int) > 3000
  · refine Ev.congr (f := fun k => trystlaw10_LineAgain.j0 k s true) (fun k => by rw [if_pos rfl, decide_eq_true h3]) ?_
    exact Ev.step (f := fun k => (trystlaw10_awake.f k).bind fun t => some t) (fun k => by simp only [trystlaw10_LineAgain.j0]; rfl) (Ev.bind awake10 (Ev.now _))
  refine Ev.congr (f := fun k => trystlaw10_LineAgain.j0 k s false) (fun k => by rw [if_pos rfl, decide_eq_false h3]) ?_
  obtain ⟨nm, l, v, n, e, hP, hgood⟩ := parseAny s (by omega)
  refine Ev.step (fun k => by simp only [trystlaw10_LineAgain.j0]; rw [if_neg (by simp)]) ?_
  refine Ev.bind hP ?_
  by_cases he : e = 0
  case neg => exact Ev.congr (f := fun _ => some true) (fun k => by show (if e = 0 then _ else _) = _; rw [if_neg he]) (Ev.now _)
  subst he
  obtain ⟨hf, hv, hl⟩ := hgood rfl
  obtain ⟨g1, g2, g3, g4⟩ := formR_of hf
  have hlen := lineT_le2 hf hv hl
  have hpb : ∀ p ∈ l, ParB' p := fun p hp => ⟨by have := (nameR_of (parR_of (okPs_all _ _ g4 p hp)).1).2.2; omega, fun x hx => by have := hl p hp x hx; omega⟩
  have hnm := (nameR_of g1).2.2
  have hPr := printL nm v l (by omega) (by omega) hpb (fun _ => hlen)
  have hFo := formL nm v l (by omega) (by omega) hpb
  rw [hf] at hFo
  have hpr : printR nm l v = lineR nm l v := by unfold printR; rw [if_pos hf]
  rw [hpr] at hPr
  refine Ev.congr (fun k => by show (if (0 : Int) = 0 then _ else _) = _; rw [if_pos rfl]) ?_
  refine Ev.bind hPr ?_
  by_cases h2 : 2000 < (lineT nm l v).length
  · have e4 : lineR nm l v = (⟨#[]⟩, 4) := by unfold lineR; rw [if_pos h2]
    rw [e4]
    obtain ⟨nm', l', v', n', e', hP', _⟩ := parseAny ⟨#[]⟩ (by decide)
    refine Ev.bind hP' ?_
    refine Ev.bind hFo ?_
    exact Ev.congr (f := fun _ => some true) (fun k => by rw [if_pos rfl, if_pos rfl, if_pos (show (⟨#[]⟩ : ByteArray).toList = [] by rw [Lib.toList_data])]) (Ev.now _)
  · have e4 : lineR nm l v = (⟨(lineT nm l v).toArray⟩, 0) := by unfold lineR; rw [if_neg h2]
    rw [e4]
    refine Ev.bind (parse_line nm v l hf (by omega)) ?_
    refine Ev.bind hFo ?_
    have heq : line_Equal.f nm l v nm l v = some true := by unfold line_Equal.f eqL; rw [eqPs_self, decide_eq_true rfl, decide_eq_true rfl]; rfl
    refine Ev.congr (f := fun _ => some true) (fun k => ?_) (Ev.now _)
    rw [if_pos rfl, if_neg (show ¬ (0 : Int) = 4 by decide), if_pos (show (0 : Int) = 0 from rfl), if_pos (show (0 : Int) = 0 from rfl)]
    show (line_Equal.f nm l v nm l v).bind _ = _
    rw [heq]; rfl
end Go.Proofs.YtknmbalhbecdhaaGreatDoor.Pure
end
section
set_option linter.unusedVariables false
namespace Go.Proofs.YtknmbalhbecdhaaGreatDoor.Tabs
open Go Go.RowKit Go.Lib
theorem tabsLineA {W : World} (h : laidMetH Tryz.prog Rows.lineAgainRow.laid W) : Print.GG W := by
  rw [MakeChecks.laidMetH_plain _ _ _ (by kernel_rfl)] at h
  exact gg_of_laid h
theorem walkLineA (s : ByteArray) (w : World) (hG : Print.GG w) (hs : s.size ≤ 140737488351232) :
    Calls Tryz.prog 5 #[.string s] w fun e w' => e = .returned (.bool true) ∧ Below w.heap.size w w' := by
  obtain ⟨k, hk⟩ := Pure.lineAgain_pure s hs
  exact Print.trystlaw10_LineAgain.calls k s true w hG hk
end Go.Proofs.YtknmbalhbecdhaaGreatDoor.Tabs
end
