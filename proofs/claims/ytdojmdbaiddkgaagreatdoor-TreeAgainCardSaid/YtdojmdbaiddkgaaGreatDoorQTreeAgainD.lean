/- Texts of the proof of TreeAgain, put together: PValU PParU PPrintU PFoldBU PTreePU PTreeQU PBackBU PBackPU PLineBU PUnfU PUnfRU PCutU PBackU PRun PTBack PLineAU. -/
import Derived.Test.YtdojmdbaiddkgaaGreatDoorProg
import Derived.Below
import Derived.Deep.Draws
import Derived.Deep.AppendLies
import Derived.Maps.AppendAt
import Derived.OwnWalk
import Derived.Laws.BytesArg
import Derived.Laws.MakeOwn
import Derived.Laws.OwnMore
import Derived.Deep.OwnRows
import Derived.Tactics
import Derived.Lib.ConvBytes
import Derived.Laws.Slices
import Derived.WalkKit
import Derived.KernelRfl
import Derived.RowKit3
import Derived.Deep.LoopGhost
import Derived.Deep.QuietTactic
import Derived.BigQuiet
import Derived.WideLaws
import Derived.Deep.DeepCutAuto
import Derived.Deep.CutBlock
import Derived.Deep.RegionHeld3
import Derived.Laws.Rows
import Derived.Lib.AppendStr
import Derived.ArgAppend
import Derived.Laws.IdiomCopy
import Derived.OrdersHeld
import Derived.Laws.BitsLemmas
import Derived.RowKit
import Derived.Test.YtdojmdbaiddkgaaGreatDoorQTreeAgainWMore
import Derived.Shelf.Unicode.ValidAny
import Derived.Shelf.Strings.Builder1
import Derived.Shelf.Strings.Builder2
import Derived.Shelf.Small.Utf8
import Derived.Shelf.Small.Strs
import Derived.Shelf.Strings.BuilderF
import Derived.Shelf.Strings.BuilderK
import Derived.Shelf.Strings.Builder2Cap
import Derived.Shelf.Strings.Search1
import Derived.Shelf.Strings.Search2
import Derived.Shelf.Strings.Search3
import Derived.Shelf.Strings.Count
import Derived.Shelf.LaysM
import Derived.Shelf.Strings.Shaped
import Derived.Shelf.Strings.Prefix
import Derived.Shelf.Strings.Runes
import Derived.Shelf.Strings.IndexAny
import Derived.Shelf.Strings.AsciiSet
import Derived.Shelf.Strings.IndexAnyAll
import Derived.Shelf.Unicode.DecodeSlow
import Derived.Shelf.Unicode.DecodeAny
import Derived.Shelf.Strings.BuilderCap
import Derived.Shelf.Slices.Equal
import Derived.Shelf.Slices.Empties2
import Derived.WalkSpells
import Derived.Laws.Runes
import Derived.Laws.RangeAny
import Derived.Laws.RangeString
import Derived.Lib.IndexAny
import Derived.Lib.SpaceUEq
import Derived.Lib.RuneCount
import Derived.Lib.QuoteLoop
import Derived.Lib.Hide
import Derived.Lib.OthersKept
import Derived.Lib.DecodeN
import Derived.IntWalk
import Derived.Test.YtdojmdbaiddkgaaGreatDoorQTreeAgainWWords
import Derived.Test.YtdojmdbaiddkgaaGreatDoorQTreeAgainWLast
import Derived.Test.YtdojmdbaiddkgaaGreatDoorQTreeAgainWTab
import Derived.Test.YtdojmdbaiddkgaaGreatDoorQTreeAgainWQPut
import Derived.Test.YtdojmdbaiddkgaaGreatDoorQTreeAgainWApart
import Derived.Test.YtdojmdbaiddkgaaGreatDoorQTreeAgainWArr
import Derived.Test.YtdojmdbaiddkgaaGreatDoorQTreeAgainWZeros
import Derived.Test.YtdojmdbaiddkgaaGreatDoorQTreeAgainWFoot
import Derived.Test.YtdojmdbaiddkgaaGreatDoorQTreeAgainWKept
import Derived.Test.YtdojmdbaiddkgaaGreatDoorQTreeAgainWShare
import Derived.Test.YtdojmdbaiddkgaaGreatDoorQTreeAgainWN
import Derived.Test.YtdojmdbaiddkgaaGreatDoorQTreeAgainWRepsOne
import Derived.Test.YtdojmdbaiddkgaaGreatDoorQTreeAgainWInv
import Derived.Test.YtdojmdbaiddkgaaGreatDoorQTreeAgainWGuard
import Derived.Test.YtdojmdbaiddkgaaGreatDoorQTreeAgainWNEv
import Derived.Laws.NewBlocks
import Derived.Lib.ValidU
import Derived.Lib.TrimUEq
import Derived.Lib.ValidLaws
import Derived.Lib.MapLaws
import Derived.Lib.IndexLaws
import Derived.Lib.SmallJoins
import Derived.Laws.CopyRow
import Derived.Laws.CopyOwn
import Derived.Deep.RegionWith
import Derived.Deep.WholeRow
import Derived.Outline
import Derived.Tactics2
import Derived.Defers
import Derived.Laws.Pointers
import Derived.Laws.LoneSync
import Derived.RegionTactic
import Derived.RegionCalls
import Derived.Lib.LazyBuf
import Derived.Shelf.Unicode.DecodeLastEight
import Derived.Laws.IdiomStrings
import Derived.Test.YtdojmdbaiddkgaaGreatDoorQTreeAgainC
section
set_option linter.unusedVariables false
set_option linter.unusedSimpArgs false
set_option linter.unusedSectionVars false
namespace Go.Proofs.YtdojmdbaiddkgaaGreatDoor.Pure
open Go.RowKit Go.Proofs.YtdojmdbaiddkgaaGreatDoor.Print Go.Proofs.YtdojmdbaiddkgaaGreatDoorW.PrintWords Go.Proofs.YtdojmdbaiddkgaaGreatDoorW.PrintLast Go.Proofs.YtdojmdbaiddkgaaGreatDoorW.PrintMore
theorem nil_of (s : ByteArray) (h : s.size = 0) : s.data.toList = [] := by
  apply List.length_eq_zero_iff.1; rw [Array.length_toList]; exact h
theorem ext_one (s : ByteArray) : (s.extract 1 s.size).data.toList = s.data.toList.drop 1 := by
  rw [ByteArray.data_extract, Array.toList_extract, List.extract_eq_take_drop]
  exact List.take_of_length_le (by rw [List.length_drop, Array.length_toList]; exact Nat.le_refl _)
def qB (c : UInt8) : Bool := c == 34 || c == 58 || c == 59 || c == 44
def openR (s : ByteArray) : ByteArray × Int := if s.data.toList.any qB = true then (⟨#[]⟩, 7) else (⟨(carL s.data.toList).toArray⟩, 0)
theorem contains_any (l : List UInt8) : Lib.containsAny l [34, 58, 59, 44] = l.any qB := by
  unfold Lib.containsAny
  induction l with
  | nil => rfl
  | cons b t ih =>
    have hge := Lib.indexAny_ge [34, 58, 59, 44] t
    have hq : ([34, 58, 59, 44] : List UInt8).contains b = qB b := by
      simp [qB, List.contains_cons, Bool.or_assoc]; rfl
    rw [List.any_cons, ← ih, Lib.indexAny, hq]
    cases hb : qB b
    · simp only [Bool.false_eq_true, if_false, Bool.false_or]
      by_cases h1 : Lib.indexAny t [34, 58, 59, 44] = -1
      · rw [h1]; rfl
      · have : (Lib.indexAny t [34, 58, 59, 44] == -1) = false := beq_eq_false_iff_ne.2 h1
        rw [this]
        have h0 : 0 ≤ Lib.indexAny t [34, 58, 59, 44] := by omega
        simp [h0]; omega
    · simp
theorem wrap_sub (m c : Nat) (h : m ≤ 140737488351232) (hc : c ≤ m) : wrap64 ((m : Int) - (c : Int)) = ((m - c : Nat) : Int) := by unfold wrap64; omega
/-- What is read of a parameter's value. -/
def valB (s : ByteArray) : ByteArray × Int :=
  if s.data.toList.getD 0 0 = 34 then
    (if s.size < 2 then (⟨#[]⟩, 7) else if Lib.indexByte (s.data.toList.drop 1) 34 = ((s.size - 2 : Nat) : Int) then (⟨(carL (s.extract 1 (s.size - 1)).data.toList).toArray⟩, 0) else (⟨#[]⟩, 7))
  else openR s
def valA (s : ByteArray) : ByteArray × Int := if cleanR false s.data.toList = 0 then valB s else (⟨#[]⟩, cleanR false s.data.toList)
theorem has_prefix (s : ByteArray) : strings_HasPrefix.f s ⟨#[34]⟩ = some (decide (s.data.toList.getD 0 0 = 34)) := by
  have h1 : ((⟨#[34]⟩ : ByteArray).size : Int) = 1 := rfl
  simp only [strings_HasPrefix.f, stringslite_HasPrefix.f, h1]
  by_cases hz : 1 ≤ s.size
  · rw [if_pos (by omega), if_pos (by omega), if_pos (by omega)]
    simp only [Option.bind_some]
    congr 1
    have e : (s.extract 0 (1 : Int).toNat).toList = [s.data.toList.getD 0 0] := by
      rw [Lib.toList_data, show (1 : Int).toNat = 1 from rfl, Lib.extract_from_zero]
      have := drop_at s 0 (by omega)
      rw [List.drop_zero] at this
      rw [this]; rfl
    rw [e, Lib.toList_data]
    by_cases h : s.data.toList.getD 0 0 = 34
    · rw [h]; rfl
    · rw [decide_eq_false h]; exact beq_eq_false_iff_ne.2 (by intro e; exact h (List.head_eq_of_cons_eq e))
  · rw [if_neg (by omega)]
    have : s.data.toList = [] := nil_of s (by omega)
    rw [this]; rfl
theorem esc_value (s : ByteArray) (hs : s.size < 4294967281) : Ev (fun k => escape_Value.f k s) (valA s) := by
  refine Ev.bind (escClean s false (by omega)) ?_
  unfold valA
  by_cases h0 : cleanR false s.data.toList = 0
  case neg => simp only [if_neg h0]; exact Ev.now _
  simp only [if_pos h0, has_prefix, Option.bind_some]
  unfold valB
  by_cases h34 : s.data.toList.getD 0 0 = 34
  · have hz : 1 ≤ s.size := by
      rcases Nat.eq_zero_or_pos s.size with h | h
      · have : s.data.toList = [] := nil_of s (by omega)
        rw [this] at h34; exact absurd h34 (by decide)
      · omega
    rw [if_pos h34]
    simp only [decide_eq_true h34, if_true]
    by_cases h2 : s.size < 2
    · simp only [if_pos h2, if_pos (show (s.size : Int) < 2 by omega)]; exact Ev.now _
    · have e1 : (s.extract 1 s.size).data.toList = s.data.toList.drop 1 := ext_one s
      have e2 : wrap64 ((s.size : Int) - 2) = ((s.size - 2 : Nat) : Int) := wrap_sub s.size 2 (by omega) (by omega)
      have e3 : wrap64 ((s.size : Int) - 1) = ((s.size - 1 : Nat) : Int) := wrap_sub s.size 1 (by omega) (by omega)
      have e4 : (34 : Int).toNat.toUInt8 = 34 := rfl
      simp only [if_neg h2, if_neg (show ¬ (s.size : Int) < 2 by omega), if_pos (show (1 : Int) ≤ (s.size : Int) by omega), strings_IndexByte.f, Option.bind_some, e1, e2, e3, e4]
      by_cases h3 : Lib.indexByte (s.data.toList.drop 1) 34 = ((s.size - 2 : Nat) : Int)
      · simp only [if_pos h3]
        rw [if_pos (by omega), if_pos (by omega)]
        have e5 : escape_caret.f (s.extract 1 (s.size - 1)) = some ⟨(carL (s.extract 1 (s.size - 1)).data.toList).toArray⟩ := by
          unfold escape_caret.f; rw [if_pos (by rw [ByteArray.size_extract]; omega)]
        simp only [Int.toNat_natCast, e5, Option.bind_some]
        exact Ev.now _
      · simp only [if_neg h3]; exact Ev.now _
  · rw [if_neg h34]
    simp only [decide_eq_false h34, Bool.false_eq_true, if_false]
    have ec : strings_ContainsAny.f s ⟨#[34, 58, 59, 44]⟩ = some (s.data.toList.any qB) := by
      unfold strings_ContainsAny.f
      rw [if_pos ⟨hs, by decide, by decide, by decide⟩, ← contains_any]
    simp only [ec, Option.bind_some]
    unfold openR
    cases s.data.toList.any qB
    · simp only [Bool.false_eq_true, if_false]
      have e5 : escape_caret.f s = some ⟨(carL s.data.toList).toArray⟩ := by
        unfold escape_caret.f; rw [if_pos (by omega)]
      simp only [e5, Option.bind_some]
      exact Ev.now _
    · simp only [if_true]; exact Ev.now _
end Go.Proofs.YtdojmdbaiddkgaaGreatDoor.Pure
end
section
set_option linter.unusedVariables false
set_option linter.unusedSimpArgs false
set_option linter.unusedSectionVars false
namespace Go.Proofs.YtdojmdbaiddkgaaGreatDoor.Pure
open Go.RowKit Go.Proofs.YtdojmdbaiddkgaaGreatDoor.Print Go.Proofs.YtdojmdbaiddkgaaGreatDoorW.PrintWords Go.Proofs.YtdojmdbaiddkgaaGreatDoorW.PrintLast Go.Proofs.YtdojmdbaiddkgaaGreatDoorW.PrintMore
theorem nx_eq (l : List UInt8) (hne : l ≠ []) : nx l = refN l.length (l.getD 0 0).toNat (l.getD 1 0).toNat (l.getD 2 0).toNat (l.getD 3 0).toNat := by
  have : 0 < l.length := List.length_pos_iff.2 hne
  rw [refN_eq _ _ _ _ _ (by omega) (lt256 _ _) (lt256 _ _) (lt256 _ _) (lt256 _ _)]
  unfold nx
  rw [Lib.decodeL_N]
theorem validD_nx (l : List UInt8) (hne : l ≠ []) : Lib.validD l = if nx l = 0 then false else Lib.validD (l.drop (nx l)) := by
  rw [Lib.validD_step l hne]
  by_cases h : (Lib.decodeL l).1 = 65533 ∧ (Lib.decodeL l).2 = 1
  · rw [if_pos h, if_pos ((nx_bad l hne).2 h)]
  · rw [if_neg h, nx_good l h, if_neg (by have := decL_pos l hne; omega)]
def U2 (a b : UInt8) : Prop := (194 ≤ a.toNat ∧ a.toNat < 224) ∧ 128 ≤ b.toNat ∧ b.toNat < 192
def U3 (a b c : UInt8) : Prop := (224 ≤ a.toNat ∧ a.toNat < 240) ∧ ((128 ≤ b.toNat ∧ b.toNat < 192) ∧ 128 ≤ c.toNat ∧ c.toNat < 192) ∧ ¬ (a.toNat = 224 ∧ b.toNat < 160 ∨ a.toNat = 237 ∧ 159 < b.toNat)
def U4 (a b c d : UInt8) : Prop := (240 ≤ a.toNat ∧ a.toNat < 245) ∧ ((128 ≤ b.toNat ∧ b.toNat < 192) ∧ (128 ≤ c.toNat ∧ c.toNat < 192) ∧ 128 ≤ d.toNat ∧ d.toNat < 192) ∧ ¬ (a.toNat = 240 ∧ b.toNat < 144 ∨ a.toNat = 244 ∧ 143 < b.toNat)
theorem valid_2 (a b : UInt8) (t : List UInt8) (h : U2 a b) : Lib.validD (a :: b :: t) = Lib.validD t := by
  obtain ⟨h1, h2⟩ := h
  have e : nx (a :: b :: t) = 2 := by
    rw [nx_eq _ (by simp)]
    simp only [List.getD_cons_zero, List.getD_cons_succ, List.length_cons]
    unfold refN
    rw [if_neg (by omega), if_pos h1, if_neg (by omega), if_pos h2]
  rw [validD_nx _ (by simp), e]; rfl
theorem valid_3 (a b c : UInt8) (t : List UInt8) (h : U3 a b c) : Lib.validD (a :: b :: c :: t) = Lib.validD t := by
  obtain ⟨h1, h2, h3⟩ := h
  have e : nx (a :: b :: c :: t) = 3 := by
    rw [nx_eq _ (by simp)]
    simp only [List.getD_cons_zero, List.getD_cons_succ, List.length_cons]
    unfold refN
    rw [if_neg (by omega), if_neg (by omega), if_pos h1, if_neg (by omega), if_pos h2, if_neg h3]
  rw [validD_nx _ (by simp), e]; rfl
theorem valid_4 (a b c d : UInt8) (t : List UInt8) (h : U4 a b c d) : Lib.validD (a :: b :: c :: d :: t) = Lib.validD t := by
  obtain ⟨h1, h2, h3⟩ := h
  have e : nx (a :: b :: c :: d :: t) = 4 := by
    rw [nx_eq _ (by simp)]
    simp only [List.getD_cons_zero, List.getD_cons_succ, List.length_cons]
    unfold refN
    rw [if_neg (by omega), if_neg (by omega), if_neg (by omega), if_pos h1, if_neg (by omega), if_pos h2, if_neg h3]
  rw [validD_nx _ (by simp), e]; rfl
/-- The code points at the head of a valid text. -/
theorem valid_head (l : List UInt8) (hne : l ≠ []) (h : Lib.validD l = true) :
    (∃ a t, l = a :: t ∧ a.toNat < 128 ∧ Lib.validD t = true) ∨ (∃ a b t, l = a :: b :: t ∧ U2 a b ∧ Lib.validD t = true) ∨
    (∃ a b c t, l = a :: b :: c :: t ∧ U3 a b c ∧ Lib.validD t = true) ∨ (∃ a b c d t, l = a :: b :: c :: d :: t ∧ U4 a b c d ∧ Lib.validD t = true) := by
  have hv := validD_nx l hne
  rw [h] at hv
  have hn : nx l ≠ 0 := by intro e; rw [if_pos e] at hv; cases hv
  rw [if_neg hn, nx_eq l hne] at hv
  rw [nx_eq l hne] at hn
  unfold refN at hn hv
  cases l with
  | nil => exact absurd rfl hne
  | cons a l1 =>
    simp only [List.getD_cons_zero, List.getD_cons_succ, List.length_cons] at hn hv
    by_cases c1 : a.toNat < 128
    · rw [if_pos c1] at hv; exact .inl ⟨a, l1, rfl, c1, hv.symm⟩
    rw [if_neg c1] at hn hv
    by_cases c2 : 194 ≤ a.toNat ∧ a.toNat < 224
    · rw [if_pos c2] at hn hv
      cases l1 with
      | nil => simp at hn
      | cons b t =>
        simp only [List.getD_cons_zero, List.getD_cons_succ, List.length_cons] at hn hv
        rw [if_neg (by omega)] at hn hv
        by_cases c3 : 128 ≤ b.toNat ∧ b.toNat < 192
        · rw [if_pos c3] at hv; exact .inr (.inl ⟨a, b, t, rfl, ⟨c2, c3⟩, hv.symm⟩)
        · rw [if_neg c3] at hn; exact absurd rfl hn
    rw [if_neg c2] at hn hv
    by_cases c3 : 224 ≤ a.toNat ∧ a.toNat < 240
    · rw [if_pos c3] at hn hv
      rcases l1 with _ | ⟨b, _ | ⟨c, t⟩⟩
      · simp at hn
      · simp at hn
      · simp only [List.getD_cons_zero, List.getD_cons_succ, List.length_cons] at hn hv
        rw [if_neg (by omega)] at hn hv
        split at hn
        · rename_i c4
          rw [if_pos c4] at hv
          split at hn
          · exact absurd rfl hn
          · rename_i c5
            rw [if_neg c5] at hv
            exact .inr (.inr (.inl ⟨a, b, c, t, rfl, ⟨c3, c4, c5⟩, hv.symm⟩))
        · exact absurd rfl hn
    rw [if_neg c3] at hn hv
    by_cases c4 : 240 ≤ a.toNat ∧ a.toNat < 245
    · rw [if_pos c4] at hn hv
      rcases l1 with _ | ⟨b, _ | ⟨c, _ | ⟨d, t⟩⟩⟩
      · simp at hn
      · simp at hn
      · simp at hn
      · simp only [List.getD_cons_zero, List.getD_cons_succ, List.length_cons] at hn hv
        rw [if_neg (by omega)] at hn hv
        split at hn
        · rename_i c5
          rw [if_pos c5] at hv
          split at hn
          · exact absurd rfl hn
          · rename_i c6
            rw [if_neg c6] at hv
            exact .inr (.inr (.inr ⟨a, b, c, d, t, rfl, ⟨c4, c5, c6⟩, hv.symm⟩))
        · exact absurd rfl hn
    rw [if_neg c4] at hn
    exact absurd rfl hn
theorem ba_backB (s : ByteArray) : (⟨s.data.toList.toArray⟩ : ByteArray) = s := by cases s; simp
theorem ba_sizeB (l : List UInt8) : (⟨l.toArray⟩ : ByteArray).size = l.length := by show l.toArray.size = _; rw [List.size_toArray]
theorem clean_true {l : List UInt8} (h : cleanR true l = 0) : Lib.validD l = true ∧ l.all (okB true) = true := by
  unfold cleanR at h
  by_cases h1 : Lib.validD l = true
  · rw [if_pos h1] at h
    by_cases h2 : l.all (okB true) = true
    · exact ⟨h1, h2⟩
    · rw [if_neg h2] at h; exact absurd h (by decide)
  · rw [if_neg h1] at h; exact absurd h (by decide)
theorem clean_of {f : Bool} {l : List UInt8} (h1 : Lib.validD l = true) (h2 : l.all (okB f) = true) : cleanR f l = 0 := by
  unfold cleanR; rw [if_pos h1, if_pos h2]
theorem parB_high (c : UInt8) (h : 128 ≤ c.toNat) : parB c = [c] := by
  have n1 : c ≠ 94 := by rintro rfl; exact absurd h (by decide)
  have n2 : c ≠ 10 := by rintro rfl; exact absurd h (by decide)
  have n3 : c ≠ 34 := by rintro rfl; exact absurd h (by decide)
  unfold parB; rw [if_neg n1, if_neg n2, if_neg n3]
theorem parB_low (c : UInt8) (h : c.toNat < 128) (s : List UInt8) : Lib.validD (parB c ++ s) = Lib.validD s := by
  unfold parB
  split
  · show Lib.validD (94 :: 94 :: s) = _
    rw [Lib.validD_cons _ _ (by decide), Lib.validD_cons _ _ (by decide)]
  split
  · show Lib.validD (94 :: 110 :: s) = _
    rw [Lib.validD_cons _ _ (by decide), Lib.validD_cons _ _ (by decide)]
  split
  · show Lib.validD (94 :: 39 :: s) = _
    rw [Lib.validD_cons _ _ (by decide), Lib.validD_cons _ _ (by decide)]
  · exact Lib.validD_cons _ _ h
theorem par_valid : ∀ (n : Nat) (l s : List UInt8), l.length ≤ n → Lib.validD l = true → Lib.validD (parT l ++ s) = Lib.validD s
  | _, [], s, _, _ => rfl
  | 0, a :: t, s, hn, _ => by simp at hn
  | n + 1, x :: l, s, hn, h => by
    rcases valid_head (x :: l) (by simp) h with ⟨a, t, e, ha, hv⟩ | ⟨a, b, t, e, ha, hv⟩ | ⟨a, b, c, t, e, ha, hv⟩ | ⟨a, b, c, d, t, e, ha, hv⟩
    · have hl := congrArg List.length e
      simp only [List.length_cons] at hl hn
      rw [e, parT_cons, List.append_assoc, parB_low a ha]
      exact par_valid n t s (by omega) hv
    · have hl := congrArg List.length e
      simp only [List.length_cons] at hl hn
      rw [e, parT_cons, parT_cons, parB_high a (by have := ha.1; omega), parB_high b (by have := ha.2; omega)]
      show Lib.validD (a :: b :: (parT t ++ s)) = _
      rw [valid_2 _ _ _ ha]
      exact par_valid n t s (by omega) hv
    · have hl := congrArg List.length e
      simp only [List.length_cons] at hl hn
      obtain ⟨h1, h2, h3⟩ := ha
      rw [e, parT_cons, parT_cons, parT_cons, parB_high a (by omega), parB_high b (by omega), parB_high c (by omega)]
      show Lib.validD (a :: b :: c :: (parT t ++ s)) = _
      rw [valid_3 _ _ _ _ ⟨h1, h2, h3⟩]
      exact par_valid n t s (by omega) hv
    · have hl := congrArg List.length e
      simp only [List.length_cons] at hl hn
      obtain ⟨h1, h2, h3⟩ := ha
      rw [e, parT_cons, parT_cons, parT_cons, parT_cons, parB_high a (by omega), parB_high b (by omega), parB_high c (by omega), parB_high d (by omega)]
      show Lib.validD (a :: b :: c :: d :: (parT t ++ s)) = _
      rw [valid_4 _ _ _ _ _ ⟨h1, h2, h3⟩]
      exact par_valid n t s (by omega) hv
theorem parB_ok (c : UInt8) (h : okB true c = true) : (parB c).all (okB false) = true := by
  unfold parB
  by_cases h94 : c = 94
  · rw [if_pos h94]; rfl
  rw [if_neg h94]
  by_cases h10 : c = 10
  · rw [if_pos h10]; rfl
  rw [if_neg h10]
  by_cases h34 : c = 34
  · rw [if_pos h34]; rfl
  rw [if_neg h34]
  have h10b : (c == 10) = false := beq_eq_false_iff_ne.2 h10
  have hc : okB false c = true := by
    unfold okB at h ⊢
    rw [h10b] at h ⊢
    simpa using h
  simp [hc]
theorem parT_ok (l : List UInt8) (h : l.all (okB true) = true) : (parT l).all (okB false) = true := by
  induction l with
  | nil => rfl
  | cons c t ih =>
    rw [List.all_cons, Bool.and_eq_true] at h
    rw [parT_cons, List.all_append, parB_ok c h.1, ih h.2]; rfl
theorem car_par : ∀ (l : List UInt8), carL (parT l) = l
  | [] => rfl
  | c :: t => by
    rw [parT_cons]
    unfold parB
    by_cases h94 : c = 94
    · rw [if_pos h94, h94]
      show carL (94 :: 94 :: parT t) = _
      simp [carL, car_par t]
    rw [if_neg h94]
    by_cases h10 : c = 10
    · rw [if_pos h10, h10]
      show carL (94 :: 110 :: parT t) = _
      simp [carL, car_par t]
    rw [if_neg h10]
    by_cases h34 : c = 34
    · rw [if_pos h34, h34]
      show carL (94 :: 39 :: parT t) = _
      simp [carL, car_par t]
    rw [if_neg h34]
    show carL (c :: parT t) = _
    have : carL (c :: parT t) = c :: carL (parT t) := by cases parT t <;> simp [carL, h94]
    rw [this, car_par t]
theorem par_any : ∀ (l : List UInt8), (parT l).any qB = l.any quoB
  | [] => rfl
  | c :: t => by
    rw [parT_cons, List.any_append, par_any t, List.any_cons]
    congr 1
    unfold parB
    by_cases h94 : c = 94
    · rw [if_pos h94, h94]; rfl
    rw [if_neg h94]
    by_cases h10 : c = 10
    · rw [if_pos h10, h10]; rfl
    rw [if_neg h10]
    by_cases h34 : c = 34
    · rw [if_pos h34, h34]; rfl
    rw [if_neg h34, List.any_cons, List.any_nil, Bool.or_false]
    unfold qB quoB
    rw [beq_eq_false_iff_ne.2 h34, Bool.false_or]
theorem par_34 : ∀ (l : List UInt8), (parT l).any (· == 34) = false
  | [] => rfl
  | c :: t => by
    rw [parT_cons, List.any_append, par_34 t, Bool.or_false]
    unfold parB
    by_cases h94 : c = 94
    · rw [if_pos h94]; rfl
    rw [if_neg h94]
    by_cases h10 : c = 10
    · rw [if_pos h10]; rfl
    rw [if_neg h10]
    by_cases h34 : c = 34
    · rw [if_pos h34]; rfl
    rw [if_neg h34, List.any_cons, List.any_nil, Bool.or_false]
    exact beq_eq_false_iff_ne.2 h34
theorem head_34 (l : List UInt8) (h : l.any (· == 34) = false) : l.getD 0 0 ≠ 34 := by
  cases l with
  | nil => decide
  | cons a t =>
    rw [List.any_cons, Bool.or_eq_false_iff] at h
    exact beq_eq_false_iff_ne.1 h.1
theorem idx_34 : ∀ (l : List UInt8), l.any (· == 34) = false → Lib.indexByte (l ++ [34]) 34 = (l.length : Int)
  | [], _ => rfl
  | c :: t, h => by
    rw [List.any_cons, Bool.or_eq_false_iff] at h
    have ih := idx_34 t h.2
    show Lib.indexByte (c :: (t ++ [34])) 34 = _
    unfold Lib.indexByte
    rw [h.1, ih]
    have hn : (((t.length : Nat) : Int) == -1) = false := beq_eq_false_iff_ne.2 (by omega)
    rw [hn]
    simp
theorem value_par (s : ByteArray) (h : cleanR true s.data.toList = 0) : valA (parW s) = (s, 0) := by
  obtain ⟨h1, h2⟩ := clean_true h
  have hd : (parW s).data.toList = parL s.data.toList := rfl
  have hv := fun t => par_valid s.data.toList.length s.data.toList t (Nat.le_refl _) h1
  have hok := parT_ok s.data.toList h2
  have hcar := car_par s.data.toList
  have hany := par_any s.data.toList
  have h34 := par_34 s.data.toList
  have hback := ba_backB s
  have hsz : (parW s).size = (parL s.data.toList).length := ba_sizeB _
  unfold valA
  by_cases hq : s.data.toList.any quoB = true
  · have hL : parL s.data.toList = 34 :: (parT s.data.toList ++ [34]) := by unfold parL; rw [if_pos hq]; rfl
    have hc : cleanR false (parW s).data.toList = 0 := by
      rw [hd, hL]
      refine clean_of ?_ ?_
      · rw [Lib.validD_cons _ _ (by decide), hv [34]]; rfl
      · rw [List.all_cons, List.all_append, hok]; rfl
    rw [if_pos hc]
    unfold valB
    have hlen : (parW s).size = (parT s.data.toList).length + 2 := by rw [hsz, hL]; simp
    have hex : ((parW s).extract 1 ((parW s).size - 1)).data.toList = parT s.data.toList := by
      rw [ByteArray.data_extract, Array.toList_extract, List.extract_eq_take_drop, hd, hL, hlen]
      simp
    rw [if_pos (by rw [hd, hL]; rfl), if_neg (by omega), if_pos (by rw [hd, hL]; show Lib.indexByte (parT s.data.toList ++ [34]) 34 = _; rw [idx_34 _ h34, hlen]; rfl), hex, hcar, hback]
  · have hL : parL s.data.toList = parT s.data.toList := by unfold parL; rw [if_neg hq]
    have hc : cleanR false (parW s).data.toList = 0 := by
      rw [hd, hL]
      refine clean_of ?_ hok
      have := hv []
      rw [List.append_nil] at this
      rw [this]; rfl
    rw [if_pos hc]
    unfold valB openR
    rw [if_neg (by rw [hd, hL]; exact head_34 _ h34), hd, hL, hany, if_neg hq, hcar, hback]
end Go.Proofs.YtdojmdbaiddkgaaGreatDoor.Pure
end
section
set_option linter.unusedVariables false
set_option linter.unusedSimpArgs false
set_option linter.unusedSectionVars false
namespace Go.Proofs.YtdojmdbaiddkgaaGreatDoor.Pure
open Go.RowKit Go.Proofs.YtdojmdbaiddkgaaGreatDoor.Print Go.Proofs.YtdojmdbaiddkgaaGreatDoorW.PrintWords Go.Proofs.YtdojmdbaiddkgaaGreatDoorW.PrintLast Go.Proofs.YtdojmdbaiddkgaaGreatDoorW.PrintMore
theorem okPs_all : ∀ (l seen : List LP), okPs seen l = true → ∀ p ∈ l, parR p.f0 p.f1 = true
  | [], _, _, p, hp => by simp at hp
  | q :: t, seen, h, p, hp => by
    rw [okPs, Bool.and_eq_true, Bool.and_eq_true] at h
    rcases List.mem_cons.1 hp with rfl | hp
    · exact h.1
    · exact okPs_all t _ h.2.2 p hp
theorem parR_of {nm : ByteArray} {l : List ByteArray} (h : parR nm l = true) : nameR nm = true ∧ 1 ≤ l.length ∧ l.length ≤ 60 ∧ ∀ x ∈ l, cleanR true x.data.toList = 0 := by
  unfold parR at h
  rw [Bool.and_eq_true, Bool.and_eq_true, Bool.and_eq_true] at h
  exact ⟨h.1, of_decide_eq_true h.2.1, of_decide_eq_true h.2.2.1, fun x hx => of_decide_eq_true (List.all_eq_true.1 h.2.2.2 x hx)⟩
theorem formR_of {nm : ByteArray} {l : List LP} {v : ByteArray} (h : formR nm l v = true) : nameR nm = true ∧ l.length ≤ 60 ∧ cleanR false v.data.toList = 0 ∧ okPs [] l = true := by
  unfold formR at h
  rw [Bool.and_eq_true, Bool.and_eq_true, Bool.and_eq_true] at h
  exact ⟨h.1, of_decide_eq_true h.2.1, of_decide_eq_true h.2.2.1, h.2.2.2⟩
theorem parT_le : ∀ l : List UInt8, (parT l).length ≤ 2 * l.length
  | [] => by simp [parT]
  | c :: t => by
    have := parT_le t
    rw [parT_cons, List.length_append, List.length_cons]
    have : (parB c).length ≤ 2 := by unfold parB; split <;> (try split) <;> (try split) <;> simp
    omega
theorem parL_le (l : List UInt8) : (parL l).length ≤ 2 * l.length + 2 := by
  have := parT_le l
  unfold parL; split
  · simp; omega
  · omega
theorem clean_evS : ∀ l : List ByteArray, (∀ x ∈ l, x.size ≤ 140737488351232 ∧ cleanR true x.data.toList = 0) → ∃ K, ∀ k, K ≤ k → ∀ x ∈ l, escape_Clean.f k x true = some 0
  | [], _ => ⟨0, fun _ _ x hx => by simp at hx⟩
  | x :: t, h => by
    obtain ⟨K, hK⟩ := clean_evS t (fun y hy => h y (List.mem_cons_of_mem _ hy))
    have hx := h x List.mem_cons_self
    obtain ⟨K2, hK2⟩ := escClean x true hx.1
    rw [hx.2] at hK2
    refine ⟨max K K2, fun k hk y hy => ?_⟩
    rcases List.mem_cons.1 hy with rfl | hy
    · exact hK2 k (by omega)
    · exact hK k (by omega) y hy
theorem clean_evP : ∀ l : List LP, (∀ p ∈ l, ∀ x ∈ p.f1, x.size ≤ 140737488351232 ∧ cleanR true x.data.toList = 0) → ∃ K, ∀ k, K ≤ k → cleanAll k l = true
  | [], _ => ⟨0, fun _ _ => rfl⟩
  | p :: t, h => by
    obtain ⟨K, hK⟩ := clean_evP t (fun y hy => h y (List.mem_cons_of_mem _ hy))
    obtain ⟨K2, hK2⟩ := clean_evS p.f1 (h p List.mem_cons_self)
    refine ⟨max K K2, fun k hk => ?_⟩
    have h1 := hK k (by omega)
    unfold cleanAll at h1 ⊢
    rw [List.all_cons, h1, Bool.and_true]
    exact List.all_eq_true.2 fun x hx => decide_eq_true (hK2 k (by omega) x hx)
def printR (nm : ByteArray) (l : List LP) (v : ByteArray) : ByteArray × Int := if formR nm l v = true then lineR nm l v else (⟨#[]⟩, 1)
theorem printL (nm v : ByteArray) (l : List LP) (hn : nm.size ≤ 140737488351232) (hv : v.size ≤ 140737488351232) (hs : ∀ p ∈ l, ParB' p) (hlen : formR nm l v = true → (lineT nm l v).length ≤ 1000000000) : Ev (fun k => line_Print.f k nm l v) (printR nm l v) := by
  refine Ev.bind (formL nm v l hn hv hs) ?_
  unfold printR
  cases hf : formR nm l v with
  | false => exact Ev.congr (f := fun _ => some (⟨#[]⟩, 1)) (fun k => by rw [if_neg (by simp)]) (by rw [if_neg (by simp)]; exact Ev.now _)
  | true =>
    have h1 := hlen hf
    have h2 := formR_of hf
    obtain ⟨K, hK⟩ := clean_evP l (fun p hp x hx => ⟨(hs p hp).2 x hx, (parR_of (okPs_all l [] h2.2.2.2 p hp)).2.2.2 x hx⟩)
    rw [if_pos rfl]
    exact ⟨K, fun k hk => by show (if true = true then _ else _) = _; rw [if_pos rfl, if_pos ⟨hK k hk, h1⟩]⟩
end Go.Proofs.YtdojmdbaiddkgaaGreatDoor.Pure
end
section
set_option linter.unusedVariables false
set_option linter.unusedSimpArgs false
set_option linter.unusedSectionVars false
namespace Go.Proofs.YtdojmdbaiddkgaaGreatDoor.Pure
open Go.RowKit Go.Proofs.YtdojmdbaiddkgaaGreatDoor.Print Go.Proofs.YtdojmdbaiddkgaaGreatDoorW.PrintWords Go.Proofs.YtdojmdbaiddkgaaGreatDoorW.PrintLast Go.Proofs.YtdojmdbaiddkgaaGreatDoorW.PrintMore
def nlB (c : UInt8) : Bool := c == 13 || c == 10
theorem contains_nl (l : List UInt8) : Lib.containsAny l [13, 10] = l.any nlB := by
  unfold Lib.containsAny
  induction l with
  | nil => rfl
  | cons b t ih =>
    have hge := Lib.indexAny_ge [13, 10] t
    have hq : ([13, 10] : List UInt8).contains b = nlB b := by
      simp [nlB, List.contains_cons, Bool.or_assoc]; rfl
    rw [List.any_cons, ← ih, Lib.indexAny, hq]
    cases hb : nlB b
    · simp only [Bool.false_eq_true, if_false, Bool.false_or]
      by_cases h1 : Lib.indexAny t [13, 10] = -1
      · rw [h1]; rfl
      · have : (Lib.indexAny t [13, 10] == -1) = false := beq_eq_false_iff_ne.2 h1
        rw [this]
        have h0 : 0 ≤ Lib.indexAny t [13, 10] := by omega
        simp [h0]; omega
    · simp
end Go.Proofs.YtdojmdbaiddkgaaGreatDoor.Pure
end
section
set_option linter.unusedVariables false
set_option linter.unusedSimpArgs false
set_option linter.unusedSectionVars false
namespace Go.Proofs.YtdojmdbaiddkgaaGreatDoor.Pure
open Go.RowKit Go.Proofs.YtdojmdbaiddkgaaGreatDoor.Print Go.Proofs.YtdojmdbaiddkgaaGreatDoorW.PrintWords Go.Proofs.YtdojmdbaiddkgaaGreatDoorW.PrintLast Go.Proofs.YtdojmdbaiddkgaaGreatDoorW.PrintMore
def LS (x : RL) : Prop := x.f0.size ≤ 140737488351232 ∧ x.f2.size ≤ 140737488351232 ∧ ∀ p ∈ x.f1, ParB' (toP p)
mutual
def TS : RT → Prop
  | ⟨n, l, k⟩ => n.size ≤ 140737488351232 ∧ (∀ x ∈ l, LS x) ∧ TSs k
def TSs : List RT → Prop
  | [] => True
  | t :: r => TS t ∧ TSs r
end
theorem TSs_all : ∀ l : List RT, TSs l → ∀ t ∈ l, TS t
  | [], _, t, ht => by simp at ht
  | x :: r, h, t, ht => by
    simp only [TSs] at h
    rcases List.mem_cons.1 ht with rfl | ht
    · exact h.1
    · exact TSs_all r h.2 t ht
theorem TS_of {t : RT} (h : TS t) : t.f0.size ≤ 140737488351232 ∧ (∀ x ∈ t.f1, LS x) ∧ ∀ x ∈ t.f2, TS x := by
  obtain ⟨n, l, k⟩ := t
  simp only [TS] at h
  exact ⟨h.1, h.2.1, TSs_all k h.2.2⟩
theorem rdPT (ks : List RT) (i : Nat) (h : i < ks.length) : rd_T31 (ks.map toT) (i : Int) = ⟨ks[i].f0, ks[i].f1.map toL, ks[i].f2.map toT⟩ := by
  unfold rd_T31
  rw [Int.toNat_natCast, List.getD_eq_getElem?_getD, List.getElem?_map, List.getElem?_eq_getElem h]
  exact toT_f _
theorem rdPLm (l : List RL) (i : Nat) (h : i < l.length) : rd_T49 (l.map toL) (i : Int) = ⟨l[i].f0, l[i].f1.map toP, l[i].f2⟩ := by
  unfold rd_T49
  rw [Int.toNat_natCast, List.getD_eq_getElem?_getD, List.getElem?_map, List.getElem?_eq_getElem h]
  rfl
mutual
def cnt : RT → Int
  | ⟨_, l, k⟩ => cnts k (wrap64 (2 + (l.length : Int)))
def cnts : List RT → Int → Int
  | [], a => a
  | t :: r, a => cnts r (wrap64 (a + cnt t))
end
theorem cnt_f (t : RT) : cnt t = cnts t.f2 (wrap64 (2 + (t.f1.length : Int))) := by
  obtain ⟨n, l, k⟩ := t
  simp only [cnt]
theorem cnts_drop (ks : List RT) (i : Nat) (h : i < ks.length) (a : Int) : cnts (ks.drop i) a = cnts (ks.drop (i + 1)) (wrap64 (a + cnt ks[i])) := by
  rw [List.drop_eq_getElem_cons h]; simp only [cnts]
theorem cnts_end (ks : List RT) (a : Int) : cnts (ks.drop ks.length) a = a := by
  rw [List.drop_eq_nil_of_le (Nat.le_refl _)]; simp only [cnts]
theorem cntP_l0 (ks : List RT) (hk : ks.length ≤ 9000000000000000000) (ih : ∀ t ∈ ks, Ev (fun k => tree_Count.f k t.f0 (t.f1.map toL) (t.f2.map toT)) (cnt t)) :
    ∀ (d i : Nat) (a : Int), i + d = ks.length → Ev (fun k => tree_Count.l0 k a (ks.map toT) (ks.length : Int) (i : Int)) (cnts (ks.drop i) a) := by
  intro d
  induction d with
  | zero =>
    intro i a hi
    obtain rfl : i = ks.length := by omega
    rw [cnts_end]
    exact Ev.step (f := fun _ => some a) (fun k => by simp only [tree_Count.l0]; rw [if_neg (by omega)]) (Ev.now _)
  | succ d ihd =>
    intro i a hi
    have hil : i < ks.length := by omega
    rw [cnts_drop ks i hil]
    refine Ev.step (f := fun k => (tree_Count.f k ks[i].f0 (ks[i].f1.map toL) (ks[i].f2.map toT)).bind fun t => tree_Count.l0 k (wrap64 (a + t)) (ks.map toT) (ks.length : Int) ((i + 1 : Nat) : Int)) (fun k => ?_) (Ev.bind (ih _ (List.getElem_mem hil)) (ihd (i + 1) _ (by omega)))
    simp only [tree_Count.l0]
    rw [if_pos (by omega), if_pos (by omega), if_pos (by rw [List.length_map]; omega), rdPT ks i hil, wrapS i _ hil hk]
theorem cntP : ∀ (N : Nat) (t : RT), SizeOf.sizeOf t < N → TB t → Ev (fun k => tree_Count.f k t.f0 (t.f1.map toL) (t.f2.map toT)) (cnt t)
  | 0, t, h, _ => by omega
  | N + 1, t, h, hb => by
    obtain ⟨_, h3, h4⟩ := TB_of hb
    have h0 := cntP_l0 t.f2 (by omega) (fun x hx => cntP N x (by have := kid_lt hx; omega) (h4 x hx)) t.f2.length 0 (wrap64 (2 + (t.f1.length : Int))) (by omega)
    rw [List.drop_zero, ← cnt_f] at h0
    exact Ev.step (fun k => by simp only [tree_Count.f]; rw [List.length_map, List.length_map]; rfl) h0
def bndB (n : ByteArray) : Bool := decide (n.toList = ([66, 69, 71, 73, 78] : List UInt8)) || decide (n.toList = ([69, 78, 68] : List UInt8))
theorem bound_f (n : ByteArray) : tree_bound.f n = some (bndB n) := by
  unfold tree_bound.f bndB
  by_cases h : n.toList = ([66, 69, 71, 73, 78] : List UInt8)
  · rw [if_pos h, decide_eq_true h]; rfl
  · rw [if_neg h, decide_eq_false h, Bool.false_or]
    by_cases h2 : n.toList = ([69, 78, 68] : List UInt8)
    · rw [decide_eq_true h2, beq_iff_eq.2 h2]
    · rw [decide_eq_false h2, beq_eq_false_iff_ne.2 h2]
def okL (x : RL) : Bool := formR x.f0 (x.f1.map toP) x.f2 && !bndB x.f0
mutual
def okT : Nat → RT → Bool
  | d, ⟨n, l, k⟩ => decide (0 < d) && (nameR n && (l.all okL && okTs (d - 1) k))
def okTs : Nat → List RT → Bool
  | _, [] => true
  | d, t :: r => okT d t && okTs d r
end
theorem okT_f (d : Nat) (t : RT) : okT d t = (decide (0 < d) && (nameR t.f0 && (t.f1.all okL && okTs (d - 1) t.f2))) := by
  obtain ⟨n, l, k⟩ := t
  simp only [okT]
theorem okTs_drop (d : Nat) (ks : List RT) (i : Nat) (h : i < ks.length) : okTs d (ks.drop i) = (okT d ks[i] && okTs d (ks.drop (i + 1))) := by
  rw [List.drop_eq_getElem_cons h]; simp only [okTs]
theorem okTs_end (d : Nat) (ks : List RT) : okTs d (ks.drop ks.length) = true := by
  rw [List.drop_eq_nil_of_le (Nat.le_refl _)]; simp only [okTs]
theorem formP_l1 (d0 : Nat) (h0 : 0 < d0) (h4 : d0 ≤ 4) (ks : List RT) (hk : ks.length ≤ 9000000000000000000) (ih : ∀ t ∈ ks, Ev (fun k => tree_formed.f k t.f0 (t.f1.map toL) (t.f2.map toT) ((d0 - 1 : Nat) : Int)) (okT (d0 - 1) t)) :
    ∀ (d i : Nat), i + d = ks.length → Ev (fun k => tree_formed.l1 k (d0 : Int) (ks.map toT) (ks.length : Int) (i : Int)) (okTs (d0 - 1) (ks.drop i)) := by
  intro d
  induction d with
  | zero =>
    intro i hi
    obtain rfl : i = ks.length := by omega
    rw [okTs_end]
    exact Ev.step (f := fun _ => some true) (fun k => by simp only [tree_formed.l1]; rw [if_neg (by omega)]) (Ev.now _)
  | succ d ihd =>
    intro i hi
    have hil : i < ks.length := by omega
    rw [okTs_drop _ ks i hil]
    have hw : wrap64 ((d0 : Int) - 1) = ((d0 - 1 : Nat) : Int) := by unfold wrap64; omega
    refine Ev.step (f := fun k => (tree_formed.f k ks[i].f0 (ks[i].f1.map toL) (ks[i].f2.map toT) ((d0 - 1 : Nat) : Int)).bind fun t => if t = true then tree_formed.l1 k (d0 : Int) (ks.map toT) (ks.length : Int) ((i + 1 : Nat) : Int) else some false) (fun k => ?_) (Ev.bind (ih _ (List.getElem_mem hil)) ?_)
    · simp only [tree_formed.l1]
      rw [if_pos (by omega), if_pos (by omega), if_pos (by rw [List.length_map]; omega), rdPT ks i hil, wrapS i _ hil hk, hw]
    · cases okT (d0 - 1) ks[i] with
      | false => exact Ev.congr (f := fun _ => some false) (fun k => by rw [if_neg (by simp)]) (Ev.now _)
      | true => exact Ev.congr (fun k => by rw [if_pos rfl]) (by rw [Bool.true_and]; exact ihd (i + 1) (by omega))
theorem formP_l0 (x1 : Int) (nm : ByteArray) (l : List RL) (K : List PT) (hl : l.length ≤ 9000000000000000000) (hs : ∀ x ∈ l, LS x) {r : Bool} (next : Ev (fun k => tree_formed.l1 k x1 K (K.length : Int) 0) r) :
    ∀ (d i : Nat), i + d = l.length → Ev (fun k => tree_formed.l0 k x1 (l.map toL) (l.length : Int) (i : Int) nm (l.map toL) K) ((l.drop i).all okL && r) := by
  intro d
  induction d with
  | zero =>
    intro i hi
    rw [List.drop_eq_nil_of_le (by omega), List.all_nil, Bool.true_and]
    exact Ev.step (fun k => by simp only [tree_formed.l0]; rw [if_neg (by omega)]) next
  | succ d ihd =>
    intro i hi
    have hil : i < l.length := by omega
    have hx := hs _ (List.getElem_mem hil)
    rw [List.drop_eq_getElem_cons hil, List.all_cons, Bool.and_assoc]
    refine Ev.step (f := fun k => (line_Formed.f k l[i].f0 (l[i].f1.map toP) l[i].f2).bind fun t => if t = true then ((tree_bound.f l[i].f0).bind fun u => if u = true then some false else tree_formed.l0 k x1 (l.map toL) (l.length : Int) ((i + 1 : Nat) : Int) nm (l.map toL) K) else some false) (fun k => ?_) (Ev.bind (formL l[i].f0 l[i].f2 (l[i].f1.map toP) hx.1 hx.2.1 (fun p hp => by obtain ⟨q, hq, rfl⟩ := List.mem_map.1 hp; exact hx.2.2 q hq)) ?_)
    · simp only [tree_formed.l0]
      rw [if_pos (by omega), if_pos (by omega), if_pos (by rw [List.length_map]; omega), rdPLm l i hil, wrapS i _ hil hl]
    · unfold okL
      cases formR l[i].f0 (l[i].f1.map toP) l[i].f2 with
      | false => exact Ev.congr (f := fun _ => some false) (fun k => by rw [if_neg (by simp)]) (Ev.now _)
      | true =>
        refine Ev.congr (f := fun k => if bndB l[i].f0 = true then some false else tree_formed.l0 k x1 (l.map toL) (l.length : Int) ((i + 1 : Nat) : Int) nm (l.map toL) K) (fun k => by rw [if_pos rfl, bound_f, Option.bind_some]) ?_
        cases bndB l[i].f0 with
        | true => exact Ev.congr (f := fun _ => some false) (fun k => by rw [if_pos rfl]) (Ev.now _)
        | false => exact Ev.congr (fun k => by rw [if_neg (by simp)]) (by rw [Bool.not_false, Bool.true_and, Bool.true_and]; exact ihd (i + 1) (by omega))
theorem formP : ∀ (N : Nat) (t : RT), SizeOf.sizeOf t < N → TB t → TS t → ∀ d : Nat, d ≤ 4 → Ev (fun k => tree_formed.f k t.f0 (t.f1.map toL) (t.f2.map toT) (d : Int)) (okT d t)
  | 0, t, h, _, _ => by omega
  | N + 1, t, h, hb, hs => by
    intro d hd
    obtain ⟨⟨h1, h2⟩, h3, h4⟩ := TB_of hb
    obtain ⟨s1, s2, s3⟩ := TS_of hs
    have hno : ∀ x : Int, Ev (fun k => tree_formed.j0 k x true t.f0 (t.f1.map toL) (t.f2.map toT)) false := fun x => Ev.step (f := fun _ => some false) (fun k => by simp only [tree_formed.j0]; rfl) (Ev.now _)
    rw [okT_f]
    by_cases h0 : 0 < d
    case neg =>
      rw [decide_eq_false h0, Bool.false_and]
      exact Ev.step (fun k => by simp only [tree_formed.f]; rw [if_pos (by omega)]) (hno _)
    rw [decide_eq_true h0, Bool.true_and]
    refine Ev.step (f := fun k => (line_Name.f k t.f0).bind fun t210 => tree_formed.j0 k (d : Int) (!t210) t.f0 (t.f1.map toL) (t.f2.map toT)) (fun k => by simp only [tree_formed.f]; rw [if_neg (by omega)]) (Ev.bind (nameL t.f0 s1) ?_)
    cases nameR t.f0 with
    | false => exact hno _
    | true =>
      rw [Bool.true_and]
      have n1 := formP_l1 d h0 hd t.f2 (by omega) (fun x hx => formP N x (by have := kid_lt hx; omega) (h4 x hx) (s3 x hx) (d - 1) (by omega)) t.f2.length 0 (by omega)
      rw [List.drop_zero] at n1
      have n0 := formP_l0 (d : Int) t.f0 t.f1 (t.f2.map toT) (by omega) s2 (r := okTs (d - 1) t.f2) (by rw [List.length_map]; exact n1) t.f1.length 0 (by omega)
      rw [List.drop_zero] at n0
      exact Ev.step (fun k => by simp only [tree_formed.j0]; rw [if_neg (by simp), List.length_map]; rfl) n0
def formT (t : RT) : Bool := okT 4 t && decide (cnt t ≤ 300)
theorem formTP (t : RT) (hb : TB t) (hs : TS t) : Ev (fun k => tree_Formed.f k t.f0 (t.f1.map toL) (t.f2.map toT)) (formT t) := by
  have h1 := formP _ t (Nat.lt_succ_self _) hb hs 4 (by omega)
  have h2 := cntP _ t (Nat.lt_succ_self _) hb
  unfold formT
  refine Ev.bind h1 ?_
  cases okT 4 t with
  | false => exact Ev.congr (f := fun _ => some false) (fun k => by rw [if_neg (by simp)]) (Ev.now _)
  | true => exact Ev.congr (fun k => by rw [if_pos rfl]) (Ev.bind h2 (Ev.now _))
end Go.Proofs.YtdojmdbaiddkgaaGreatDoor.Pure
end
section
set_option linter.unusedVariables false
set_option linter.unusedSimpArgs false
set_option linter.unusedSectionVars false
namespace Go.Proofs.YtdojmdbaiddkgaaGreatDoor.Pure
open Go.RowKit Go.Proofs.YtdojmdbaiddkgaaGreatDoor.Print Go.Proofs.YtdojmdbaiddkgaaGreatDoorW.PrintWords Go.Proofs.YtdojmdbaiddkgaaGreatDoorW.PrintLast Go.Proofs.YtdojmdbaiddkgaaGreatDoorW.PrintMore
def goodL (x : RL) : Prop := (lineT x.f0 (x.f1.map toP) x.f2).length ≤ 1000000000
mutual
def goodT : RT → Prop
  | ⟨_, l, k⟩ => (∀ x ∈ l, goodL x) ∧ goodTs k
def goodTs : List RT → Prop
  | [] => True
  | t :: r => goodT t ∧ goodTs r
end
theorem goodTs_all : ∀ l : List RT, goodTs l → ∀ t ∈ l, goodT t
  | [], _, t, ht => by simp at ht
  | x :: r, h, t, ht => by
    simp only [goodTs] at h
    rcases List.mem_cons.1 ht with rfl | ht
    · exact h.1
    · exact goodTs_all r h.2 t ht
theorem goodT_of {t : RT} (h : goodT t) : (∀ x ∈ t.f1, goodL x) ∧ ∀ x ∈ t.f2, goodT x := by
  obtain ⟨n, l, k⟩ := t
  simp only [goodT] at h
  exact ⟨h.1, goodTs_all k h.2⟩
mutual
def nL : RT → Nat
  | ⟨_, l, k⟩ => 2 + l.length + nLs k
def nLs : List RT → Nat
  | [] => 0
  | t :: r => nL t + nLs r
end
theorem nL_f (t : RT) : nL t = 2 + t.f1.length + nLs t.f2 := by
  obtain ⟨n, l, k⟩ := t
  simp only [nL]
theorem okTs_all (d : Nat) : ∀ l : List RT, okTs d l = true → ∀ t ∈ l, okT d t = true
  | [], _, t, ht => by simp at ht
  | x :: r, h, t, ht => by
    simp only [okTs, Bool.and_eq_true] at h
    rcases List.mem_cons.1 ht with rfl | ht
    · exact h.1
    · exact okTs_all d r h.2 t ht
theorem okT_of {d : Nat} {t : RT} (h : okT d t = true) : 0 < d ∧ nameR t.f0 = true ∧ (∀ x ∈ t.f1, okL x = true) ∧ ∀ x ∈ t.f2, okT (d - 1) x = true := by
  rw [okT_f] at h
  simp only [Bool.and_eq_true, decide_eq_true_eq] at h
  exact ⟨h.1, h.2.1, fun x hx => List.all_eq_true.1 h.2.2.1 x hx, okTs_all _ _ h.2.2.2⟩
theorem name_size {n : ByteArray} (h : nameR n = true) : 1 ≤ n.size ∧ n.size ≤ 60 := by
  unfold nameR at h
  simp only [Bool.and_eq_true, decide_eq_true_eq] at h
  exact h.2
theorem okL_of {x : RL} (h : okL x = true) : formR x.f0 (x.f1.map toP) x.f2 = true := by
  unfold okL at h
  simp only [Bool.and_eq_true] at h
  exact h.1
def lnL : List RL → List ByteArray → List ByteArray × Int
  | [], a => (a, 0)
  | x :: r, a => if (printR x.f0 (x.f1.map toP) x.f2).2 = 0 then lnL r (a ++ [(printR x.f0 (x.f1.map toP) x.f2).1]) else ([], (printR x.f0 (x.f1.map toP) x.f2).2)
def finL (n : ByteArray) (p : List ByteArray × Int) : List ByteArray × Int := if p.2 = 0 then (p.1 ++ [(⟨#[69, 78, 68, 58]⟩ : ByteArray) ++ n], 0) else ([], p.2)
mutual
def lnT : RT → List ByteArray × Int
  | ⟨n, l, k⟩ => if (lnL l [(⟨#[66, 69, 71, 73, 78, 58]⟩ : ByteArray) ++ n]).2 = 0 then finL n (lnK k (lnL l [(⟨#[66, 69, 71, 73, 78, 58]⟩ : ByteArray) ++ n]).1) else ([], (lnL l [(⟨#[66, 69, 71, 73, 78, 58]⟩ : ByteArray) ++ n]).2)
def lnK : List RT → List ByteArray → List ByteArray × Int
  | [], a => (a, 0)
  | t :: r, a => if (lnT t).2 = 0 then lnK r (a ++ (lnT t).1) else ([], (lnT t).2)
end
def lnTl (n : ByteArray) (k : List RT) (p : List ByteArray × Int) : List ByteArray × Int := if p.2 = 0 then finL n (lnK k p.1) else ([], p.2)
theorem lnT_f (t : RT) : lnT t = lnTl t.f0 t.f2 (lnL t.f1 [(⟨#[66, 69, 71, 73, 78, 58]⟩ : ByteArray) ++ t.f0]) := by
  obtain ⟨n, l, k⟩ := t
  simp only [lnT]
  rfl
theorem lnL_len : ∀ (l : List RL) (a : List ByteArray), (lnL l a).1.length ≤ a.length + l.length
  | [], a => by simp [lnL]
  | x :: r, a => by
    unfold lnL
    split
    · have := lnL_len r (a ++ [(printR x.f0 (x.f1.map toP) x.f2).1])
      rw [List.length_append, List.length_singleton] at this
      rw [List.length_cons]; omega
    · simp
theorem lnK_len : ∀ (ks : List RT) (a : List ByteArray), (∀ t ∈ ks, (lnT t).1.length ≤ nL t) → (lnK ks a).1.length ≤ a.length + nLs ks
  | [], a, _ => by simp [lnK, nLs]
  | t :: r, a, h => by
    simp only [lnK, nLs]
    split
    · have := lnK_len r (a ++ (lnT t).1) (fun x hx => h x (by simp [hx]))
      rw [List.length_append] at this
      have := h t (by simp)
      omega
    · simp
theorem lnT_len : ∀ (N : Nat) (t : RT), SizeOf.sizeOf t < N → (lnT t).1.length ≤ nL t
  | 0, t, h => by omega
  | N + 1, t, h => by
    rw [lnT_f, nL_f]
    unfold lnTl
    split
    · unfold finL
      split
      · have h1 := lnL_len t.f1 [(⟨#[66, 69, 71, 73, 78, 58]⟩ : ByteArray) ++ t.f0]
        have h2 := lnK_len t.f2 (lnL t.f1 [(⟨#[66, 69, 71, 73, 78, 58]⟩ : ByteArray) ++ t.f0]).1 (fun x hx => lnT_len N x (by have := kid_lt hx; omega))
        rw [List.length_singleton] at h1
        rw [List.length_append, List.length_singleton]
        omega
      · simp
    · simp
theorem print_size (nm : ByteArray) (l : List LP) (v : ByteArray) (h : (printR nm l v).2 = 0) : (printR nm l v).1.size ≤ 2000 := by
  unfold printR at h ⊢
  split at h
  · rename_i h1
    rw [if_pos h1]
    unfold lineR at h ⊢
    split at h
    · cases h
    · rename_i h2
      rw [if_neg h2]
      show (lineT nm l v).toArray.size ≤ 2000
      rw [List.size_toArray]; omega
  · cases h
theorem lnL_size : ∀ (l : List RL) (a : List ByteArray), (∀ x ∈ a, x.size ≤ 2000) → ∀ x ∈ (lnL l a).1, x.size ≤ 2000
  | [], a, h => by simpa [lnL] using h
  | y :: r, a, h => by
    unfold lnL
    split
    · rename_i h0
      refine lnL_size r _ (fun x hx => ?_)
      rcases List.mem_append.1 hx with hx | hx
      · exact h x hx
      · rw [List.mem_singleton.1 hx]; exact print_size _ _ _ h0
    · intro x hx; simp at hx
theorem lnK_size : ∀ (ks : List RT) (a : List ByteArray), (∀ x ∈ a, x.size ≤ 2000) → (∀ t ∈ ks, ∀ x ∈ (lnT t).1, x.size ≤ 2000) → ∀ x ∈ (lnK ks a).1, x.size ≤ 2000
  | [], a, h, _ => by simpa [lnK] using h
  | t :: r, a, h, ht => by
    simp only [lnK]
    split
    · refine lnK_size r _ (fun x hx => ?_) (fun y hy => ht y (by simp [hy]))
      rcases List.mem_append.1 hx with hx | hx
      · exact h x hx
      · exact ht t (by simp) x hx
    · intro x hx; simp at hx
theorem lnT_size : ∀ (N : Nat) (t : RT), SizeOf.sizeOf t < N → ∀ d, okT d t = true → ∀ x ∈ (lnT t).1, x.size ≤ 2000
  | 0, t, h => by omega
  | N + 1, t, h => by
    intro d hok
    obtain ⟨o1, o2, o3, o4⟩ := okT_of hok
    have hnm := name_size o2
    rw [lnT_f]
    unfold lnTl
    have hb : ∀ x ∈ [(⟨#[66, 69, 71, 73, 78, 58]⟩ : ByteArray) ++ t.f0], x.size ≤ 2000 := fun x hx => by
      rw [List.mem_singleton.1 hx, ByteArray.size_append]; show 6 + _ ≤ _; omega
    split
    · unfold finL
      split
      · intro x hx
        rcases List.mem_append.1 hx with hx | hx
        · exact lnK_size t.f2 _ (lnL_size t.f1 _ hb) (fun y hy => lnT_size N y (by have := kid_lt hy; omega) (d - 1) (o4 y hy)) x hx
        · rw [List.mem_singleton.1 hx, ByteArray.size_append]; show 4 + _ ≤ _; omega
      · intro x hx; simp at hx
    · intro x hx; simp at hx
theorem goodL_len {x : RL} (h : goodL x) : (lineT x.f0 (x.f1.map toP) x.f2).length ≤ 1000000000 ∧ True := ⟨h, trivial⟩
theorem lnL_drop (l : List RL) (i : Nat) (h : i < l.length) (a : List ByteArray) : lnL (l.drop i) a = if (printR l[i].f0 (l[i].f1.map toP) l[i].f2).2 = 0 then lnL (l.drop (i + 1)) (a ++ [(printR l[i].f0 (l[i].f1.map toP) l[i].f2).1]) else ([], (printR l[i].f0 (l[i].f1.map toP) l[i].f2).2) := by
  rw [List.drop_eq_getElem_cons h]; rfl
theorem lnK_drop (l : List RT) (i : Nat) (h : i < l.length) (a : List ByteArray) : lnK (l.drop i) a = if (lnT l[i]).2 = 0 then lnK (l.drop (i + 1)) (a ++ (lnT l[i]).1) else ([], (lnT l[i]).2) := by
  rw [List.drop_eq_getElem_cons h]; simp only [lnK]
theorem nLs_drop (l : List RT) (i : Nat) (h : i < l.length) : nLs (l.drop i) = nL l[i] + nLs (l.drop (i + 1)) := by
  rw [List.drop_eq_getElem_cons h]; simp only [nLs]
theorem linesP_l1 (nm : ByteArray) (L : List PL) (ks : List RT) (hn : nm.size ≤ 140737488351232) (hk : ks.length ≤ 9000000000000000000) (ih : ∀ t ∈ ks, Ev (fun k => tree_lines.f k t.f0 (t.f1.map toL) (t.f2.map toT)) (lnT t)) :
    ∀ (d i : Nat) (a : List ByteArray), i + d = ks.length → a.length + nLs (ks.drop i) ≤ 1000000 → Ev (fun k => tree_lines.l1 k a (ks.map toT) (ks.length : Int) (i : Int) nm L (ks.map toT)) (finL nm (lnK (ks.drop i) a)) := by
  intro d
  induction d with
  | zero =>
    intro i a hi ha
    obtain rfl : i = ks.length := by omega
    rw [List.drop_eq_nil_of_le (Nat.le_refl _)] at ha ⊢
    have ha : a.length ≤ 1000000 := by omega
    have ha2 : a.length < 8796093022208 := by omega
    refine Ev.step (f := fun _ => some (a ++ [(⟨#[69, 78, 68, 58]⟩ : ByteArray) ++ nm], 0)) (fun k => ?_) (by simp only [lnK, finL]; exact Ev.now _)
    simp only [tree_lines.l1]
    rw [if_neg (by omega), if_pos (by omega), if_pos ha2]
  | succ d ihd =>
    intro i a hi ha
    have hil : i < ks.length := by omega
    have hlen := lnT_len _ ks[i] (Nat.lt_succ_self _)
    rw [nLs_drop ks i hil] at ha
    rw [lnK_drop ks i hil]
    refine Ev.step (f := fun k => (tree_lines.f k ks[i].f0 (ks[i].f1.map toL) (ks[i].f2.map toT)).bind fun bt => if bt.2 = 0 then (if a.length + bt.1.length < 8796093022208 then tree_lines.l1 k (a ++ bt.1) (ks.map toT) (ks.length : Int) ((i + 1 : Nat) : Int) nm L (ks.map toT) else none) else some ([], bt.2)) (fun k => ?_) (Ev.bind (ih _ (List.getElem_mem hil)) ?_)
    · simp only [tree_lines.l1]
      rw [if_pos (by omega), if_pos (by omega), if_pos (by rw [List.length_map]; omega), rdPT ks i hil, wrapS i _ hil hk]
    · by_cases h0 : (lnT ks[i]).2 = 0
      · refine Ev.congr (fun k => by rw [if_pos h0, if_pos (by omega)]) ?_
        rw [if_pos h0]
        exact ihd (i + 1) _ (by omega) (by rw [List.length_append]; omega)
      · refine Ev.congr (f := fun _ => some ([], (lnT ks[i]).2)) (fun k => by rw [if_neg h0]) ?_
        rw [if_neg h0]
        unfold finL
        rw [if_neg (show ¬ (([] : List ByteArray), (lnT ks[i]).2).2 = 0 from h0)]
        exact Ev.now _
theorem linesP_l0 (nm : ByteArray) (l : List RL) (ks : List RT) (hl : l.length < 2513169434916) (hs : ∀ x ∈ l, LS x) (hg : ∀ x ∈ l, goodL x) (m : Nat) (hm : m ≤ 900000)
    (next : ∀ a : List ByteArray, a.length ≤ m → Ev (fun k => tree_lines.l1 k a (ks.map toT) ((ks.map toT).length : Int) 0 nm (l.map toL) (ks.map toT)) (finL nm (lnK ks a))) :
    ∀ (d i : Nat) (a : List ByteArray), i + d = l.length → a.length + d ≤ m → Ev (fun k => tree_lines.l0 k a (l.map toL) (l.length : Int) (i : Int) nm (l.map toL) (ks.map toT)) (lnTl nm ks (lnL (l.drop i) a)) := by
  intro d
  induction d with
  | zero =>
    intro i a hi ha
    obtain rfl : i = l.length := by omega
    rw [List.drop_eq_nil_of_le (Nat.le_refl _)]
    refine Ev.step (fun k => by simp only [tree_lines.l0]; rw [if_neg (by omega)]) ?_
    unfold lnTl
    simp only [lnL]
    exact next a (by omega)
  | succ d ihd =>
    intro i a hi ha
    have hil : i < l.length := by omega
    have hx := hs _ (List.getElem_mem hil)
    have hgl := goodL_len (hg _ (List.getElem_mem hil))
    rw [lnL_drop l i hil]
    have ha2 : a.length < 8796093022208 := by omega
    refine Ev.step (f := fun k => (line_Print.f k l[i].f0 (l[i].f1.map toP) l[i].f2).bind fun bt => if bt.2 = 0 then (if a.length < 8796093022208 then tree_lines.l0 k (a ++ [bt.1]) (l.map toL) (l.length : Int) ((i + 1 : Nat) : Int) nm (l.map toL) (ks.map toT) else none) else some ([], bt.2)) (fun k => ?_) (Ev.bind (printL l[i].f0 l[i].f2 (l[i].f1.map toP) hx.1 hx.2.1 (fun p hp => by obtain ⟨q, hq, rfl⟩ := List.mem_map.1 hp; exact hx.2.2 q hq) (fun _ => by have := hgl.1; omega)) ?_)
    · simp only [tree_lines.l0]
      rw [if_pos (by omega), if_pos (by omega), if_pos (by rw [List.length_map]; omega), rdPLm l i hil, wrapS i _ hil (by omega)]
    · by_cases h0 : (printR l[i].f0 (l[i].f1.map toP) l[i].f2).2 = 0
      · refine Ev.congr (fun k => by rw [if_pos h0, if_pos ha2]) ?_
        rw [if_pos h0]
        exact ihd (i + 1) _ (by omega) (by rw [List.length_append, List.length_singleton]; omega)
      · refine Ev.congr (f := fun _ => some ([], (printR l[i].f0 (l[i].f1.map toP) l[i].f2).2)) (fun k => by rw [if_neg h0]) ?_
        rw [if_neg h0]
        unfold lnTl
        rw [if_neg (show ¬ (([] : List ByteArray), (printR l[i].f0 (l[i].f1.map toP) l[i].f2).2).2 = 0 from h0)]
        exact Ev.now _
theorem nLs_mem : ∀ (l : List RT) (t : RT), t ∈ l → nL t ≤ nLs l
  | x :: r, t, h => by
    simp only [nLs]
    rcases List.mem_cons.1 h with rfl | h
    · omega
    · have := nLs_mem r t h; omega
theorem linesP : ∀ (N : Nat) (t : RT), SizeOf.sizeOf t < N → TB t → TS t → goodT t → nL t ≤ 500000 → Ev (fun k => tree_lines.f k t.f0 (t.f1.map toL) (t.f2.map toT)) (lnT t)
  | 0, t, h, _, _ => by omega
  | N + 1, t, h, hb, hs => by
    intro hg hn
    obtain ⟨⟨h1, h2⟩, h3, h4⟩ := TB_of hb
    obtain ⟨s1, s2, s3⟩ := TS_of hs
    obtain ⟨g1, g2⟩ := goodT_of hg
    rw [nL_f] at hn
    rw [lnT_f]
    have n0 := linesP_l0 t.f0 t.f1 t.f2 h1 s2 g1 (1 + t.f1.length) (by omega) (fun a ha => by
      have n1 := linesP_l1 t.f0 (t.f1.map toL) t.f2 s1 (by omega) (fun x hx => linesP N x (by have := kid_lt hx; omega) (h4 x hx) (s3 x hx) (g2 x hx) (by have := nLs_mem _ x hx; omega)) t.f2.length 0 a (by omega) (by rw [List.drop_zero]; omega)
      rw [List.drop_zero] at n1
      rw [List.length_map]
      exact n1) t.f1.length 0 [(⟨#[66, 69, 71, 73, 78, 58]⟩ : ByteArray) ++ t.f0] (by omega) (by rw [List.length_singleton]; exact Nat.le_refl _)
    rw [List.drop_zero] at n0
    exact Ev.step (fun k => by simp only [tree_lines.f]; rw [if_pos (by omega), List.length_map]; rfl) n0
def prT (t : RT) : ByteArray × Int := if formT t = true then (if (lnT t).2 = 0 then foldA (lnT t).1 else (⟨#[]⟩, (lnT t).2)) else (⟨#[]⟩, 1)
theorem prTP (t : RT) (hb : TB t) (hs : TS t) (hg : formT t = true → goodT t ∧ nL t ≤ 50000) : Ev (fun k => tree_Print.f k t.f0 (t.f1.map toL) (t.f2.map toT)) (prT t) := by
  have h1 := formTP t hb hs
  unfold prT
  refine Ev.bind h1 ?_
  cases hf : formT t with
  | false => exact Ev.congr (f := fun _ => some (⟨#[]⟩, 1)) (fun k => by rw [if_neg (by simp)]) (by rw [if_neg (by simp)]; exact Ev.now _)
  | true =>
    obtain ⟨g1, g2⟩ := hg hf
    have hok : okT 4 t = true := by unfold formT at hf; simp only [Bool.and_eq_true] at hf; exact hf.1
    rw [if_pos rfl]
    refine Ev.congr (fun k => by rw [if_pos rfl]) (Ev.bind (linesP _ t (Nat.lt_succ_self _) hb hs g1 (by omega)) ?_)
    by_cases h0 : (lnT t).2 = 0
    · rw [show (if (lnT t).2 = 0 then foldA (lnT t).1 else ((⟨#[]⟩ : ByteArray), (lnT t).2)) = foldA (lnT t).1 from if_pos h0]
      have hsz := lnT_size _ t (Nat.lt_succ_self _) 4 hok
      have hf : fold_Fold.f (lnT t).1 = some (foldA (lnT t).1) := by unfold fold_Fold.f; rw [if_pos (fun x hx => by have := hsz x hx; omega)]
      refine Ev.congr (f := fun _ => some (foldA (lnT t).1)) (fun k => ?_) (Ev.now _)
      rw [if_pos h0, hf]; rfl
    · rw [show (if (lnT t).2 = 0 then foldA (lnT t).1 else ((⟨#[]⟩ : ByteArray), (lnT t).2)) = (⟨#[]⟩, (lnT t).2) from if_neg h0]
      exact Ev.congr (f := fun _ => some (⟨#[]⟩, (lnT t).2)) (fun k => by rw [if_neg h0]) (Ev.now _)
end Go.Proofs.YtdojmdbaiddkgaaGreatDoor.Pure
end
section
set_option linter.unusedVariables false
set_option linter.unusedSimpArgs false
set_option linter.unusedSectionVars false
namespace Go.Proofs.YtdojmdbaiddkgaaGreatDoor.Pure
open Go.RowKit Go.Proofs.YtdojmdbaiddkgaaGreatDoor.Print Go.Proofs.YtdojmdbaiddkgaaGreatDoorW.PrintWords Go.Proofs.YtdojmdbaiddkgaaGreatDoorW.PrintLast Go.Proofs.YtdojmdbaiddkgaaGreatDoorW.PrintMore
theorem up_sign (c : UInt8) (h : upB c = true) : signS c = true := by
  have h1 : ∀ c : Fin 256, upB (UInt8.ofFin c) = true → signS (UInt8.ofFin c) = true := by decide +kernel
  exact h1 c.toFin h
theorem up_great (c : UInt8) (h : upB c = true) : greatB c = c := by
  have h1 : ∀ c : Fin 256, upB (UInt8.ofFin c) = true → greatB (UInt8.ofFin c) = UInt8.ofFin c := by decide +kernel
  exact h1 c.toFin h
theorem sign_great (c : UInt8) (h : signS c = true) : upB (greatB c) = true := by
  have h1 : ∀ c : Fin 256, signS (UInt8.ofFin c) = true → upB (greatB (UInt8.ofFin c)) = true := by decide +kernel
  exact h1 c.toFin h
theorem up_low (c : UInt8) (h : upB c = true) : c.toNat < 128 := by
  have h1 : ∀ c : Fin 256, upB (UInt8.ofFin c) = true → (UInt8.ofFin c).toNat < 128 := by decide +kernel
  exact h1 c.toFin h
theorem sign_58 : signS 58 = false := by decide +kernel
theorem sign_59 : signS 59 = false := by decide +kernel
theorem sign_61 : signS 61 = false := by decide +kernel
theorem nameEnd_of : ∀ (l : List UInt8) (c : UInt8) (t : List UInt8) (n : Nat), l.all upB = true → l.length ≤ n → signS c = false → nameEnd (l ++ c :: t) n = l.length
  | [], c, t, n, _, _, hc => by
    cases n with
    | zero => exact nameEnd_zero _
    | succ n => exact nameEnd_no c t n hc
  | x :: l, c, t, n, h, hl, hc => by
    rw [List.all_cons, Bool.and_eq_true] at h
    cases n with
    | zero => simp at hl
    | succ n =>
      rw [List.cons_append, nameEnd_yes x _ n (up_sign x h.1), nameEnd_of l c t n h.2 (by simpa using hl) hc]; rfl
theorem map_great : ∀ l : List UInt8, l.all upB = true → l.map greatB = l
  | [], _ => rfl
  | x :: t, h => by
    rw [List.all_cons, Bool.and_eq_true] at h
    rw [List.map_cons, up_great x h.1, map_great t h.2]
theorem great_of (s : ByteArray) (h : s.data.toList.all upB = true) : greatS s = s := by
  unfold greatS; rw [map_great _ h, ba_backB]
theorem nameR_of {s : ByteArray} (h : nameR s = true) : s.data.toList.all upB = true ∧ 1 ≤ s.size ∧ s.size ≤ 60 := by
  unfold nameR at h
  rw [Bool.and_eq_true, Bool.and_eq_true, decide_eq_true_eq, decide_eq_true_eq] at h; exact h
theorem nameR_mk {s : ByteArray} (h1 : s.data.toList.all upB = true) (h2 : 1 ≤ s.size) (h3 : s.size ≤ 60) : nameR s = true := by
  unfold nameR; rw [h1, decide_eq_true h2, decide_eq_true h3]; rfl
theorem plain_q (c : UInt8) : plainV c = !(qB c) := by
  unfold plainV qB
  cases c == 34 <;> cases c == 58 <;> cases c == 59 <;> cases c == 44 <;> rfl
theorem takeW_of : ∀ (l : List UInt8) (c : UInt8) (t : List UInt8), l.any qB = false → plainV c = false → (l ++ c :: t).takeWhile plainV = l
  | [], c, t, _, hc => by rw [List.nil_append, List.takeWhile_cons, if_neg (by simp [hc])]
  | x :: l, c, t, h, hc => by
    rw [List.any_cons, Bool.or_eq_false_iff] at h
    rw [List.cons_append, List.takeWhile_cons, if_pos (by rw [plain_q, h.1]; rfl), takeW_of l c t h.2 hc]
theorem idx_34r : ∀ (l r : List UInt8), l.any (· == 34) = false → Lib.indexByte (l ++ 34 :: r) 34 = (l.length : Int)
  | [], r, _ => rfl
  | c :: t, r, h => by
    rw [List.any_cons, Bool.or_eq_false_iff] at h
    have ih := idx_34r t r h.2
    show Lib.indexByte (c :: (t ++ 34 :: r)) 34 = _
    unfold Lib.indexByte
    rw [h.1, ih]
    have hn : (((t.length : Nat) : Int) == -1) = false := beq_eq_false_iff_ne.2 (by omega)
    rw [hn]
    simp
theorem valEnd_par (x : List UInt8) (c : UInt8) (t : List UInt8) (hc : plainV c = false) (hc2 : c ≠ 34) : valEnd (parL x ++ c :: t) = some (parL x).length := by
  by_cases hq : x.any quoB = true
  · have hL : parL x = 34 :: (parT x ++ [34]) := by unfold parL; rw [if_pos hq]; rfl
    unfold valEnd
    rw [hL]
    rw [if_pos (by rfl)]
    have e : (List.drop 1 (34 :: (parT x ++ [34]) ++ c :: t)) = parT x ++ 34 :: (c :: t) := by simp
    rw [e, idx_34r _ _ (par_34 x), if_neg (by omega)]
    simp
  · have hL : parL x = parT x := by unfold parL; rw [if_neg hq]
    have ha : (parT x).any qB = false := by rw [par_any]; simpa using hq
    unfold valEnd
    rw [hL, takeW_of _ _ _ ha hc, if_neg]
    cases hp : parT x with
    | nil => intro e; exact hc2 (by simpa using e)
    | cons y u =>
      rw [hp, List.any_cons, Bool.or_eq_false_iff] at ha
      intro e
      have e2 : y = 34 := by simpa using e
      rw [e2] at ha
      exact absurd ha.1 (by decide)
theorem up_valid : ∀ (l s : List UInt8), l.all upB = true → Lib.validD (l ++ s) = Lib.validD s
  | [], s, _ => rfl
  | x :: l, s, h => by
    rw [List.all_cons, Bool.and_eq_true] at h
    rw [List.cons_append, Lib.validD_cons _ _ (up_low x h.1), up_valid l s h.2]
theorem parL_valid (x s : List UInt8) (h : Lib.validD x = true) : Lib.validD (parL x ++ s) = Lib.validD s := by
  by_cases hq : x.any quoB = true
  · have hL : parL x = 34 :: (parT x ++ [34]) := by unfold parL; rw [if_pos hq]; rfl
    rw [hL, List.cons_append, Lib.validD_cons _ _ (by decide), List.append_assoc, par_valid x.length x _ (Nat.le_refl _) h]
    show Lib.validD (34 :: s) = _
    rw [Lib.validD_cons _ _ (by decide)]
  · have hL : parL x = parT x := by unfold parL; rw [if_neg hq]
    rw [hL, par_valid x.length x _ (Nat.le_refl _) h]
theorem valsT_valid : ∀ (l : List ByteArray) (b : UInt8) (s : List UInt8), b.toNat < 128 → (∀ x ∈ l, cleanR true x.data.toList = 0) → Lib.validD (valsT l b ++ s) = Lib.validD s
  | [], b, s, _, _ => rfl
  | x :: l, b, s, hb, h => by
    rw [valsT, List.cons_append, List.cons_append, Lib.validD_cons _ _ hb, List.append_assoc, parL_valid _ _ (clean_true (h x (by simp))).1]
    exact valsT_valid l 44 s (by decide) (fun y hy => h y (by simp [hy]))
theorem parsT_valid : ∀ (l : List LP) (s : List UInt8), (∀ p ∈ l, parR p.f0 p.f1 = true) → Lib.validD (parsT l ++ s) = Lib.validD s
  | [], s, _ => rfl
  | p :: l, s, h => by
    have hp := parR_of (h p (by simp))
    rw [parsT, List.cons_append, List.cons_append, List.cons_append, Lib.validD_cons _ _ (by decide), List.append_assoc, List.append_assoc, up_valid _ _ (nameR_of hp.1).1, valsT_valid _ _ _ (by decide) hp.2.2.2]
    exact parsT_valid l s (fun q hq => h q (by simp [hq]))
theorem line_valid {nm v : ByteArray} {l : List LP} (h : formR nm l v = true) : Lib.validD (lineT nm l v) = true := by
  obtain ⟨h1, h2, h3, h4⟩ := formR_of h
  unfold lineT
  rw [List.append_assoc, up_valid _ _ (nameR_of h1).1, parsT_valid _ _ (okPs_all _ _ h4), Lib.validD_cons _ _ (by decide)]
  unfold cleanR at h3
  by_cases hv : Lib.validD v.data.toList = true
  · exact hv
  · rw [if_neg hv] at h3; exact absurd h3 (by decide)
theorem carL_high (x : UInt8) (t : List UInt8) (h : 128 ≤ x.toNat) : carL (x :: t) = x :: carL t := by
  have : x ≠ 94 := by rintro rfl; exact absurd h (by decide)
  cases t <;> simp [carL, this]
theorem carL_not (x : UInt8) (t : List UInt8) (h : x ≠ 94) : carL (x :: t) = x :: carL t := by cases t <;> simp [carL, h]
theorem carL_94 (y : UInt8) (t : List UInt8) : carL (94 :: y :: t) = if y = 110 then 10 :: carL t else if y = 39 then 34 :: carL t else if y = 94 then 94 :: carL t else 94 :: carL (y :: t) := by simp [carL]
theorem car_valid : ∀ (n : Nat) (l : List UInt8), l.length ≤ n → Lib.validD l = true → Lib.validD (carL l) = true
  | _, [], _, _ => rfl
  | 0, a :: t, hn, _ => by simp at hn
  | n + 1, x :: l, hn, h => by
    rcases valid_head (x :: l) (by simp) h with ⟨a, t, e, ha, hv⟩ | ⟨a, b, t, e, ha, hv⟩ | ⟨a, b, c, t, e, ha, hv⟩ | ⟨a, b, c, d, t, e, ha, hv⟩
    · have hl := congrArg List.length e
      simp only [List.length_cons] at hl hn
      rw [e]
      by_cases h94 : a = 94
      · subst h94
        cases t with
        | nil => rfl
        | cons y u =>
          simp only [List.length_cons] at hl
          have ih1 := car_valid n (y :: u) (by simp; omega) hv
          rw [carL_94]
          have low : ∀ z : UInt8, y = z → z.toNat < 128 → Lib.validD u = true := fun z hz hzl => by
            subst hz; rw [Lib.validD_cons _ _ hzl] at hv; exact hv
          split
          · rename_i hy
            rw [Lib.validD_cons _ _ (by decide)]; exact car_valid n u (by omega) (low _ hy (by decide))
          split
          · rename_i hy
            rw [Lib.validD_cons _ _ (by decide)]; exact car_valid n u (by omega) (low _ hy (by decide))
          split
          · rename_i hy
            rw [Lib.validD_cons _ _ (by decide)]; exact car_valid n u (by omega) (low _ hy (by decide))
          · rw [Lib.validD_cons _ _ (by decide)]; exact ih1
      · rw [carL_not a t h94, Lib.validD_cons _ _ ha]; exact car_valid n t (by omega) hv
    · have hl := congrArg List.length e
      simp only [List.length_cons] at hl hn
      rw [e, carL_high a _ (by have := ha.1; omega), carL_high b _ (by have := ha.2; omega), valid_2 _ _ _ ha]
      exact car_valid n t (by omega) hv
    · have hl := congrArg List.length e
      simp only [List.length_cons] at hl hn
      obtain ⟨h1, h2, h3⟩ := ha
      rw [e, carL_high a _ (by omega), carL_high b _ (by omega), carL_high c _ (by omega), valid_3 _ _ _ _ ⟨h1, h2, h3⟩]
      exact car_valid n t (by omega) hv
    · have hl := congrArg List.length e
      simp only [List.length_cons] at hl hn
      obtain ⟨h1, h2, h3⟩ := ha
      rw [e, carL_high a _ (by omega), carL_high b _ (by omega), carL_high c _ (by omega), carL_high d _ (by omega), valid_4 _ _ _ _ _ ⟨h1, h2, h3⟩]
      exact car_valid n t (by omega) hv
theorem okB_mono (c : UInt8) (h : okB false c = true) : okB true c = true := by
  unfold okB at h ⊢
  revert h
  cases c == 127 <;> cases decide (c.toNat < 32) <;> cases c != 9 <;> cases c == 10 <;> simp
theorem car_ok : ∀ (n : Nat) (l : List UInt8), l.length ≤ n → l.all (okB false) = true → (carL l).all (okB true) = true
  | _, [], _, _ => rfl
  | 0, a :: t, hn, _ => by simp at hn
  | n + 1, a :: t, hn, h => by
    rw [List.all_cons, Bool.and_eq_true] at h
    simp only [List.length_cons] at hn
    by_cases h94 : a = 94
    · subst h94
      cases t with
      | nil => rfl
      | cons y u =>
        have ih1 := car_ok n (y :: u) (by omega) h.2
        have hu : u.all (okB false) = true := by have := h.2; rw [List.all_cons, Bool.and_eq_true] at this; exact this.2
        simp only [List.length_cons] at hn
        have ih2 := car_ok n u (by omega) hu
        rw [carL_94]
        split
        · rw [List.all_cons, ih2]; rfl
        split
        · rw [List.all_cons, ih2]; rfl
        split
        · rw [List.all_cons, ih2]; rfl
        · rw [List.all_cons, ih1]; rfl
    · rw [carL_not a t h94, List.all_cons, okB_mono a h.1, car_ok n t (by omega) h.2]; rfl
theorem car_len : ∀ (n : Nat) (l : List UInt8), l.length ≤ n → (carL l).length ≤ l.length
  | _, [], _ => Nat.le_refl _
  | 0, a :: t, hn => by simp at hn
  | n + 1, a :: t, hn => by
    simp only [List.length_cons] at hn
    by_cases h94 : a = 94
    · subst h94
      cases t with
      | nil => exact Nat.le_refl _
      | cons y u =>
        simp only [List.length_cons] at hn
        have ih1 := car_len n (y :: u) (by simp; omega)
        have ih2 := car_len n u (by omega)
        simp only [List.length_cons] at ih1
        rw [carL_94]
        split
        · simp only [List.length_cons]; omega
        split
        · simp only [List.length_cons]; omega
        split
        · simp only [List.length_cons]; omega
        · simp only [List.length_cons]; omega
    · have := car_len n t (by omega)
      rw [carL_not a t h94]; simp only [List.length_cons]; omega
theorem valid_cut : ∀ (n : Nat) (l : List UInt8), l.length ≤ n → Lib.validD (l ++ [34]) = true → Lib.validD l = true
  | _, [], _, _ => rfl
  | 0, a :: t, hn, _ => by simp at hn
  | n + 1, x :: l, hn, h => by
    simp only [List.length_cons] at hn
    rcases valid_head (x :: l ++ [34]) (by simp) h with ⟨a, t, e, ha, hv⟩ | ⟨a, b, t, e, ha, hv⟩ | ⟨a, b, c, t, e, ha, hv⟩ | ⟨a, b, c, d, t, e, ha, hv⟩
    · obtain ⟨rfl, rfl⟩ : x = a ∧ l ++ [34] = t := by simpa using e
      rw [Lib.validD_cons _ _ ha]
      exact valid_cut n l (by omega) hv
    · obtain ⟨rfl, e2⟩ : x = a ∧ l ++ [34] = b :: t := by simpa using e
      rcases l with _ | ⟨y, u⟩
      · obtain ⟨rfl, _⟩ : 34 = b ∧ [] = t := by simpa using e2
        exact absurd ha.2.1 (by decide)
      · obtain ⟨rfl, rfl⟩ : y = b ∧ u ++ [34] = t := by simpa using e2
        rw [valid_2 _ _ _ ha]
        exact valid_cut n u (by simp only [List.length_cons] at hn; omega) hv
    · obtain ⟨rfl, e2⟩ : x = a ∧ l ++ [34] = b :: c :: t := by simpa using e
      rcases l with _ | ⟨y, _ | ⟨z, u⟩⟩
      · simp at e2
      · obtain ⟨rfl, rfl, _⟩ : y = b ∧ 34 = c ∧ [] = t := by simpa using e2
        exact absurd ha.2.1.2.1 (by decide)
      · obtain ⟨rfl, rfl, rfl⟩ : y = b ∧ z = c ∧ u ++ [34] = t := by simpa using e2
        rw [valid_3 _ _ _ _ ha]
        exact valid_cut n u (by simp only [List.length_cons] at hn; omega) hv
    · obtain ⟨rfl, e2⟩ : x = a ∧ l ++ [34] = b :: c :: d :: t := by simpa using e
      rcases l with _ | ⟨y, _ | ⟨z, _ | ⟨q, u⟩⟩⟩
      · simp at e2
      · simp at e2
      · obtain ⟨rfl, rfl, rfl, _⟩ : y = b ∧ z = c ∧ 34 = d ∧ [] = t := by simpa using e2
        exact absurd ha.2.1.2.2.1 (by decide)
      · obtain ⟨rfl, rfl, rfl, rfl⟩ : y = b ∧ z = c ∧ q = d ∧ u ++ [34] = t := by simpa using e2
        rw [valid_4 _ _ _ _ _ ha]
        exact valid_cut n u (by simp only [List.length_cons] at hn; omega) hv
theorem clean_false {l : List UInt8} (h : cleanR false l = 0) : Lib.validD l = true ∧ l.all (okB false) = true := by
  unfold cleanR at h
  by_cases h1 : Lib.validD l = true
  · rw [if_pos h1] at h
    by_cases h2 : l.all (okB false) = true
    · exact ⟨h1, h2⟩
    · rw [if_neg h2] at h; exact absurd h (by decide)
  · rw [if_neg h1] at h; exact absurd h (by decide)
theorem idx_last : ∀ (l : List UInt8), l ≠ [] → Lib.indexByte l 34 = ((l.length - 1 : Nat) : Int) → ∃ m, l = m ++ [34]
  | l, hne, h => by
    have h1 := (Lib.indexByte_some h).1
    have hl := List.length_pos_iff.2 hne
    refine ⟨l.take (l.length - 1), ?_⟩
    conv => lhs; rw [← List.take_append_drop (l.length - 1) l]
    rw [List.drop_eq_getElem_cons (by omega), List.drop_eq_nil_of_le (by omega)]
    rw [List.getElem?_eq_getElem (by omega)] at h1
    rw [Option.some.inj h1]
theorem valA_clean (s : ByteArray) (v : ByteArray) (h : valA s = (v, 0)) : cleanR true v.data.toList = 0 ∧ v.size ≤ s.size := by
  unfold valA at h
  by_cases hc : cleanR false s.data.toList = 0
  case neg => rw [if_neg hc] at h; exact absurd (congrArg Prod.snd h) hc
  rw [if_pos hc] at h
  obtain ⟨h1, h2⟩ := clean_false hc
  have fin : ∀ L : List UInt8, L.length ≤ s.size → Lib.validD L = true → L.all (okB false) = true → (⟨(carL L).toArray⟩ : ByteArray) = v → cleanR true v.data.toList = 0 ∧ v.size ≤ s.size := by
    rintro L hL hv ho rfl
    refine ⟨clean_of (car_valid L.length L (Nat.le_refl _) hv) (car_ok L.length L (Nat.le_refl _) ho), ?_⟩
    rw [ba_sizeB]
    have := car_len L.length L (Nat.le_refl _)
    omega
  unfold valB at h
  by_cases h34 : s.data.toList.getD 0 0 = 34
  · rw [if_pos h34] at h
    split at h
    · exact absurd (congrArg Prod.snd h) (show ¬ (7 : Int) = 0 by decide)
    · rename_i hs2
      split at h
      · rename_i hi
        refine fin _ ?_ ?_ ?_ (congrArg Prod.fst h)
        · rw [Array.length_toList]; show (s.extract 1 (s.size - 1)).size ≤ _; rw [ByteArray.size_extract]; omega
        all_goals
          have hd : s.data.toList = 34 :: s.data.toList.drop 1 := by
            have := drop_at s 0 (by omega)
            rw [List.drop_zero, h34] at this
            exact this
          have hlen : (s.data.toList.drop 1).length = s.size - 1 := by rw [List.length_drop, Array.length_toList]; rfl
          have hx : (s.extract 1 (s.size - 1)).data.toList = (s.data.toList.drop 1).take (s.size - 2) := by
            rw [ByteArray.data_extract, Array.toList_extract, List.extract_eq_take_drop]; congr 1
          obtain ⟨m, hm⟩ := idx_last (s.data.toList.drop 1) (by intro e; rw [e] at hlen; simp at hlen; omega) (by rw [hi, hlen]; congr 1)
          have hml : m.length = s.size - 2 := by have := congrArg List.length hm; rw [hlen, List.length_append, List.length_singleton] at this; omega
          have hx2 : (s.extract 1 (s.size - 1)).data.toList = m := by rw [hx, hm, ← hml, List.take_left']; rfl
          rw [hx2]
          rw [hm] at hd
        · rw [hd, Lib.validD_cons _ _ (by decide)] at h1
          exact valid_cut m.length m (Nat.le_refl _) h1
        · rw [hd, List.all_cons, List.all_append, Bool.and_eq_true, Bool.and_eq_true] at h2
          exact h2.2.1
      · exact absurd (congrArg Prod.snd h) (show ¬ (7 : Int) = 0 by decide)
  · rw [if_neg h34] at h
    unfold openR at h
    split at h
    · exact absurd (congrArg Prod.snd h) (show ¬ (7 : Int) = 0 by decide)
    · exact fin _ (by rw [Array.length_toList]; exact Nat.le_refl _) h1 h2 (congrArg Prod.fst h)
end Go.Proofs.YtdojmdbaiddkgaaGreatDoor.Pure
end
section
set_option linter.unusedVariables false
set_option linter.unusedSimpArgs false
set_option linter.unusedSectionVars false
namespace Go.Proofs.YtdojmdbaiddkgaaGreatDoor.Pure
open Go.RowKit Go.Proofs.YtdojmdbaiddkgaaGreatDoor.Print Go.Proofs.YtdojmdbaiddkgaaGreatDoorW.PrintWords Go.Proofs.YtdojmdbaiddkgaaGreatDoorW.PrintLast Go.Proofs.YtdojmdbaiddkgaaGreatDoorW.PrintMore
theorem szF {s : ByteArray} {L : List UInt8} (h : s.data.toList = L) : s.size = L.length := by rw [← h, Array.length_toList]; rfl
theorem ba_ext {a b : ByteArray} (h : a.data.toList = b.data.toList) : a = b := by rw [← ba_backB a, ← ba_backB b, h]
theorem extF (s : ByteArray) (p q : Nat) : (s.extract p (p + q)).data.toList = (s.data.toList.drop p).take q := by
  rw [ByteArray.data_extract, Array.toList_extract, List.extract_eq_take_drop, Nat.add_sub_cancel_left]
theorem peekF (s : ByteArray) (A R : List UInt8) (c : UInt8) (h : s.data.toList = A ++ c :: R) : line_reader_peek.f s (A.length : Int) 0 = some ((c.toNat : Int), s, (A.length : Int), 0) := by
  have hz := szF h
  rw [List.length_append, List.length_cons] at hz
  have hb := bt_nat s A.length
  have e : s.data.toList.getD A.length 0 = c := by rw [h]; simp
  rw [e] at hb
  unfold line_reader_peek.f
  rw [if_pos rfl, if_neg (by omega), if_pos (by omega), if_pos (by omega), hb]
theorem nameF (s nm : ByteArray) (A R : List UInt8) (c : UInt8) (h : s.data.toList = A ++ (nm.data.toList ++ c :: R)) (hn : nameR nm = true) (hc : signS c = false) (hs : s.size ≤ 2000) : line_reader_name.f s (A.length : Int) 0 = some (nm, s, ((A.length + nm.size : Nat) : Int), 0) := by
  obtain ⟨h1, h2, h3⟩ := nameR_of hn
  have hz := szF h
  have e2 : nm.data.toList.length = nm.size := by simp
  simp only [List.length_append, List.length_cons] at hz
  have e : s.data.toList.drop A.length = nm.data.toList ++ c :: R := by rw [h, List.drop_left' rfl]
  have hne : nameEnd (nm.data.toList ++ c :: R) 60 = nm.size := by rw [nameEnd_of _ c R 60 h1 (by omega) hc, e2]
  have hx : s.extract A.length (A.length + nm.size) = nm := by
    apply ba_ext
    rw [extF, e, List.take_left' e2]
  unfold line_reader_name.f
  rw [if_pos ⟨rfl, by omega, by omega, by omega⟩, Int.toNat_natCast, e, hne, if_neg (by omega), hx, great_of _ h1]
theorem valueF (s x : ByteArray) (A R : List UInt8) (c : UInt8) (h : s.data.toList = A ++ (parL x.data.toList ++ c :: R)) (hx : cleanR true x.data.toList = 0) (hc : plainV c = false) (hc2 : c ≠ 34) (hs : s.size ≤ 2000) :
    Ev (fun k => line_reader_value.f k s (A.length : Int) 0) (x, s, ((A.length + (parL x.data.toList).length : Nat) : Int), 0) := by
  have hz := szF h
  simp only [List.length_append, List.length_cons] at hz
  have e : s.data.toList.drop A.length = parL x.data.toList ++ c :: R := by rw [h, List.drop_left' rfl]
  have hv := valEnd_par x.data.toList c R hc hc2
  have hpd : (parW x).data.toList = parL x.data.toList := by simp [parW]
  have hex : s.extract A.length (A.length + (parL x.data.toList).length) = parW x := by
    apply ba_ext
    rw [extF, e, List.take_left' rfl, hpd]
  have hpz := szF hpd
  have h1 := esc_value (parW x) (by omega)
  rw [value_par x hx] at h1
  refine Ev.congr (f := fun k => (escape_Value.f k (parW x)).bind fun p => some (p.1, s, if p.2 = 0 then ((A.length + (parL x.data.toList).length : Nat) : Int) else (A.length : Int), if p.2 = 0 then 0 else 7)) (fun k => ?_) (Ev.bind h1 (Ev.now _))
  unfold line_reader_value.f
  rw [if_pos ⟨rfl, by omega, by omega, by omega⟩, Int.toNat_natCast, e, hv, ← hex]
theorem is44 (d : UInt8) (h : d ≠ 44) : (((d.toNat : Nat) : Int) == 44) = false := beq_eq_false_iff_ne.2 fun e => by
  have h1 : d.toNat = 44 := by omega
  exact h (UInt8.toNat_inj.1 h1)
/-- One value of a parameter. -/
theorem paramS (s nm v : ByteArray) (x5 : Int) (hs : s.size ≤ 2000) (acc : List ByteArray) (A R : List UInt8) (b d : UInt8) (h : s.data.toList = A ++ (b :: (parL v.data.toList ++ d :: R))) (hv : cleanR true v.data.toList = 0) (hd : plainV d = false) (hd2 : d ≠ 34) (hl : acc.length < 60)
    {r : ByteArray × List ByteArray × ByteArray × Int × Int} (next : Ev (fun k => line_reader_param.l0 k x5 (((d.toNat : Nat) : Int) == 44) s ((A.length + (1 + (parL v.data.toList).length) : Nat) : Int) 0 nm (acc ++ [v])) r) :
    Ev (fun k => line_reader_param.l0 k x5 true s (A.length : Int) 0 nm acc) r := by
  have h2 : s.data.toList = (A ++ [b]) ++ (parL v.data.toList ++ d :: R) := by rw [h]; simp
  have h3 : s.data.toList = (A ++ b :: parL v.data.toList) ++ d :: R := by rw [h]; simp
  have hV := valueF s v (A ++ [b]) R d h2 hv hd hd2 hs
  have hP := peekF s _ R d h3
  have hz := szF h3
  have e1 : (A ++ [b]).length = A.length + 1 := by simp
  have e2 : (A ++ b :: parL v.data.toList).length = A.length + (1 + (parL v.data.toList).length) := by simp; omega
  rw [List.length_append, e2] at hz
  rw [e1, Nat.add_assoc] at hV
  rw [e2] at hP
  have hb : acc.length < 8796093022208 := by omega
  refine Ev.step (f := fun k => line_reader_param.j5 k x5 true s (A.length : Int) 0 nm acc) (fun k => by simp only [line_reader_param.l0]; rfl) ?_
  refine Ev.step (f := fun k => (line_reader_value.f k s ((A.length + 1 : Nat) : Int) 0).bind fun q => (line_reader_peek.f q.2.1 q.2.2.1 q.2.2.2).bind fun p => line_reader_param.l0 k x5 (p.1 == 44) p.2.1 p.2.2.1 p.2.2.2 nm (acc ++ [q.1])) (fun k => by
    simp only [line_reader_param.j5, if_pos hb]
    rw [if_pos trivial, if_neg (by omega), wrapS A.length s.size (by omega) (by omega)]) ?_
  refine Ev.bind hV ?_
  exact Ev.congr (fun k => by show Option.bind (line_reader_peek.f s ((A.length + (1 + (parL v.data.toList).length) : Nat) : Int) 0) _ = _; rw [hP]; rfl) next
theorem paramL (s nm : ByteArray) (x5 : Int) (hs : s.size ≤ 2000) (c : UInt8) (R : List UInt8) (hc : plainV c = false) (hc2 : c ≠ 34) (hc3 : c ≠ 44) :
    ∀ (l : List ByteArray) (v : ByteArray) (acc : List ByteArray) (A : List UInt8) (b : UInt8), s.data.toList = A ++ (valsT (v :: l) b ++ c :: R) → (∀ x ∈ v :: l, cleanR true x.data.toList = 0) → acc.length + (v :: l).length ≤ 60 →
    Ev (fun k => line_reader_param.l0 k x5 true s (A.length : Int) 0 nm acc) (nm, acc ++ v :: l, s, ((A.length + (valsT (v :: l) b).length : Nat) : Int), 0)
  | [], v, acc, A, b, h, hcl, hl => by
    have e : valsT [v] b = b :: parL v.data.toList := by simp [valsT]
    rw [e] at h ⊢
    refine paramS s nm v x5 hs acc A R b c (by rw [h]; simp) (hcl v (by simp)) hc hc2 (by simp at hl; omega) ?_
    rw [is44 c hc3]
    have e3 : (b :: parL v.data.toList).length = 1 + (parL v.data.toList).length := by simp; omega
    rw [e3]
    refine Ev.step (f := fun k => line_reader_param.j5 k x5 false s ((A.length + (1 + (parL v.data.toList).length) : Nat) : Int) 0 nm (acc ++ [v])) (fun k => by simp only [line_reader_param.l0]; rfl) ?_
    exact Ev.step (f := fun _ => some (nm, acc ++ [v], s, ((A.length + (1 + (parL v.data.toList).length) : Nat) : Int), 0)) (fun k => by simp only [line_reader_param.j5]; rfl) (Ev.now _)
  | y :: u, v, acc, A, b, h, hcl, hl => by
    have e : valsT (v :: y :: u) b = b :: (parL v.data.toList ++ 44 :: (parL y.data.toList ++ valsT u 44)) := by simp [valsT]
    have e4 : valsT (y :: u) 44 = 44 :: (parL y.data.toList ++ valsT u 44) := by simp [valsT]
    rw [e] at h ⊢
    refine paramS s nm v x5 hs acc A (parL y.data.toList ++ valsT u 44 ++ c :: R) b 44 (by rw [h]; simp) (hcl v (by simp)) (by decide) (by decide) (by simp at hl; omega) ?_
    have ih := paramL s nm x5 hs c R hc hc2 hc3 u y (acc ++ [v]) (A ++ b :: parL v.data.toList) 44 (by rw [h, e4]; simp) (fun x hx => hcl x (by simp at hx ⊢; exact .inr hx)) (by simp at hl ⊢; omega)
    have e2 : (A ++ b :: parL v.data.toList).length = A.length + (1 + (parL v.data.toList).length) := by simp; omega
    have e5 : A.length + (1 + (parL v.data.toList).length) + (valsT (y :: u) 44).length = A.length + (b :: (parL v.data.toList ++ 44 :: (parL y.data.toList ++ valsT u 44))).length := by rw [e4]; simp; omega
    rw [e2, e5, List.append_assoc] at ih
    exact ih
theorem paramF (s : ByteArray) (p : LP) (l : List LP) (A R : List UInt8) (c : UInt8) (h : s.data.toList = A ++ (p.f0.data.toList ++ (valsT p.f1 61 ++ c :: R))) (hp : parR p.f0 p.f1 = true) (hl : l.length < 60) (hn : l.any (hasN p.f0) = false) (hc : plainV c = false) (hc2 : c ≠ 34) (hc3 : c ≠ 44) (hs : s.size ≤ 2000) :
    Ev (fun k => line_reader_param.f k s (A.length : Int) 0 l) (p.f0, p.f1, s, ((A.length + (p.f0.size + (valsT p.f1 61).length) : Nat) : Int), 0) := by
  obtain ⟨h1, h2, h3, h4⟩ := parR_of hp
  obtain ⟨v, u, hvu⟩ : ∃ v u, p.f1 = v :: u := by
    cases hq : p.f1 with
    | nil => rw [hq] at h2; simp at h2
    | cons v u => exact ⟨v, u, rfl⟩
  have e2 : p.f0.data.toList.length = p.f0.size := by simp
  have ev : valsT p.f1 61 = 61 :: (parL v.data.toList ++ valsT u 44) := by rw [hvu]; simp [valsT]
  have hN := nameF s p.f0 A (parL v.data.toList ++ valsT u 44 ++ c :: R) 61 (by rw [h, ev]; simp) h1 sign_61 hs
  have hP := peekF s (A ++ p.f0.data.toList) (parL v.data.toList ++ valsT u 44 ++ c :: R) 61 (by rw [h, ev]; simp)
  have e3 : (A ++ p.f0.data.toList).length = A.length + p.f0.size := by rw [List.length_append, e2]
  rw [e3] at hP
  have hi := idxN_any p.f0 l 0
  rw [hn] at hi
  have hL := paramL s p.f0 (A.length : Int) hs c R hc hc2 hc3 u v [] (A ++ p.f0.data.toList) 61 (by rw [h, ← hvu]; simp) (by rw [← hvu]; exact h4) (by rw [← hvu]; simp; omega)
  rw [← hvu, e3, List.nil_append, Nat.add_assoc] at hL
  refine Ev.congr (f := fun k => line_reader_param.j0 k l (A.length : Int) false s ((A.length + p.f0.size : Nat) : Int) 0 p.f0) (fun k => ?_) ?_
  · unfold line_reader_param.f
    rw [hN, Option.bind_some, if_pos (show (0 : Int) = 0 from rfl), hP]; rfl
  refine Ev.step (f := fun k => line_reader_param.j1 k l (A.length : Int) s ((A.length + p.f0.size : Nat) : Int) 0 p.f0) (fun k => by simp only [line_reader_param.j0]; rfl) ?_
  refine Ev.step (f := fun k => line_reader_param.j2 k (A.length : Int) false s ((A.length + p.f0.size : Nat) : Int) 0 p.f0) (fun k => by simp only [line_reader_param.j1]; rw [if_pos trivial, if_neg (by omega)]; unfold line_at.f; rw [Option.bind_some, hi]) ?_
  refine Ev.step (f := fun k => line_reader_param.j3 k (A.length : Int) s ((A.length + p.f0.size : Nat) : Int) 0 p.f0) (fun k => by simp only [line_reader_param.j2]; rfl) ?_
  exact Ev.step (f := fun k => line_reader_param.l0 k (A.length : Int) true s ((A.length + p.f0.size : Nat) : Int) 0 p.f0 []) (fun k => by simp only [line_reader_param.j3]) hL
theorem parseL (s : ByteArray) (R : List UInt8) (hs : s.size ≤ 2000) : ∀ (l acc : List LP) (A : List UInt8), s.data.toList = A ++ (parsT l ++ 58 :: R) → okPs acc l = true → acc.length + l.length ≤ 60 →
    Ev (fun k => line_Parse.l0 k s (A.length : Int) 0 acc) (acc ++ l, s, ((A.length + (parsT l).length : Nat) : Int), 0)
  | [], acc, A, h, hok, hl => by
    have hP := peekF s A R 58 (by rw [h]; rfl)
    refine Ev.step (f := fun _ => some (acc ++ [], s, ((A.length + (parsT []).length : Nat) : Int), 0)) (fun k => ?_) (Ev.now _)
    simp only [line_Parse.l0]
    rw [hP, List.append_nil]; rfl
  | p :: t, acc, A, h, hok, hl => by
    rw [okPs, Bool.and_eq_true, Bool.and_eq_true] at hok
    obtain ⟨h1, h2, h3⟩ := hok
    have h2 : acc.any (hasN p.f0) = false := by simpa using h2
    simp only [List.length_cons] at hl
    have e2 : p.f0.data.toList.length = p.f0.size := by simp
    have ep : parsT (p :: t) = 59 :: (p.f0.data.toList ++ (valsT p.f1 61 ++ parsT t)) := by rw [parsT]; simp
    rw [ep] at h ⊢
    have hz := szF h
    simp only [List.length_append, List.length_cons] at hz
    have hP := peekF s A (p.f0.data.toList ++ (valsT p.f1 61 ++ parsT t) ++ 58 :: R) 59 (by rw [h]; simp)
    obtain ⟨d, R', hd, hd1, hd2, hd3⟩ : ∃ d R', parsT t ++ 58 :: R = d :: R' ∧ plainV d = false ∧ d ≠ 34 ∧ d ≠ 44 := by
      cases t with
      | nil => exact ⟨58, R, rfl, by decide, by decide, by decide⟩
      | cons y u => exact ⟨59, _, by rw [parsT]; rfl, by decide, by decide, by decide⟩
    have hF := paramF s p acc (A ++ [59]) R' d (by rw [h, ← hd]; simp) h1 (by omega) h2 hd1 hd2 hd3 hs
    have e1 : (A ++ [59]).length = A.length + 1 := by simp
    rw [e1] at hF
    have ih := parseL s R hs t (acc ++ [p]) (A ++ 59 :: (p.f0.data.toList ++ valsT p.f1 61)) (by rw [h]; simp) h3 (by simp; omega)
    have e3 : (A ++ 59 :: (p.f0.data.toList ++ valsT p.f1 61)).length = A.length + 1 + (p.f0.size + (valsT p.f1 61).length) := by simp; omega
    have e4 : A.length + 1 + (p.f0.size + (valsT p.f1 61).length) + (parsT t).length = A.length + (59 :: (p.f0.data.toList ++ (valsT p.f1 61 ++ parsT t))).length := by simp; omega
    rw [e3, e4, List.append_assoc] at ih
    refine Ev.step (f := fun k => (line_reader_param.f k s ((A.length + 1 : Nat) : Int) 0 acc).bind fun q => line_Parse.l0 k q.2.2.1 q.2.2.2.1 q.2.2.2.2 (acc ++ [⟨q.1, q.2.1⟩])) (fun k => ?_) (Ev.bind hF ih)
    simp only [line_Parse.l0]
    rw [hP, Option.bind_some, if_pos (show (((59 : UInt8).toNat : Nat) : Int) = 59 from rfl), if_pos ⟨by omega, by omega⟩]; rfl
theorem parse_line (nm v : ByteArray) (l : List LP) (hf : formR nm l v = true) (hlen : (lineT nm l v).length ≤ 2000) : Ev (fun k => line_Parse.f k ⟨(lineT nm l v).toArray⟩) (nm, l, v, 0, 0) := by
  obtain ⟨h1, h2, h3, h4⟩ := formR_of hf
  have hv := line_valid hf
  obtain ⟨s, hs⟩ : ∃ s : ByteArray, s = ⟨(lineT nm l v).toArray⟩ := ⟨_, rfl⟩
  have hd : s.data.toList = lineT nm l v := by rw [hs]
  rw [← hs]
  clear hs
  have hz := szF hd
  rw [← hd] at hv
  unfold lineT at hd
  obtain ⟨c, R, hc, hc1⟩ : ∃ c R, parsT l ++ 58 :: v.data.toList = c :: R ∧ signS c = false := by
    cases l with
    | nil => exact ⟨58, _, rfl, sign_58⟩
    | cons y u => exact ⟨59, _, by rw [parsT]; rfl, sign_59⟩
  have e2 : nm.data.toList.length = nm.size := by simp
  have hN := nameF s nm [] R c (by rw [hd, List.append_assoc, hc]; rfl) h1 hc1 (by omega)
  have hL := parseL s v.data.toList (by omega) l [] nm.data.toList (by rw [hd, List.append_assoc]) h4 (by simpa using h2)
  rw [List.nil_append, e2] at hL
  have hP := peekF s (nm.data.toList ++ parsT l) v.data.toList 58 hd
  have hz2 := szF hd
  have e3 : (nm.data.toList ++ parsT l).length = nm.size + (parsT l).length := by rw [List.length_append, e2]
  rw [e3] at hP
  rw [List.length_append, e3, List.length_cons] at hz2
  have hx : s.extract (nm.size + (parsT l).length + 1) s.size = v := by
    apply ba_ext
    have e4 : s.size = nm.size + (parsT l).length + 1 + v.data.toList.length := by omega
    rw [e4, extF, hd]
    have e5 : (nm.data.toList ++ parsT l ++ 58 :: v.data.toList).drop (nm.size + (parsT l).length + 1) = v.data.toList := by
      rw [← e3]
      have : nm.data.toList ++ parsT l ++ 58 :: v.data.toList = (nm.data.toList ++ parsT l ++ [58]) ++ v.data.toList := by simp
      rw [this, List.drop_left' (by simp; omega)]
    rw [e5, List.take_of_length_le (Nat.le_refl _)]
  have hvs : v.size ≤ 2000 := by have : v.data.toList.length = v.size := by simp
                                 omega
  refine Ev.congr (f := fun k => (line_Parse.l0 k s ((nm.size : Nat) : Int) 0 []).bind fun q => line_Parse.g k s nm q.1 q.2.1 q.2.2.1 q.2.2.2) (fun k => ?_) (Ev.bind hL ?_)
  · unfold line_Parse.f utf8_ValidString.f
    rw [if_neg (by omega), if_pos (by omega), Option.bind_some, if_pos hv]
    have hN' : line_reader_name.f s 0 0 = some (nm, s, ((nm.size : Nat) : Int), 0) := by simpa using hN
    rw [hN']; rfl
  · refine Ev.congr (f := fun k => (escape_Clean.f k v false).bind fun z => if z = 0 then some (nm, l, v, 0, 0) else some (noLine (((nm.size + (parsT l).length : Nat) : Int) + 1) 7)) (fun k => ?_) ?_
    · show line_Parse.g k s nm l s ((nm.size + (parsT l).length : Nat) : Int) 0 = _
      unfold line_Parse.g
      rw [if_pos rfl, hP, Option.bind_some, if_pos (show (((58 : UInt8).toNat : Nat) : Int) = 58 from rfl), if_pos ⟨by omega, by omega⟩, Int.toNat_natCast, hx]
    · refine Ev.bind (escClean v false (by omega)) ?_
      rw [h3]; exact Ev.now _
theorem nameEnd_all (l : List UInt8) (n : Nat) : (l.take (nameEnd l n)).all signS = true := by
  have h1 : (l.take n).takeWhile signS <+: l := (List.takeWhile_prefix _).trans (List.take_prefix _ _)
  have h2 := List.prefix_iff_eq_take.1 h1
  have h3 : nameEnd l n = ((l.take n).takeWhile signS).length := rfl
  rw [h3, ← h2]
  exact List.all_takeWhile
theorem great_all : ∀ l : List UInt8, l.all signS = true → (l.map greatB).all upB = true
  | [], _ => rfl
  | x :: t, h => by
    rw [List.all_cons, Bool.and_eq_true] at h
    rw [List.map_cons, List.all_cons, sign_great x h.1, great_all t h.2]; rfl
theorem nameAny (s : ByteArray) (a : Nat) (ha : a ≤ s.size) (hs : s.size ≤ 2000) : ∃ (nm : ByteArray) (a' : Nat) (fl : Int), line_reader_name.f s (a : Int) 0 = some (nm, s, (a' : Int), fl) ∧ a' ≤ s.size ∧ (fl = 0 → nameR nm = true) := by
  have hle := nameEnd_le (s.data.toList.drop a) 60
  have hall := nameEnd_all (s.data.toList.drop a) 60
  have hdl : (s.data.toList.drop a).length = s.size - a := by simp
  unfold line_reader_name.f
  rw [if_pos ⟨rfl, by omega, by omega, by omega⟩, Int.toNat_natCast]
  generalize nameEnd (s.data.toList.drop a) 60 = n at *
  by_cases h0 : n = 0
  · rw [if_pos h0]; exact ⟨_, a, 5, rfl, ha, fun h => absurd h (by decide)⟩
  · rw [if_neg h0]
    refine ⟨_, a + n, 0, rfl, by omega, fun _ => ?_⟩
    have hd : (greatS (s.extract a (a + n))).data.toList = ((s.data.toList.drop a).take n).map greatB := by
      unfold greatS; simp only [extF]
    have hz := szF hd
    rw [List.length_map, List.length_take] at hz
    exact nameR_mk (by rw [hd]; exact great_all _ hall) (by omega) (by omega)
theorem peekAny (s : ByteArray) (a : Nat) (fl : Int) (ha : a ≤ s.size) : ∃ c : Int, line_reader_peek.f s (a : Int) fl = some (c, s, (a : Int), fl) ∧ (c ≠ 0 → fl = 0 ∧ a < s.size) := by
  unfold line_reader_peek.f
  by_cases h0 : fl = 0
  · rw [if_pos h0]
    by_cases h1 : (a : Int) ≥ (s.size : Int)
    · rw [if_pos h1]; exact ⟨0, by rw [h0], fun h => absurd rfl h⟩
    · rw [if_neg h1, if_pos (by omega), if_pos (by omega)]; exact ⟨_, by rw [h0], fun _ => ⟨h0, by omega⟩⟩
  · rw [if_neg h0]; exact ⟨0, rfl, fun h => absurd rfl h⟩
theorem valEnd_le (l : List UInt8) (n : Nat) (h : valEnd l = some n) : n ≤ l.length := by
  unfold valEnd at h
  split at h
  · rename_i h34
    split at h
    · cases h
    · rename_i h1
      obtain rfl := Option.some.inj h
      have := idx_lt (l.drop 1) 34 (by omega)
      rw [List.length_drop] at this
      omega
  · obtain rfl := Option.some.inj h
    exact (List.takeWhile_sublist _).length_le
theorem valueAny (s : ByteArray) (a : Nat) (ha : a ≤ s.size) (hs : s.size ≤ 2000) : ∃ (v : ByteArray) (a' : Nat) (fl : Int), Ev (fun k => line_reader_value.f k s (a : Int) 0) (v, s, (a' : Int), fl) ∧ a' ≤ s.size ∧ (fl = 0 → cleanR true v.data.toList = 0 ∧ v.size ≤ 2000) := by
  have hdl : (s.data.toList.drop a).length = s.size - a := by simp
  cases hv : valEnd (s.data.toList.drop a) with
  | none =>
    refine ⟨⟨#[]⟩, s.size, 5, Ev.congr (f := fun _ => some (⟨#[]⟩, s, (s.size : Int), 5)) (fun k => ?_) (Ev.now _), Nat.le_refl _, fun h => absurd h (by decide)⟩
    unfold line_reader_value.f
    rw [if_pos ⟨rfl, by omega, by omega, by omega⟩, Int.toNat_natCast, hv]
  | some n =>
    have hn := valEnd_le _ _ hv
    have hz : (s.extract a (a + n)).size ≤ 2000 := by rw [ByteArray.size_extract]; omega
    have h1 := esc_value (s.extract a (a + n)) (by omega)
    refine ⟨(valA (s.extract a (a + n))).1, if (valA (s.extract a (a + n))).2 = 0 then a + n else a, if (valA (s.extract a (a + n))).2 = 0 then 0 else 7, ?_, by split <;> omega, fun h => ?_⟩
    · refine Ev.congr (f := fun k => (escape_Value.f k (s.extract a (a + n))).bind fun p => some (p.1, s, if p.2 = 0 then ((a + n : Nat) : Int) else (a : Int), if p.2 = 0 then 0 else 7)) (fun k => ?_) (Ev.bind h1 ?_)
      · unfold line_reader_value.f
        rw [if_pos ⟨rfl, by omega, by omega, by omega⟩, Int.toNat_natCast, hv]
      · have e : (if (valA (s.extract a (a + n))).2 = 0 then ((a + n : Nat) : Int) else (a : Int)) = ((if (valA (s.extract a (a + n))).2 = 0 then a + n else a : Nat) : Int) := by split <;> rfl
        rw [e]; exact Ev.now _
    · have h2 : (valA (s.extract a (a + n))).2 = 0 := by
        by_cases h3 : (valA (s.extract a (a + n))).2 = 0
        · exact h3
        · rw [if_neg h3] at h; exact absurd h (by decide)
      have := valA_clean (s.extract a (a + n)) _ (by rw [← h2])
      exact ⟨this.1, by omega⟩
def GoodV (v : ByteArray) : Prop := cleanR true v.data.toList = 0 ∧ v.size ≤ 2000
theorem wrongF (s : ByteArray) (a e b : Int) : line_reader_wrong.f s a 0 e b = some (s, b, e) := by unfold line_reader_wrong.f; rw [if_pos rfl]
theorem paramLAny (s nm : ByteArray) (b : Nat) (hb : b ≤ s.size) (hs : s.size ≤ 2000) : ∀ (n : Nat) (acc : List ByteArray) (a : Nat), acc.length + n = 60 → a < s.size → (∀ v ∈ acc, GoodV v) →
    ∃ (l : List ByteArray) (a' : Nat) (fl : Int), Ev (fun k => line_reader_param.l0 k (b : Int) true s (a : Int) 0 nm acc) (nm, l, s, (a' : Int), fl) ∧ a' ≤ s.size ∧ (fl = 0 → 1 ≤ l.length ∧ l.length ≤ 60 ∧ ∀ v ∈ l, GoodV v)
  | 0, acc, a, hn, ha, hg => by
    refine ⟨acc, b, 9, ?_, hb, fun h => absurd h (by decide)⟩
    refine Ev.step (f := fun k => line_reader_param.j5 k (b : Int) true s (a : Int) 0 nm acc) (fun k => by simp only [line_reader_param.l0]; rfl) ?_
    refine Ev.step (f := fun _ => some (nm, acc, s, (b : Int), 9)) (fun k => ?_) (Ev.now _)
    simp only [line_reader_param.j5]
    rw [if_pos trivial, if_pos (by omega), wrongF]; rfl
  | n + 1, acc, a, hn, ha, hg => by
    obtain ⟨v, a2, fl2, hV, ha2, hg2⟩ := valueAny s (a + 1) (by omega) hs
    obtain ⟨c, hP, hc⟩ := peekAny s a2 fl2 ha2
    have hlb : acc.length < 8796093022208 := by omega
    have fin : ∀ {r : ByteArray × List ByteArray × ByteArray × Int × Int}, Ev (fun k => line_reader_param.l0 k (b : Int) (c == 44) s (a2 : Int) fl2 nm (acc ++ [v])) r → Ev (fun k => line_reader_param.l0 k (b : Int) true s (a : Int) 0 nm acc) r := fun next => by
      refine Ev.step (f := fun k => line_reader_param.j5 k (b : Int) true s (a : Int) 0 nm acc) (fun k => by simp only [line_reader_param.l0]; rfl) ?_
      refine Ev.step (f := fun k => (line_reader_value.f k s ((a + 1 : Nat) : Int) 0).bind fun q => (line_reader_peek.f q.2.1 q.2.2.1 q.2.2.2).bind fun p => line_reader_param.l0 k (b : Int) (p.1 == 44) p.2.1 p.2.2.1 p.2.2.2 nm (acc ++ [q.1])) (fun k => by
        simp only [line_reader_param.j5, if_pos hlb]
        rw [if_pos trivial, if_neg (by omega), wrapS a s.size (by omega) (by omega)]) ?_
      refine Ev.bind hV ?_
      exact Ev.congr (fun k => by show Option.bind (line_reader_peek.f s (a2 : Int) fl2) _ = _; rw [hP]; rfl) next
    by_cases h44 : c = 44
    · have h5 := hc (by rw [h44]; decide)
      have hv := hg2 h5.1
      obtain ⟨l, a3, fl3, hL, ha3, hg3⟩ := paramLAny s nm b hb hs n (acc ++ [v]) a2 (by simp; omega) h5.2 (fun x hx => by
        rcases List.mem_append.1 hx with h | h
        · exact hg x h
        · rw [List.mem_singleton.1 h]; exact hv)
      refine ⟨l, a3, fl3, fin ?_, ha3, hg3⟩
      rw [beq_iff_eq.2 h44, h5.1]; exact hL
    · refine ⟨acc ++ [v], a2, fl2, fin ?_, ha2, fun h => ⟨by simp, by simp; omega, fun x hx => by
        rcases List.mem_append.1 hx with h9 | h9
        · exact hg x h9
        · rw [List.mem_singleton.1 h9]; exact hg2 h⟩⟩
      rw [beq_eq_false_iff_ne.2 h44]
      refine Ev.step (f := fun k => line_reader_param.j5 k (b : Int) false s (a2 : Int) fl2 nm (acc ++ [v])) (fun k => by simp only [line_reader_param.l0]; rfl) ?_
      exact Ev.step (f := fun _ => some (nm, acc ++ [v], s, (a2 : Int), fl2)) (fun k => by simp only [line_reader_param.j5]; rfl) (Ev.now _)
theorem param_stop (s nm : ByteArray) (b a : Int) (fl : Int) (h : fl ≠ 0) : Ev (fun k => line_reader_param.j3 k b s a fl nm) (nm, [], s, a, fl) := by
  refine Ev.step (f := fun k => line_reader_param.l0 k b true s a fl nm []) (fun k => by simp only [line_reader_param.j3]) ?_
  refine Ev.step (f := fun k => line_reader_param.j5 k b false s a fl nm []) (fun k => by simp only [line_reader_param.l0]; rw [if_pos trivial, beq_eq_false_iff_ne.2 h]) ?_
  exact Ev.step (f := fun _ => some (nm, [], s, a, fl)) (fun k => by simp only [line_reader_param.j5]; rfl) (Ev.now _)
theorem paramAny (s : ByteArray) (l : List LP) (a : Nat) (ha : a ≤ s.size) (hs : s.size ≤ 2000) : ∃ (nm : ByteArray) (vs : List ByteArray) (a' : Nat) (fl : Int), Ev (fun k => line_reader_param.f k s (a : Int) 0 l) (nm, vs, s, (a' : Int), fl) ∧ a' ≤ s.size ∧
    (fl = 0 → nameR nm = true ∧ l.length ≠ 60 ∧ l.any (hasN nm) = false ∧ 1 ≤ vs.length ∧ vs.length ≤ 60 ∧ ∀ v ∈ vs, GoodV v) := by
  obtain ⟨nm, a1, fl1, hN, ha1, hn1⟩ := nameAny s a ha hs
  by_cases h0 : fl1 = 0
  case neg =>
    refine ⟨nm, [], a1, fl1, ?_, ha1, fun h => absurd h h0⟩
    refine Ev.congr (f := fun k => line_reader_param.j0 k l (a : Int) false s (a1 : Int) fl1 nm) (fun k => by
      unfold line_reader_param.f
      rw [hN]
      show (if fl1 = 0 then _ else _) = _
      rw [if_neg h0]) ?_
    refine Ev.step (f := fun k => line_reader_param.j1 k l (a : Int) s (a1 : Int) fl1 nm) (fun k => by simp only [line_reader_param.j0]; rfl) ?_
    refine Ev.step (f := fun k => line_reader_param.j2 k (a : Int) false s (a1 : Int) fl1 nm) (fun k => by simp only [line_reader_param.j1]; rw [if_neg h0]) ?_
    exact Ev.step (fun k => by simp only [line_reader_param.j2]; rfl) (param_stop s nm _ _ fl1 h0)
  obtain ⟨c, hP, hc⟩ := peekAny s a1 fl1 ha1
  have first : ∀ {r : ByteArray × List ByteArray × ByteArray × Int × Int}, Ev (fun k => line_reader_param.j0 k l (a : Int) (c != 61) s (a1 : Int) fl1 nm) r → Ev (fun k => line_reader_param.f k s (a : Int) 0 l) r := fun h => Ev.congr (fun k => by
      unfold line_reader_param.f
      rw [hN]
      show (if fl1 = 0 then (line_reader_peek.f s (a1 : Int) fl1).bind _ else _) = _
      rw [if_pos h0, hP]; rfl) h
  subst h0
  by_cases h61 : c = 61
  case neg =>
    refine ⟨nm, [], a1, 5, first ?_, ha1, fun h => absurd h (by decide)⟩
    have e : (c != 61) = true := by simpa using h61
    rw [e]
    refine Ev.step (f := fun k => line_reader_param.j1 k l (a : Int) s (a1 : Int) 5 nm) (fun k => by simp only [line_reader_param.j0]; rw [if_pos trivial, wrongF]; rfl) ?_
    refine Ev.step (f := fun k => line_reader_param.j2 k (a : Int) false s (a1 : Int) 5 nm) (fun k => by simp only [line_reader_param.j1]; rw [if_neg (by decide)]) ?_
    exact Ev.step (fun k => by simp only [line_reader_param.j2]; rfl) (param_stop s nm _ _ 5 (by decide))
  have e : (c != 61) = false := by simpa using h61
  have hlt := (hc (by rw [h61]; decide)).2
  have hi := idxN_any nm l 0
  by_cases hm : l.length = 60 ∨ l.any (hasN nm) = true
  · refine ⟨nm, [], a, 9, first ?_, ha, fun h => absurd h (by decide)⟩
    rw [e]
    refine Ev.step (f := fun k => line_reader_param.j1 k l (a : Int) s (a1 : Int) 0 nm) (fun k => by simp only [line_reader_param.j0]; rfl) ?_
    refine Ev.step (f := fun k => line_reader_param.j2 k (a : Int) true s (a1 : Int) 0 nm) (fun k => by
      simp only [line_reader_param.j1]; rw [if_pos trivial]
      by_cases h60 : l.length = 60
      · rw [if_pos (by omega)]
      · rw [if_neg (by omega)]; unfold line_at.f; rw [Option.bind_some, hi, hm.resolve_left h60]) ?_
    refine Ev.step (f := fun k => line_reader_param.j3 k (a : Int) s (a : Int) 9 nm) (fun k => by simp only [line_reader_param.j2]; rw [if_pos trivial, wrongF]; rfl) ?_
    exact param_stop s nm _ _ 9 (by decide)
  · have h60 : l.length ≠ 60 := fun h => hm (.inl h)
    have han : l.any (hasN nm) = false := by
      cases hq : l.any (hasN nm) with
      | false => rfl
      | true => exact absurd (.inr hq) hm
    obtain ⟨vs, a3, fl3, hL, ha3, hg3⟩ := paramLAny s nm a ha hs 60 [] a1 (by simp) hlt (fun v hv => by simp at hv)
    refine ⟨nm, vs, a3, fl3, first ?_, ha3, fun h => ⟨hn1 rfl, h60, han, hg3 h⟩⟩
    rw [e]
    refine Ev.step (f := fun k => line_reader_param.j1 k l (a : Int) s (a1 : Int) 0 nm) (fun k => by simp only [line_reader_param.j0]; rfl) ?_
    refine Ev.step (f := fun k => line_reader_param.j2 k (a : Int) false s (a1 : Int) 0 nm) (fun k => by simp only [line_reader_param.j1]; rw [if_pos trivial, if_neg (by omega)]; unfold line_at.f; rw [Option.bind_some, hi, han]) ?_
    refine Ev.step (f := fun k => line_reader_param.j3 k (a : Int) s (a1 : Int) 0 nm) (fun k => by simp only [line_reader_param.j2]; rfl) ?_
    exact Ev.step (f := fun k => line_reader_param.l0 k (a : Int) true s (a1 : Int) 0 nm []) (fun k => by simp only [line_reader_param.j3]) hL
def GoodP (p : LP) : Prop := parR p.f0 p.f1 = true ∧ ∀ v ∈ p.f1, v.size ≤ 2000
theorem okPs_snoc : ∀ (l seen : List LP) (p : LP), okPs seen l = true → parR p.f0 p.f1 = true → (seen ++ l).any (hasN p.f0) = false → okPs seen (l ++ [p]) = true
  | [], seen, p, _, hp, hn => by
    rw [List.append_nil] at hn
    show (parR p.f0 p.f1 && (!seen.any (hasN p.f0) && true)) = true
    rw [hp, hn]; rfl
  | q :: t, seen, p, h, hp, hn => by
    rw [okPs, Bool.and_eq_true, Bool.and_eq_true] at h
    rw [List.cons_append, okPs, h.1, h.2.1, okPs_snoc t (seen ++ [q]) p h.2.2 hp (by rw [List.append_assoc]; exact hn)]; rfl
theorem parR_mk {nm : ByteArray} {l : List ByteArray} (h1 : nameR nm = true) (h2 : 1 ≤ l.length) (h3 : l.length ≤ 60) (h4 : ∀ x ∈ l, cleanR true x.data.toList = 0) : parR nm l = true := by
  unfold parR
  have : l.all cleanB = true := List.all_eq_true.2 fun x hx => decide_eq_true (h4 x hx)
  rw [h1, decide_eq_true h2, decide_eq_true h3, this]; rfl
theorem parseLAny (s : ByteArray) (hs : s.size ≤ 2000) : ∀ (n : Nat) (acc : List LP) (a : Nat) (fl : Int), acc.length + n = 61 → a ≤ s.size → (fl = 0 → acc.length ≤ 60 ∧ okPs [] acc = true ∧ ∀ p ∈ acc, GoodP p) →
    ∃ (l : List LP) (a' : Nat) (fl' : Int), Ev (fun k => line_Parse.l0 k s (a : Int) fl acc) (l, s, (a' : Int), fl') ∧ a' ≤ s.size ∧ (fl' = 0 → l.length ≤ 60 ∧ okPs [] l = true ∧ ∀ p ∈ l, GoodP p) := by
  intro n
  induction n with
  | zero =>
    intro acc a fl hn ha hg
    have h0 : fl ≠ 0 := fun h => by have := (hg h).1; omega
    obtain ⟨c, hP, hc⟩ := peekAny s a fl ha
    have hc0 : c = 0 := by
      by_cases h : c = 0
      · exact h
      · exact absurd (hc h).1 h0
    refine ⟨acc, a, fl, Ev.step (f := fun _ => some (acc, s, (a : Int), fl)) (fun k => ?_) (Ev.now _), ha, hg⟩
    simp only [line_Parse.l0]
    rw [hP]
    show (if c = 59 then _ else _) = _
    rw [if_neg (by omega)]
  | succ n ih =>
    intro acc a fl hn ha hg
    obtain ⟨c, hP, hc⟩ := peekAny s a fl ha
    by_cases h59 : c = 59
    case neg =>
      refine ⟨acc, a, fl, Ev.step (f := fun _ => some (acc, s, (a : Int), fl)) (fun k => ?_) (Ev.now _), ha, hg⟩
      simp only [line_Parse.l0]
      rw [hP]
      show (if c = 59 then _ else _) = _
      rw [if_neg h59]
    obtain ⟨rfl, hlt⟩ := hc (by rw [h59]; decide)
    obtain ⟨g1, g2, g3⟩ := hg rfl
    obtain ⟨nm, vs, a2, fl2, hF, ha2, hf2⟩ := paramAny s acc (a + 1) (by omega) hs
    obtain ⟨l, a3, fl3, hL, ha3, hg3⟩ := ih (acc ++ [⟨nm, vs⟩]) a2 fl2 (by simp; omega) ha2 (fun h => by
      obtain ⟨q1, q2, q3, q4, q5, q6⟩ := hf2 h
      have hp : parR nm vs = true := parR_mk q1 q4 q5 (fun x hx => (q6 x hx).1)
      refine ⟨by simp; omega, okPs_snoc acc [] ⟨nm, vs⟩ g2 hp (by simpa using q3), fun p hp2 => ?_⟩
      rcases List.mem_append.1 hp2 with h9 | h9
      · exact g3 p h9
      · rw [List.mem_singleton.1 h9]; exact ⟨hp, fun v hv => (q6 v hv).2⟩)
    refine ⟨l, a3, fl3, ?_, ha3, hg3⟩
    refine Ev.step (f := fun k => (line_reader_param.f k s ((a + 1 : Nat) : Int) 0 acc).bind fun q => line_Parse.l0 k q.2.2.1 q.2.2.2.1 q.2.2.2.2 (acc ++ [⟨q.1, q.2.1⟩])) (fun k => ?_) (Ev.bind hF hL)
    simp only [line_Parse.l0]
    rw [hP]
    show (if c = 59 then _ else _) = _
    rw [if_pos h59, if_pos ⟨by omega, by omega⟩]; rfl
/-- Whatever text: it is read as a formed line of a known size, or refused. -/
theorem parseAny (s : ByteArray) (hs : s.size ≤ 100000) : ∃ (nm : ByteArray) (l : List LP) (v : ByteArray) (n e : Int), Ev (fun k => line_Parse.f k s) (nm, l, v, n, e) ∧ (e = 0 → formR nm l v = true ∧ v.size ≤ 2000 ∧ ∀ p ∈ l, ∀ x ∈ p.f1, x.size ≤ 2000) := by
  by_cases hb : s.size > 2000
  · refine ⟨⟨#[]⟩, [], ⟨#[]⟩, 0, 4, Ev.congr (f := fun _ => some (noLine 0 4)) (fun k => ?_) (Ev.now _), fun h => absurd h (by decide)⟩
    unfold line_Parse.f; rw [if_pos hb]
  by_cases hv : Lib.validD s.data.toList = true
  case neg =>
    refine ⟨⟨#[]⟩, [], ⟨#[]⟩, 0, 3, Ev.congr (f := fun _ => some (noLine 0 3)) (fun k => ?_) (Ev.now _), fun h => absurd h (by decide)⟩
    unfold line_Parse.f utf8_ValidString.f
    rw [if_neg hb, if_pos (by omega), Option.bind_some, if_neg hv]
  obtain ⟨nm, a1, fl1, hN, ha1, hn1⟩ := nameAny s 0 (by omega) (by omega)
  obtain ⟨l, a2, fl2, hL, ha2, hg2⟩ := parseLAny s (by omega) 61 [] a1 fl1 (by simp) ha1 (fun _ => ⟨by simp, rfl, fun p hp => by simp at hp⟩)
  have fin : ∀ {r : LineR}, Ev (fun k => line_Parse.g k s nm l s (a2 : Int) fl2) r → Ev (fun k => line_Parse.f k s) r := fun h => by
    refine Ev.congr (f := fun k => (line_Parse.l0 k s (a1 : Int) fl1 []).bind fun q => line_Parse.g k s nm q.1 q.2.1 q.2.2.1 q.2.2.2) (fun k => ?_) (Ev.bind hL h)
    unfold line_Parse.f utf8_ValidString.f
    have hN' : line_reader_name.f s 0 0 = some (nm, s, (a1 : Int), fl1) := hN
    rw [if_neg hb, if_pos (by omega), Option.bind_some, if_pos hv, hN']; rfl
  by_cases h0 : fl2 = 0
  case neg =>
    refine ⟨⟨#[]⟩, [], ⟨#[]⟩, a2, fl2, fin (Ev.congr (f := fun _ => some (noLine (a2 : Int) fl2)) (fun k => ?_) (Ev.now _)), fun h => absurd h h0⟩
    unfold line_Parse.g; rw [if_neg h0]
  obtain ⟨c, hP, hc⟩ := peekAny s a2 fl2 ha2
  by_cases h58 : c = 58
  case neg =>
    refine ⟨⟨#[]⟩, [], ⟨#[]⟩, a2, 5, fin (Ev.congr (f := fun _ => some (noLine (a2 : Int) 5)) (fun k => ?_) (Ev.now _)), fun h => absurd h (by decide)⟩
    unfold line_Parse.g
    rw [if_pos h0, hP]
    show (if c = 58 then _ else _) = _
    rw [if_neg h58]
  have hlt := (hc (by rw [h58]; decide)).2
  have hxz : (s.extract (a2 + 1) s.size).size ≤ 2000 := by rw [ByteArray.size_extract]; omega
  have hcl := escClean (s.extract (a2 + 1) s.size) false (by omega)
  by_cases hz : cleanR false (s.extract (a2 + 1) s.size).data.toList = 0
  · refine ⟨nm, l, s.extract (a2 + 1) s.size, 0, 0, fin ?_, fun _ => ?_⟩
    · refine Ev.congr (f := fun k => (escape_Clean.f k (s.extract (a2 + 1) s.size) false).bind fun z => if z = 0 then some (nm, l, s.extract (a2 + 1) s.size, 0, 0) else some (noLine ((a2 : Int) + 1) 7)) (fun k => ?_) (Ev.bind hcl ?_)
      · unfold line_Parse.g
        rw [if_pos h0, hP]
        show (if c = 58 then _ else _) = _
        rw [if_pos h58, if_pos ⟨by omega, by omega⟩, Int.toNat_natCast]
      · rw [hz]; exact Ev.now _
    · obtain ⟨q1, q2, q3⟩ := hg2 h0
      have hfl1 : nameR nm = true := by
        by_cases h9 : fl1 = 0
        · exact hn1 h9
        · -- a wrong name: the loop stops at once, with the same mark
          exfalso
          obtain ⟨c1, hP1, hc1⟩ := peekAny s a1 fl1 ha1
          have hc0 : c1 = 0 := by
            by_cases h : c1 = 0
            · exact h
            · exact absurd (hc1 h).1 h9
          have h2 : Ev (fun k => line_Parse.l0 k s (a1 : Int) fl1 []) ([], s, (a1 : Int), fl1) := Ev.step (f := fun _ => some ([], s, (a1 : Int), fl1)) (fun k => by
            simp only [line_Parse.l0]
            rw [hP1]
            show (if c1 = 59 then _ else _) = _
            rw [if_neg (by omega)]) (Ev.now _)
          obtain ⟨K1, e1⟩ := hL
          obtain ⟨K2, e2⟩ := h2
          have e3 := (e1 (max K1 K2) (by omega)).symm.trans (e2 (max K1 K2) (by omega))
          simp only [Option.some.injEq, Prod.mk.injEq] at e3
          exact h9 (e3.2.2.2.symm.trans h0)
      refine ⟨?_, hxz, fun p hp x hx => (q3 p hp).2 x hx⟩
      unfold formR
      rw [hfl1, decide_eq_true q1, decide_eq_true hz, q2]; rfl
  · refine ⟨⟨#[]⟩, [], ⟨#[]⟩, (a2 : Int) + 1, 7, fin ?_, fun h => absurd h (by decide)⟩
    refine Ev.congr (f := fun k => (escape_Clean.f k (s.extract (a2 + 1) s.size) false).bind fun z => if z = 0 then some (nm, l, s.extract (a2 + 1) s.size, 0, 0) else some (noLine ((a2 : Int) + 1) 7)) (fun k => ?_) (Ev.bind hcl ?_)
    · unfold line_Parse.g
      rw [if_pos h0, hP]
      show (if c = 58 then _ else _) = _
      rw [if_pos h58, if_pos ⟨by omega, by omega⟩, Int.toNat_natCast]
    · exact Ev.congr (f := fun _ => some (noLine ((a2 : Int) + 1) 7)) (fun k => by rw [if_neg hz]) (Ev.now _)
end Go.Proofs.YtdojmdbaiddkgaaGreatDoor.Pure
end
section
set_option linter.unusedVariables false
set_option linter.unusedSimpArgs false
set_option linter.unusedSectionVars false
namespace Go.Proofs.YtdojmdbaiddkgaaGreatDoor.Pure
open Go.RowKit Go.Proofs.YtdojmdbaiddkgaaGreatDoor.Print Go.Proofs.YtdojmdbaiddkgaaGreatDoorW.PrintWords Go.Proofs.YtdojmdbaiddkgaaGreatDoorW.PrintLast Go.Proofs.YtdojmdbaiddkgaaGreatDoorW.PrintMore
def ofP (x : LP) : RP := ⟨x.f0, x.f1⟩
theorem emptyL : (⟨#[]⟩ : ByteArray).toList = [] := by rw [Lib.toList_data]
end Go.Proofs.YtdojmdbaiddkgaaGreatDoor.Pure
end
section
set_option linter.unusedVariables false
set_option linter.unusedSimpArgs false
set_option linter.unusedSectionVars false
namespace Go.Proofs.YtdojmdbaiddkgaaGreatDoor.Pure
open Go.RowKit Go.Proofs.YtdojmdbaiddkgaaGreatDoor.Print Go.Proofs.YtdojmdbaiddkgaaGreatDoorW.PrintWords Go.Proofs.YtdojmdbaiddkgaaGreatDoorW.PrintLast Go.Proofs.YtdojmdbaiddkgaaGreatDoorW.PrintMore
/-- A text up to its first line feed, and what is behind it. -/
def splitNL : List UInt8 → Option (List UInt8 × List UInt8)
  | [] => none
  | c :: t => if c = 10 then some ([], t) else (splitNL t).map fun q => (c :: q.1, q.2)
theorem splitNL_none : ∀ (l : List UInt8), splitNL l = none → Lib.indexByte l 10 = -1
  | [], _ => rfl
  | c :: t, h => by
    unfold splitNL at h
    by_cases hc : c = 10
    · rw [if_pos hc] at h; cases h
    · rw [if_neg hc, Option.map_eq_none_iff] at h
      have := splitNL_none t h
      unfold Lib.indexByte
      simp [hc, this]
theorem splitNL_some : ∀ (l p r : List UInt8), splitNL l = some (p, r) → l = p ++ 10 :: r ∧ Lib.indexByte l 10 = (p.length : Int)
  | [], p, r, h => by cases h
  | c :: t, p, r, h => by
    unfold splitNL at h
    by_cases hc : c = 10
    · rw [if_pos hc] at h
      cases h
      subst hc
      exact ⟨rfl, by unfold Lib.indexByte; simp⟩
    · rw [if_neg hc, Option.map_eq_some_iff] at h
      obtain ⟨⟨p', r'⟩, h1, h2⟩ := h
      cases h2
      have := splitNL_some t p' r' h1
      refine ⟨by rw [this.1]; rfl, ?_⟩
      unfold Lib.indexByte
      simp [hc, this.2]
/-- Without a carriage return at the end. -/
def trimCR (p : List UInt8) : List UInt8 := if p.getLast? = some 13 then p.dropLast else p
def badP (p : List UInt8) : Bool := p.isEmpty || p.any (· == 13)
def goesP (p : List UInt8) : Bool := p.getD 0 0 == 32 || p.getD 0 0 == 9
def addLast (acc : List S95) (t : List UInt8) : List S95 := acc.set (acc.length - 1) ⟨(rd_T95 acc ((acc.length - 1 : Nat) : Int)).f0 ++ ⟨t.toArray⟩, (rd_T95 acc ((acc.length - 1 : Nat) : Int)).f1⟩
/-- A text, cut into lines; the number of a piece that is wrong. -/
def cutG : Nat → List UInt8 → List S95 → Nat → List S95 × Int
  | 0, _, acc, _ => (acc, 0)
  | k + 1, l, acc, n => if l = [] then (acc, 0) else
      match splitNL l with
      | none => ([], (n : Int))
      | some (q, r) => if badP (trimCR q) = true then ([], (n : Int)) else
          if goesP (trimCR q) = true then (if acc = [] then ([], (n : Int)) else cutG k r (addLast acc ((trimCR q).drop 1)) (n + 1))
          else cutG k r (acc ++ [⟨⟨(trimCR q).toArray⟩, (n : Int)⟩]) (n + 1)
/-- The lines, looked at one by one. -/
def finR : List S95 → List S95 → List ByteArray × Int × Int
  | [], all => (all.map (·.f0), 0, 0)
  | x :: t, all => if Lib.validD x.f0.data.toList = true then (if x.f0.size > 2000 then ([], x.f1, 4) else finR t all) else ([], x.f1, 3)
def unfB (p : List S95 × Int) : List ByteArray × Int × Int := if p.2 > 0 then ([], p.2, 5) else finR p.1 p.1
def unfA (s : ByteArray) : List ByteArray × Int × Int := if s.size > 20000 then ([], 0, 4) else unfB (cutG s.size s.data.toList [] 1)
theorem ba_eq (s : ByteArray) : (⟨s.data.toList.toArray⟩ : ByteArray) = s := by cases s; simp
/-- What is known of the lines so far. -/
structure Acc (acc : List S95) (m : Nat) : Prop where
  len : acc.length + m ≤ 20000
  sz : ∀ x ∈ acc, x.f0.size + m ≤ 20000
theorem Acc.nil : Acc [] 20000 := ⟨by simp, fun x hx => by cases hx⟩
theorem Acc.less {acc : List S95} {m k : Nat} (h : Acc acc m) (hk : k ≤ m) : Acc acc k := ⟨by have := h.len; omega, fun x hx => by have := h.sz x hx; omega⟩
theorem rd_mem (acc : List S95) (h : acc ≠ []) : rd_T95 acc ((acc.length - 1 : Nat) : Int) ∈ acc := by
  have hl : 0 < acc.length := List.length_pos_iff.2 h
  unfold rd_T95
  rw [Int.toNat_natCast, List.getD_eq_getElem?_getD, List.getElem?_eq_getElem (by omega)]
  exact List.getElem_mem _
theorem Acc.add {acc : List S95} {m k : Nat} {t : List UInt8} (h : Acc acc m) (hne : acc ≠ []) (hk : t.length + k ≤ m) : Acc (addLast acc t) k := by
  refine ⟨by unfold addLast; rw [List.length_set]; have := h.len; omega, fun x hx => ?_⟩
  unfold addLast at hx
  rcases List.mem_or_eq_of_mem_set hx with hx | rfl
  · have := h.sz x hx; omega
  · have := h.sz _ (rd_mem acc hne)
    show (_ ++ _ : ByteArray).size + k ≤ 20000
    rw [ByteArray.size_append]
    have e : (⟨t.toArray⟩ : ByteArray).size = t.length := by show t.toArray.size = _; rw [List.size_toArray]
    omega
theorem Acc.new {acc : List S95} {m k : Nat} {p : List UInt8} {n : Int} (h : Acc acc m) (hk : p.length + k + 1 ≤ m) (hm : m ≤ 20000) : Acc (acc ++ [⟨⟨p.toArray⟩, n⟩]) k := by
  refine ⟨by rw [List.length_append]; have := h.len; simp; omega, fun x hx => ?_⟩
  rcases List.mem_append.1 hx with hx | hx
  · have := h.sz x hx; omega
  · rw [List.mem_singleton.1 hx]
    have e : (⟨p.toArray⟩ : ByteArray).size = p.length := by show p.toArray.size = _; rw [List.size_toArray]
    show (⟨p.toArray⟩ : ByteArray).size + k ≤ 20000
    omega
theorem trimCR_len (p : List UInt8) : (trimCR p).length ≤ p.length := by
  unfold trimCR; split
  · rw [List.length_dropLast]; omega
  · exact Nat.le_refl _
theorem split_len {l p r : List UInt8} (h : splitNL l = some (p, r)) : p.length + r.length + 1 = l.length := by
  rw [(splitNL_some l p r h).1]; simp; omega
theorem ba_size (l : List UInt8) : (⟨l.toArray⟩ : ByteArray).size = l.length := by show l.toArray.size = _; rw [List.size_toArray]
theorem ba_extU (l : List UInt8) (a b : Nat) : (⟨l.toArray⟩ : ByteArray).extract a b = ⟨((l.drop a).take (b - a)).toArray⟩ := by
  apply ByteArray.ext
  rw [ByteArray.data_extract]
  simp [List.extract_eq_take_drop]
theorem ba_toList (l : List UInt8) : (⟨l.toArray⟩ : ByteArray).toList = l := by rw [Lib.toList_data]
theorem trim_f (q : List UInt8) (h : q.length ≤ 20000) : strings_TrimSuffix.f ⟨q.toArray⟩ ⟨#[13]⟩ = some ⟨(trimCR q).toArray⟩ := by
  have e1 : (⟨#[13]⟩ : ByteArray).size = 1 := rfl
  have e2 : (⟨#[13]⟩ : ByteArray).toList = [13] := by rw [Lib.toList_data]
  unfold strings_TrimSuffix.f stringslite_TrimSuffix.f stringslite_HasSuffix.f
  rw [ba_size, e1, e2]
  by_cases h0 : q = []
  · subst h0; rfl
  · have hl : 0 < q.length := List.length_pos_iff.2 h0
    have hw : wrap64 ((q.length : Int) - ((1 : Nat) : Int)) = ((q.length - 1 : Nat) : Int) := by unfold wrap64; omega
    rw [if_pos (by omega), hw, if_pos (by omega), if_pos (by omega), Int.toNat_natCast, ba_extU, ba_toList]
    have hlast : (q.drop (q.length - 1)).take (q.length - (q.length - 1)) = [q.getLast h0] := by
      rw [List.drop_eq_getElem_cons (by omega), List.drop_of_length_le (by omega), List.getLast_eq_getElem, show q.length - (q.length - 1) = 1 by omega]; rfl
    rw [hlast]
    simp only [Option.bind_some]
    unfold trimCR
    rw [List.getLast?_eq_some_getLast h0]
    by_cases hc : q.getLast h0 = 13
    · rw [hc]
      simp only [beq_self_eq_true, if_true]
      rw [if_pos (by omega), if_pos (by omega), ba_extU]
      simp [List.dropLast_eq_take]
    · have : ([q.getLast h0] == [(13 : UInt8)]) = false := by simpa using hc
      rw [this, if_neg (by simp), if_neg (by simpa using hc)]
      rfl
theorem has_cr (p : List UInt8) (hp : p ≠ []) : decide (0 ≤ Lib.indexByte p 13) = p.any (· == 13) := by
  clear hp
  induction p with
  | nil => rfl
  | cons c t ih =>
    have hge := Lib.indexByte_ge t 13
    unfold Lib.indexByte
    rw [List.any_cons, ← ih]
    by_cases hc : c = 13
    · simp [hc]
    · by_cases h1 : Lib.indexByte t 13 = -1
      · simp [hc, h1]
      · have h0 : 0 ≤ Lib.indexByte t 13 := by omega
        simp [hc, h1, h0]; omega
theorem piece_none (l : List UInt8) (h : splitNL l = none) : fold_piece.f ⟨l.toArray⟩ = some (⟨#[]⟩, ⟨#[]⟩, false) := by
  unfold fold_piece.f strings_IndexByte.f
  have e : Lib.indexByte (⟨l.toArray⟩ : ByteArray).data.toList (10 : Int).toNat.toUInt8 = -1 := splitNL_none l h
  rw [e]
  simp only [Option.bind_some]
  rw [if_pos (by omega)]
theorem piece_some (l q r : List UInt8) (hl : l.length ≤ 20000) (h : splitNL l = some (q, r)) : fold_piece.f ⟨l.toArray⟩ = some (⟨(trimCR q).toArray⟩, ⟨r.toArray⟩, !badP (trimCR q)) := by
  obtain ⟨e1, e2⟩ := splitNL_some l q r h
  have hlen := split_len h
  unfold fold_piece.f strings_IndexByte.f
  have e : Lib.indexByte (⟨l.toArray⟩ : ByteArray).data.toList (10 : Int).toNat.toUInt8 = (q.length : Int) := e2
  rw [e, Option.bind_some]
  have hw : wrap64 ((q.length : Int) + 1) = ((q.length + 1 : Nat) : Int) := wrap_one _ (by omega)
  rw [if_neg (by omega), if_pos (by omega), ba_size, if_pos (by omega), Int.toNat_natCast, ba_extU]
  have eq : (l.drop 0).take (q.length - 0) = q := by rw [e1]; simp
  rw [eq, trim_f q (by omega), Option.bind_some, hw, if_pos (by omega), if_pos (by omega), Int.toNat_natCast, ba_extU, ba_toList]
  have er : (l.drop (q.length + 1)).take (l.length - (q.length + 1)) = r := by
    rw [List.take_of_length_le (by rw [List.length_drop]; omega), e1, show q ++ 10 :: r = (q ++ [10]) ++ r by simp, List.drop_left' (by simp)]
  rw [er]
  clear e hw eq er e1 e2
  by_cases hp : trimCR q = []
  · rw [if_pos hp, hp, show badP [] = true from rfl]; simp only [Bool.not_true]
  · rw [if_neg hp]
    unfold strings_ContainsRune.f
    have eb : badP (trimCR q) = (trimCR q).any (· == 13) := by
      unfold badP
      cases ht : trimCR q with
      | nil => exact absurd ht hp
      | cons c t => rfl
    have e13 : ((13 : Int).toNat.toUInt8) = 13 := rfl
    rw [if_pos (by omega), eb, ← has_cr _ hp, e13, Option.bind_some]
theorem cut_end (k n : Nat) (acc : List S95) : fold_cut.l0 (k + 1) ⟨#[]⟩ acc n = some (acc, 0) := by
  simp only [fold_cut.l0]
  rw [if_pos (by rw [Lib.toList_data])]
theorem goesU (c : UInt8) : fold_goesOn.f c.toNat = some (c == 32 || c == 9) := by
  unfold fold_goesOn.f
  by_cases h : c = 32
  · subst h; rfl
  · have e1 : (c == 32) = false := beq_eq_false_iff_ne.2 h
    rw [if_neg (show ¬ (c.toNat : Int) = 32 from ne_nat c 32 (by omega) h), e1]
    by_cases h9 : c = 9
    · subst h9; rfl
    · have e2 : (c == 9) = false := beq_eq_false_iff_ne.2 h9
      rw [e2, beq_eq_false_iff_ne.2 (show ¬ (c.toNat : Int) = 9 from ne_nat c 9 (by omega) h9)]; rfl
theorem ba_bt0 (p : List UInt8) : bt ⟨p.toArray⟩ 0 = ((p.getD 0 0).toNat : Int) := bt_nat ⟨p.toArray⟩ 0
theorem cut_bad (k n : Nat) (l : List UInt8) (acc : List S95) (hne : l ≠ []) (p r : ByteArray) (hp : fold_piece.f ⟨l.toArray⟩ = some (p, r, false)) : fold_cut.l0 (k + 3) ⟨l.toArray⟩ acc n = some ([], (n : Int)) := by
  simp only [fold_cut.l0, hp, Option.bind_some, fold_cut.j1, fold_cut.j2]
  rw [if_neg (by rw [ba_toList]; exact hne)]
  simp
theorem cut_none (k n : Nat) (l p : List UInt8) (r : ByteArray) (hne : l ≠ []) (hpne : p ≠ []) (hp : fold_piece.f ⟨l.toArray⟩ = some (⟨p.toArray⟩, r, true)) (hg : goesP p = true) : fold_cut.l0 (k + 3) ⟨l.toArray⟩ [] n = some ([], (n : Int)) := by
  have hl : 0 < p.length := List.length_pos_iff.2 hpne
  unfold goesP at hg
  simp only [fold_cut.l0, hp, Option.bind_some, if_true, ba_bt0, goesU, hg, fold_cut.j1, fold_cut.j2]
  rw [if_neg (by rw [ba_toList]; exact hne), ba_size p, if_pos (by omega)]
  simp
theorem cut_more (k n : Nat) (l p r : List UInt8) (acc : List S95) (hne : l ≠ []) (hpne : p ≠ []) (ha : acc ≠ []) (hA : Acc acc (p.length)) (hal : acc.length ≤ 20000) (hn : n ≤ 20000) (hp : fold_piece.f ⟨l.toArray⟩ = some (⟨p.toArray⟩, ⟨r.toArray⟩, true)) (hg : goesP p = true) :
    fold_cut.l0 (k + 3) ⟨l.toArray⟩ acc n = fold_cut.l0 k ⟨r.toArray⟩ (addLast acc (p.drop 1)) ((n + 1 : Nat) : Int) := by
  have hl : 0 < p.length := List.length_pos_iff.2 hpne
  have hal0 : 0 < acc.length := List.length_pos_iff.2 ha
  have hsz := hA.sz _ (rd_mem acc ha)
  have e0 : ((acc.length : Int) == 0) = false := beq_eq_false_iff_ne.2 (by omega)
  have hw : wrap64 ((acc.length : Int) - 1) = ((acc.length - 1 : Nat) : Int) := by unfold wrap64; omega
  unfold goesP at hg
  simp only [fold_cut.l0, hp, Option.bind_some, if_true, ba_bt0, goesU, hg, fold_cut.j1, fold_cut.j2, e0, hw]
  have hc : (rd_T95 acc ((acc.length - 1 : Nat) : Int)).f0.size + ((⟨p.toArray⟩ : ByteArray).extract 1 p.length).size ≤ 9223372036854775807 := by rw [ByteArray.size_extract, ba_size p]; omega
  rw [if_neg (by rw [ba_toList]; exact hne), ba_size p, if_pos (by omega), if_neg (by simp), if_pos (by omega), if_pos (by omega), if_pos (by omega), if_pos hc, ba_extU p, wrap_one n (by omega), Int.toNat_natCast]
  rw [List.take_of_length_le (by rw [List.length_drop]; omega)]
  rfl
theorem cut_new (k n : Nat) (l p r : List UInt8) (acc : List S95) (hne : l ≠ []) (hpne : p ≠ []) (hal : acc.length ≤ 20000) (hn : n ≤ 20000) (hp : fold_piece.f ⟨l.toArray⟩ = some (⟨p.toArray⟩, ⟨r.toArray⟩, true)) (hg : goesP p = false) :
    fold_cut.l0 (k + 3) ⟨l.toArray⟩ acc n = fold_cut.l0 k ⟨r.toArray⟩ (acc ++ [⟨⟨p.toArray⟩, (n : Int)⟩]) ((n + 1 : Nat) : Int) := by
  have hl : 0 < p.length := List.length_pos_iff.2 hpne
  unfold goesP at hg
  simp only [fold_cut.l0, hp, Option.bind_some, if_true, ba_bt0, goesU, hg, fold_cut.j1, fold_cut.j2]
  rw [if_neg (by rw [ba_toList]; exact hne), ba_size p, if_pos (by omega)]
  simp only [Bool.false_eq_true, if_false]
  rw [if_pos (by omega), wrap_one n (by omega)]
theorem ev3 {α : Type} {g f : Nat → Option α} {r : α} (h : ∀ k, g (k + 3) = f k) (hf : Ev f r) : Ev g r := by
  obtain ⟨K, hK⟩ := hf
  refine ⟨K + 3, fun k hk => ?_⟩
  obtain ⟨j, rfl⟩ : ∃ j, k = j + 3 := ⟨k - 3, by omega⟩
  rw [h j]; exact hK j (by omega)
theorem badP_ne (p : List UInt8) (h : badP p = false) : p ≠ [] := by
  intro e; subst e; cases h
theorem cut_ev : ∀ (m n : Nat) (l : List UInt8) (acc : List S95), l.length ≤ m → Acc acc l.length → n + l.length ≤ 20001 → Ev (fun k => fold_cut.l0 k ⟨l.toArray⟩ acc n) (cutG m l acc n)
  | 0, n, l, acc, hl, hA, hn => by
    obtain rfl : l = [] := List.length_eq_zero_iff.1 (by omega)
    exact Ev.step (f := fun _ => some (acc, 0)) (fun k => cut_end k n acc) (Ev.now _)
  | m + 1, n, l, acc, hl, hA, hn => by
    unfold cutG
    by_cases hne : l = []
    · subst hne
      rw [if_pos rfl]
      exact Ev.step (f := fun _ => some (acc, 0)) (fun k => cut_end k n acc) (Ev.now _)
    rw [if_neg hne]
    have hlen := hA.len
    cases hs : splitNL l with
    | none => exact ev3 (f := fun _ => some ([], (n : Int))) (fun k => cut_bad k n l acc hne _ _ (piece_none l hs)) (Ev.now _)
    | some qr =>
      obtain ⟨q, r⟩ := qr
      have hq := split_len hs
      have ht := trimCR_len q
      have hp := piece_some l q r (by omega) hs
      simp only
      generalize trimCR q = p at *
      cases hb : badP p
      · rw [hb] at hp
        have hpne := badP_ne p hb
        simp only [Bool.false_eq_true, if_false]
        cases hg : goesP p
        · simp only [Bool.false_eq_true, if_false]
          refine ev3 (fun k => cut_new k n l p r acc hne hpne (by omega) (by omega) hp hg) ?_
          exact cut_ev m (n + 1) r _ (by omega) (hA.new (by omega) (by omega)) (by omega)
        · simp only [if_true]
          by_cases ha : acc = []
          · subst ha
            rw [if_pos rfl]
            exact ev3 (f := fun _ => some ([], (n : Int))) (fun k => cut_none k n l p _ hne hpne hp hg) (Ev.now _)
          · rw [if_neg ha]
            refine ev3 (fun k => cut_more k n l p r acc hne hpne ha (hA.less (by omega)) (by omega) (by omega) hp hg) ?_
            have hp0 : 0 < p.length := List.length_pos_iff.2 hpne
            exact cut_ev m (n + 1) r _ (by omega) (hA.add ha (by rw [List.length_drop]; omega)) (by omega)
      · rw [hb] at hp
        simp only [if_true]
        exact ev3 (f := fun _ => some ([], (n : Int))) (fun k => cut_bad k n l acc hne _ _ hp) (Ev.now _)
theorem rd78 (X : List S95) (i : Nat) (h : i < X.length) : rd_T95 X (i : Int) = X[i] := by
  unfold rd_T95
  rw [Int.toNat_natCast, List.getD_eq_getElem?_getD, List.getElem?_eq_getElem h]; rfl
theorem fin_ev (X : List S95) (hl : X.length ≤ 20000) (hs : ∀ x ∈ X, x.f0.size ≤ 20000) : ∀ (n i : Nat), X.length - i ≤ n → i ≤ X.length →
    Ev (fun k => fold_Unfold.l0 k ((X.take i).map (·.f0)) X (X.length : Int) (i : Int)) (finR (X.drop i) X)
  | 0, i, hn, hi => by
    obtain rfl : i = X.length := by omega
    rw [List.drop_length, List.take_length]
    exact Ev.step (f := fun _ => some (X.map (·.f0), 0, 0)) (fun k => by simp only [fold_Unfold.l0]; rw [if_neg (by omega)]) (Ev.now _)
  | n + 1, i, hn, hi => by
    by_cases hlt : i < X.length
    case neg => exact fin_ev X hl hs n i (by omega) hi
    have hx := hs X[i] (List.getElem_mem hlt)
    have hr := rd78 X i hlt
    have ih := fin_ev X hl hs n (i + 1) (by omega) (by omega)
    rw [List.take_succ_eq_append_getElem hlt, List.map_append] at ih
    rw [List.drop_eq_getElem_cons hlt]
    unfold finR
    generalize X[i] = x at *
    have hv : utf8_ValidString.f x.f0 = some (Lib.validD x.f0.data.toList) := by unfold utf8_ValidString.f; rw [if_pos (by omega)]
    have hlen : ((X.take i).map (·.f0)).length = i := by rw [List.length_map, List.length_take]; omega
    by_cases h1 : Lib.validD x.f0.data.toList = true
    · rw [if_pos h1]
      by_cases h2 : x.f0.size > 2000
      · rw [if_pos h2]
        refine Ev.step (f := fun _ => some ([], x.f1, 4)) (fun k => ?_) (Ev.now _)
        simp only [fold_Unfold.l0, hr, hv, h1, Option.bind_some, if_true]
        rw [if_pos (by omega), if_pos (by omega), if_pos (by omega), if_pos (by omega)]
      · rw [if_neg h2]
        refine Ev.step (fun k => ?_) ih
        simp only [fold_Unfold.l0, hr, hv, h1, Option.bind_some, if_true]
        rw [if_pos (by omega), if_pos (by omega), if_pos (by omega), if_neg (by omega), hlen, if_pos (by omega), wrap_one i (by omega)]
        rfl
    · rw [if_neg h1]
      rw [Bool.not_eq_true] at h1
      refine Ev.step (f := fun _ => some ([], x.f1, 3)) (fun k => ?_) (Ev.now _)
      simp only [fold_Unfold.l0, hr, hv, h1, Option.bind_some]
      rw [if_pos (by omega), if_pos (by omega), if_pos (by omega), if_neg (by simp)]
theorem cutG_acc : ∀ (m n : Nat) (l : List UInt8) (acc : List S95), Acc acc l.length → Acc (cutG m l acc n).1 0
  | 0, n, l, acc, hA => hA.less (by omega)
  | m + 1, n, l, acc, hA => by
    unfold cutG
    have hlen := hA.len
    have e0 : Acc [] 0 := Acc.nil.less (by omega)
    by_cases hne : l = []
    · rw [if_pos hne]; exact hA.less (by omega)
    rw [if_neg hne]
    cases hs : splitNL l with
    | none => exact e0
    | some qr =>
      obtain ⟨q, r⟩ := qr
      have hq := split_len hs
      have ht := trimCR_len q
      simp only
      generalize trimCR q = p at *
      split
      · exact e0
      · rename_i hb
        rw [Bool.not_eq_true] at hb
        have hp0 : 0 < p.length := List.length_pos_iff.2 (badP_ne p hb)
        split
        · split
          · exact e0
          · rename_i ha
            exact cutG_acc m (n + 1) r _ (hA.add ha (by rw [List.length_drop]; omega))
        · exact cutG_acc m (n + 1) r _ (hA.new (by omega) (by omega))
theorem unfold_ev (s : ByteArray) (hs : s.size ≤ 140737488351232) : Ev (fun k => fold_Unfold.f k s) (unfA s) := by
  unfold unfA
  by_cases h : s.size > 20000
  · rw [if_pos h]
    refine Ev.congr (f := fun _ => some ([], 0, 4)) (fun k => ?_) (Ev.now _)
    unfold fold_Unfold.f; rw [if_pos (by omega)]
  · rw [if_neg h]
    have e : s.data.toList.length = s.size := by simp
    have hA : Acc [] s.data.toList.length := Acc.nil.less (by omega)
    have hc := cut_ev s.size 1 s.data.toList [] (by omega) hA (by omega)
    rw [ba_eq] at hc
    have hacc := cutG_acc s.size 1 s.data.toList [] hA
    refine Ev.congr (f := fun k => (fold_cut.f k s).bind fun bt256 => if bt256.2 > 0 then some (([] : List ByteArray), bt256.2, 5) else fold_Unfold.l0 k ([] : List ByteArray) bt256.1 (bt256.1.length : Int) 0) (fun k => by unfold fold_Unfold.f; rw [if_neg (by omega)]) ?_
    refine Ev.bind hc ?_
    unfold unfB
    generalize cutG s.size s.data.toList [] 1 = P at *
    by_cases hb : P.2 > 0
    · simp only [if_pos hb]; exact Ev.now _
    · simp only [if_neg hb]
      exact fin_ev P.1 (by have := hacc.len; omega) (fun x hx => by have := hacc.sz x hx; omega) P.1.length 0 (by omega) (by omega)
end Go.Proofs.YtdojmdbaiddkgaaGreatDoor.Pure
end
section
set_option linter.unusedVariables false
set_option linter.unusedSimpArgs false
set_option linter.unusedSectionVars false
namespace Go.Proofs.YtdojmdbaiddkgaaGreatDoor.Pure
open Go.RowKit Go.Proofs.YtdojmdbaiddkgaaGreatDoor.Print Go.Proofs.YtdojmdbaiddkgaaGreatDoorW.PrintWords Go.Proofs.YtdojmdbaiddkgaaGreatDoorW.PrintLast Go.Proofs.YtdojmdbaiddkgaaGreatDoorW.PrintMore
abbrev RU := List ByteArray × Int × Int
section
variable {s : ByteArray} (hs : s.size ≤ 20000) {x5 : List ByteArray} {x6 : List Int} {n b : Int} {R : RU}
include hs
end
/-- What is done with a piece. -/
def goOn (m : Nat) (p r : List UInt8) (acc : List S95) (n : Nat) : List S95 × Int :=
  if badP p = true then ([], (n : Int)) else
    if goesP p = true then (if acc = [] then ([], (n : Int)) else cutG m r (addLast acc (p.drop 1)) (n + 1))
    else cutG m r (acc ++ [⟨⟨p.toArray⟩, (n : Int)⟩]) (n + 1)
theorem cutG_none (m n : Nat) (l : List UInt8) (acc : List S95) (hne : l ≠ []) (h : splitNL l = none) : cutG (m + 1) l acc n = ([], (n : Int)) := by
  rw [cutG, if_neg hne, h]
theorem cutG_some (m n : Nat) (l q r : List UInt8) (acc : List S95) (hne : l ≠ []) (h : splitNL l = some (q, r)) : cutG (m + 1) l acc n = goOn m (trimCR q) r acc n := by
  rw [cutG, if_neg hne, h]; rfl
theorem unfB_ok (X : List S95) : unfB (X, 0) = finR X X := by unfold unfB; rw [if_neg (show ¬ (0 : Int) > 0 by omega)]
theorem finR_len : ∀ (t X : List S95), (finR t X).1.length ≤ X.length
  | [], X => by unfold finR; rw [List.length_map]; exact Nat.le_refl _
  | x :: t, X => by
    unfold finR
    split
    · split
      · exact Nat.zero_le _
      · exact finR_len t X
    · exact Nat.zero_le _
theorem unfA_len (s : ByteArray) : (unfA s).1.length ≤ 20000 := by
  unfold unfA
  split
  · exact Nat.zero_le _
  · rename_i h
    have e : s.data.toList.length = s.size := by simp
    have hacc := (cutG_acc s.size 1 s.data.toList [] (Acc.nil.less (by omega))).len
    unfold unfB
    split
    · exact Nat.zero_le _
    · exact Nat.le_trans (finR_len _ _) (by omega)
end Go.Proofs.YtdojmdbaiddkgaaGreatDoor.Pure
end
section
set_option linter.unusedVariables false
set_option linter.unusedSimpArgs false
set_option linter.unusedSectionVars false
namespace Go.Proofs.YtdojmdbaiddkgaaGreatDoor.Pure
open Go.RowKit Go.Proofs.YtdojmdbaiddkgaaGreatDoor.Print Go.Proofs.YtdojmdbaiddkgaaGreatDoorW.PrintWords Go.Proofs.YtdojmdbaiddkgaaGreatDoorW.PrintLast Go.Proofs.YtdojmdbaiddkgaaGreatDoorW.PrintMore
theorem nl_cons {c : UInt8} {t : List UInt8} (h : (c :: t).any nlB = false) : c ≠ 13 ∧ c ≠ 10 ∧ t.any nlB = false := by
  rw [List.any_cons, Bool.or_eq_false_iff] at h
  refine ⟨?_, ?_, h.2⟩
  · intro e; rw [e] at h; exact absurd h.1 (by decide)
  · intro e; rw [e] at h; exact absurd h.1 (by decide)
theorem nl_append {a b : List UInt8} (h : (a ++ b).any nlB = false) : a.any nlB = false ∧ b.any nlB = false := by
  rw [List.any_append, Bool.or_eq_false_iff] at h; exact h
theorem nl_app {a b : List UInt8} (ha : a.any nlB = false) (hb : b.any nlB = false) : (a ++ b).any nlB = false := by
  rw [List.any_append, ha, hb]; rfl
theorem nl_take {l : List UInt8} (k : Nat) (h : l.any nlB = false) : (l.take k).any nlB = false ∧ (l.drop k).any nlB = false :=
  nl_append (by rw [List.take_append_drop]; exact h)
theorem split_lf : ∀ (p r : List UInt8), p.any nlB = false → splitNL (p ++ 10 :: r) = some (p, r)
  | [], r, _ => rfl
  | c :: t, r, h => by
    obtain ⟨_, h10, ht⟩ := nl_cons h
    rw [List.cons_append, splitNL, if_neg h10, split_lf t r ht]; rfl
theorem split_crlf : ∀ (p r : List UInt8), p.any nlB = false → splitNL (p ++ 13 :: 10 :: r) = some (p ++ [13], r)
  | [], r, _ => rfl
  | c :: t, r, h => by
    obtain ⟨_, h10, ht⟩ := nl_cons h
    rw [List.cons_append, splitNL, if_neg h10, split_crlf t r ht]; rfl
theorem no13 : ∀ (p : List UInt8), p.any nlB = false → p.any (· == 13) = false
  | [], _ => rfl
  | c :: t, h => by
    obtain ⟨h13, _, ht⟩ := nl_cons h
    rw [List.any_cons, no13 t ht, beq_eq_false_iff_ne.2 h13]; rfl
theorem trim_cr (p : List UInt8) : trimCR (p ++ [13]) = p := by unfold trimCR; simp
theorem trim_no (p : List UInt8) (h : p.any nlB = false) : trimCR p = p := by
  unfold trimCR
  rw [if_neg]
  intro e
  have hm := List.mem_of_getLast? e
  have h2 := no13 p h
  rw [List.any_eq_false] at h2
  exact h2 13 hm (by decide)
def Eol (e : List UInt8) : Prop := e = [13, 10] ∨ e = [10]
theorem cut_step (e p r : List UInt8) (he : Eol e) (hp : p.any nlB = false) (m n : Nat) (acc : List S95) : cutG (m + 1) (p ++ e ++ r) acc n = goOn m p r acc n := by
  rcases he with rfl | rfl
  · rw [show p ++ [13, 10] ++ r = p ++ 13 :: 10 :: r by simp, cutG_some m n _ (p ++ [13]) r acc (by simp) (split_crlf p r hp), trim_cr]
  · rw [show p ++ [10] ++ r = p ++ 10 :: r by simp, cutG_some m n _ p r acc (by simp) (split_lf p r hp), trim_no p hp]
theorem notbad (p : List UInt8) (hne : p ≠ []) (hp : p.any nlB = false) : badP p = false := by
  unfold badP
  rw [no13 p hp, Bool.or_false]
  cases p with
  | nil => exact absurd rfl hne
  | cons a t => rfl
theorem go_first (m n : Nat) (p r : List UInt8) (acc : List S95) (hne : p ≠ []) (hp : p.any nlB = false) (hg : goesP p = false) : goOn m p r acc n = cutG m r (acc ++ [⟨⟨p.toArray⟩, (n : Int)⟩]) (n + 1) := by
  unfold goOn
  rw [notbad p hne hp, hg]
  simp only [Bool.false_eq_true, if_false]
theorem addLast_snoc (acc : List S95) (p q : List UInt8) (n0 : Int) : addLast (acc ++ [⟨⟨p.toArray⟩, n0⟩]) q = acc ++ [⟨⟨(p ++ q).toArray⟩, n0⟩] := by
  have hl : (acc ++ [(⟨⟨p.toArray⟩, n0⟩ : S95)]).length - 1 = acc.length := by simp
  have hr : rd_T95 (acc ++ [(⟨⟨p.toArray⟩, n0⟩ : S95)]) ((acc.length : Nat) : Int) = ⟨⟨p.toArray⟩, n0⟩ := by
    unfold rd_T95
    rw [Int.toNat_natCast, List.getD_eq_getElem?_getD]
    simp
  unfold addLast
  rw [hl, hr, List.set_append_right _ _ (Nat.le_refl _), Nat.sub_self, List.set_cons_zero]
  have e : (⟨p.toArray⟩ : ByteArray) ++ ⟨q.toArray⟩ = ⟨(p ++ q).toArray⟩ := by
    apply ByteArray.ext
    rw [ByteArray.data_append]
    simp
  show acc ++ [(⟨(⟨p.toArray⟩ : ByteArray) ++ ⟨q.toArray⟩, n0⟩ : S95)] = _
  rw [e]
theorem go_more (m n : Nat) (b : UInt8) (hb : b = 32 ∨ b = 9) (p q r : List UInt8) (acc : List S95) (n0 : Int) (hq : q.any nlB = false) : goOn m (b :: q) r (acc ++ [⟨⟨p.toArray⟩, n0⟩]) n = cutG m r (acc ++ [⟨⟨(p ++ q).toArray⟩, n0⟩]) (n + 1) := by
  have hg : goesP (b :: q) = true := by rcases hb with rfl | rfl <;> rfl
  have hbq : (b :: q).any nlB = false := by
    rw [List.any_cons, hq, Bool.or_false]
    rcases hb with rfl | rfl <;> decide
  unfold goOn
  rw [notbad _ (by simp) hbq, hg]
  simp only [Bool.false_eq_true, if_false, if_true]
  rw [if_neg (by simp), show (b :: q).drop 1 = q from rfl, addLast_snoc]
theorem cutG_fuel : ∀ (m m' n : Nat) (l : List UInt8) (acc : List S95), l.length ≤ m → l.length ≤ m' → cutG m l acc n = cutG m' l acc n
  | 0, m', n, l, acc, h, h' => by
    obtain rfl : l = [] := List.length_eq_zero_iff.1 (by omega)
    cases m' with
    | zero => rfl
    | succ j => rw [cutG, cutG, if_pos rfl]
  | m + 1, 0, n, l, acc, h, h' => by
    obtain rfl : l = [] := List.length_eq_zero_iff.1 (by omega)
    rw [cutG, cutG, if_pos rfl]
  | m + 1, m' + 1, n, l, acc, h, h' => by
    by_cases hne : l = []
    · rw [cutG, cutG, if_pos hne, if_pos hne]
    cases hs : splitNL l with
    | none => rw [cutG_none _ _ _ _ hne hs, cutG_none _ _ _ _ hne hs]
    | some qr =>
      obtain ⟨q, r⟩ := qr
      have hq := split_len hs
      rw [cutG_some _ _ _ q r _ hne hs, cutG_some _ _ _ q r _ hne hs]
      unfold goOn
      rw [cutG_fuel m m' (n + 1) r _ (by omega) (by omega), cutG_fuel m m' (n + 1) r (acc ++ _) (by omega) (by omega)]
def cutT (l : List UInt8) (acc : List S95) (n : Nat) : List S95 × Int := cutG l.length l acc n
theorem cutT_first (e p r : List UInt8) (he : Eol e) (acc : List S95) (n : Nat) (hne : p ≠ []) (hp : p.any nlB = false) (hg : goesP p = false) : cutT (p ++ e ++ r) acc n = cutT r (acc ++ [⟨⟨p.toArray⟩, (n : Int)⟩]) (n + 1) := by
  have hl : 0 < p.length := List.length_pos_iff.2 hne
  unfold cutT
  obtain ⟨m, hm⟩ : ∃ m, (p ++ e ++ r).length = m + 1 := ⟨(p ++ e ++ r).length - 1, by simp only [List.length_append]; omega⟩
  rw [hm, cut_step e p r he hp, go_first m n p r acc hne hp hg]
  exact cutG_fuel _ _ _ _ _ (by simp only [List.length_append] at hm; omega) (Nat.le_refl _)
theorem cutT_more (e q r : List UInt8) (he : Eol e) (b : UInt8) (hb : b = 32 ∨ b = 9) (acc : List S95) (p : List UInt8) (n0 : Int) (n : Nat) (hq : q.any nlB = false) : cutT ((b :: q) ++ e ++ r) (acc ++ [⟨⟨p.toArray⟩, n0⟩]) n = cutT r (acc ++ [⟨⟨(p ++ q).toArray⟩, n0⟩]) (n + 1) := by
  have hbq : (b :: q).any nlB = false := by
    rw [List.any_cons, hq, Bool.or_false]
    rcases hb with rfl | rfl <;> decide
  unfold cutT
  obtain ⟨m, hm⟩ : ∃ m, ((b :: q) ++ e ++ r).length = m + 1 := ⟨((b :: q) ++ e ++ r).length - 1, by simp only [List.length_append, List.length_cons]; omega⟩
  rw [hm, cut_step e _ r he hbq, go_more m n b hb p q r acc n0 hq]
  exact cutG_fuel _ _ _ _ _ (by simp only [List.length_append, List.length_cons] at hm; omega) (Nat.le_refl _)
def contT (l : List UInt8) : List UInt8 := if l = [] then [] else 32 :: oneT l 74
theorem oneT_cont (l : List UInt8) (r : Nat) (hne : l ≠ []) (hr : 4 ≤ r) : oneT l r = l.take (takeT l r) ++ [13, 10] ++ contT (l.drop (takeT l r)) := by
  rw [oneT_step l r hne hr]
  unfold contT
  by_cases h : l.drop (takeT l r) = []
  · rw [if_pos h, if_pos h, h, oneT_nil]; simp
  · rw [if_neg h, if_neg h]; simp
theorem cutT_cont (r : List UInt8) (acc : List S95) (n0 : Int) : ∀ (k : Nat) (l p : List UInt8) (n : Nat), l.length ≤ k → l.any nlB = false → ∃ n', cutT (contT l ++ r) (acc ++ [⟨⟨p.toArray⟩, n0⟩]) n = cutT r (acc ++ [⟨⟨(p ++ l).toArray⟩, n0⟩]) n'
  | 0, l, p, n, hk, hl => by
    obtain rfl : l = [] := List.length_eq_zero_iff.1 (by omega)
    exact ⟨n, by rw [List.append_nil]; rfl⟩
  | k + 1, l, p, n, hk, hl => by
    by_cases hne : l = []
    · subst hne; exact ⟨n, by rw [List.append_nil]; rfl⟩
    have h1 := takeT_pos l 74 hne (by omega)
    have hc : contT l ++ r = (32 :: l.take (takeT l 74)) ++ [13, 10] ++ (contT (l.drop (takeT l 74)) ++ r) := by
      rw [contT, if_neg hne, oneT_cont l 74 hne (by omega)]; simp
    obtain ⟨ha, hb⟩ := nl_take (takeT l 74) hl
    rw [hc, cutT_more [13, 10] _ _ (.inl rfl) 32 (.inl rfl) acc p n0 n ha]
    have hlen : 0 < l.length := List.length_pos_iff.2 hne
    obtain ⟨n', h⟩ := cutT_cont r acc n0 k (l.drop (takeT l 74)) (p ++ l.take (takeT l 74)) (n + 1) (by rw [List.length_drop]; omega) hb
    exact ⟨n', by rw [h, List.append_assoc, List.take_append_drop]⟩
theorem goesP_take (l : List UInt8) (k : Nat) (hk : 1 ≤ k) : goesP (l.take k) = goesP l := by
  unfold goesP
  have : (l.take k).getD 0 0 = l.getD 0 0 := by
    cases l with
    | nil => simp
    | cons a t =>
      obtain ⟨j, rfl⟩ : ∃ j, k = j + 1 := ⟨k - 1, by omega⟩
      rfl
  rw [this]
theorem cutT_line (l r : List UInt8) (acc : List S95) (n : Nat) (hne : l ≠ []) (hl : l.any nlB = false) (hg : goesP l = false) : ∃ n', cutT (oneT l 75 ++ r) acc n = cutT r (acc ++ [⟨⟨l.toArray⟩, (n : Int)⟩]) n' := by
  have h1 := takeT_pos l 75 hne (by omega)
  have hlen : 0 < l.length := List.length_pos_iff.2 hne
  obtain ⟨ha, hb⟩ := nl_take (takeT l 75) hl
  have hc : oneT l 75 ++ r = l.take (takeT l 75) ++ [13, 10] ++ (contT (l.drop (takeT l 75)) ++ r) := by
    rw [oneT_cont l 75 hne (by omega)]; simp
  rw [hc, cutT_first [13, 10] _ _ (.inl rfl) acc n (by intro e; have := congrArg List.length e; rw [List.length_take] at this; simp only [List.length_nil] at this; omega) ha (by rw [goesP_take l _ h1]; exact hg)]
  obtain ⟨n', h⟩ := cutT_cont r acc (n : Int) _ (l.drop (takeT l 75)) (l.take (takeT l 75)) (n + 1) (Nat.le_refl _) hb
  exact ⟨n', by rw [h, List.take_append_drop]⟩
end Go.Proofs.YtdojmdbaiddkgaaGreatDoor.Pure
end
section
set_option linter.unusedVariables false
set_option linter.unusedSimpArgs false
set_option linter.unusedSectionVars false
namespace Go.Proofs.YtdojmdbaiddkgaaGreatDoor.Pure
open Go.RowKit Go.Proofs.YtdojmdbaiddkgaaGreatDoor.Print Go.Proofs.YtdojmdbaiddkgaaGreatDoorW.PrintWords Go.Proofs.YtdojmdbaiddkgaaGreatDoorW.PrintLast Go.Proofs.YtdojmdbaiddkgaaGreatDoorW.PrintMore
def textT : List ByteArray → List UInt8
  | [] => []
  | x :: t => oneT x.data.toList 75 ++ textT t
structure Good (s : ByteArray) : Prop where
  ne : s.data.toList ≠ []
  nl : s.data.toList.any nlB = false
  go : goesP s.data.toList = false
theorem good_of (s : ByteArray) (h : badF s = false) : Good s := by
  unfold badF at h
  rw [Bool.or_eq_false_iff, Bool.or_eq_false_iff, Bool.or_eq_false_iff, contains_nl] at h
  obtain ⟨⟨⟨h1, h2⟩, h3⟩, h4⟩ := h
  refine ⟨?_, h4, ?_⟩
  · intro e; rw [e] at h1; cases h1
  · unfold goesP; rw [h2, h3]; rfl
theorem back_cut : ∀ (X : List ByteArray) (acc : List S95) (n : Nat), (∀ x ∈ X, Good x) → ∃ Y : List S95, cutT (textT X) acc n = (acc ++ Y, 0) ∧ Y.map (·.f0) = X
  | [], acc, n, _ => ⟨[], by rw [List.append_nil]; exact ⟨rfl, rfl⟩⟩
  | x :: t, acc, n, h => by
    have hx := h x (by simp)
    obtain ⟨n', h1⟩ := cutT_line x.data.toList (textT t) acc n hx.ne hx.nl hx.go
    obtain ⟨Y, h2, h3⟩ := back_cut t (acc ++ [⟨⟨x.data.toList.toArray⟩, (n : Int)⟩]) n' (fun y hy => h y (by simp [hy]))
    refine ⟨⟨⟨x.data.toList.toArray⟩, (n : Int)⟩ :: Y, ?_, ?_⟩
    · rw [textT, h1, h2, List.append_assoc]; rfl
    · rw [List.map_cons, h3, ba_eq]
theorem foldR_ok : ∀ (X : List ByteArray) (A : List UInt8), (foldR X A).2 = 0 → (foldR X A).1 = ⟨(A ++ textT X).toArray⟩ ∧ (A ++ textT X).length ≤ 20000 ∧ ∀ x ∈ X, x.size ≤ 2000
  | [], A, h => by
    unfold foldR at h ⊢
    by_cases hl : A.length > 20000
    · rw [if_pos hl] at h; exact absurd h (by decide)
    · rw [if_neg hl, textT, List.append_nil]; exact ⟨rfl, by omega, fun x hx => by cases hx⟩
  | s :: t, A, h => by
    unfold foldR at h ⊢
    by_cases hl : s.size > 2000 ∨ A.length > 20000
    · rw [if_pos hl] at h; exact absurd h (by decide)
    · rw [if_neg hl] at h ⊢
      obtain ⟨h1, h2, h3⟩ := foldR_ok t _ h
      rw [List.append_assoc] at h1 h2
      refine ⟨h1, h2, fun x hx => ?_⟩
      rcases List.mem_cons.1 hx with rfl | hx
      · omega
      · exact h3 x hx
theorem foldR_no : ∀ (X : List ByteArray) (A : List UInt8), (foldR X A).2 ≠ 0 → (foldR X A).1 = ⟨#[]⟩
  | [], A, h => by
    unfold foldR at h ⊢
    by_cases hl : A.length > 20000
    · rw [if_pos hl]
    · rw [if_neg hl] at h; exact absurd rfl h
  | s :: t, A, h => by
    unfold foldR at h ⊢
    by_cases hl : s.size > 2000 ∨ A.length > 20000
    · rw [if_pos hl]
    · rw [if_neg hl] at h ⊢; exact foldR_no t _ h
theorem finR_ok : ∀ (t X : List S95), (∀ x ∈ t, Lib.validD x.f0.data.toList = true) → (∀ x ∈ t, x.f0.size ≤ 2000) → finR t X = (X.map (·.f0), 0, 0)
  | [], X, _, _ => rfl
  | x :: t, X, h1, h2 => by
    unfold finR
    have := h2 x (by simp)
    rw [if_pos (h1 x (by simp)), if_neg (by omega)]
    exact finR_ok t X (fun y hy => h1 y (by simp [hy])) (fun y hy => h2 y (by simp [hy]))
theorem back_unf (X : List ByteArray) (hg : ∀ x ∈ X, Good x) (hl : (textT X).length ≤ 20000) (hs : ∀ x ∈ X, x.size ≤ 2000) (hv : ∀ x ∈ X, Lib.validD x.data.toList = true) : unfA ⟨(textT X).toArray⟩ = (X, 0, 0) := by
  obtain ⟨Y, h1, h2⟩ := back_cut X [] 1 hg
  unfold unfA
  rw [ba_size, if_neg (by omega)]
  show unfB (cutT (textT X) [] 1) = _
  rw [h1, List.nil_append, unfB_ok]
  have hm : ∀ y ∈ Y, y.f0 ∈ X := fun y hy => by rw [← h2]; exact List.mem_map.2 ⟨y, hy, rfl⟩
  rw [finR_ok Y Y (fun y hy => hv _ (hm y hy)) (fun y hy => hs _ (hm y hy)), h2]
end Go.Proofs.YtdojmdbaiddkgaaGreatDoor.Pure
end
section
set_option linter.unusedVariables false
set_option linter.unusedSimpArgs false
set_option linter.unusedSectionVars false
namespace Go.Proofs.YtdojmdbaiddkgaaGreatDoor.Pure
open Go.RowKit Go.Proofs.YtdojmdbaiddkgaaGreatDoor.Print Go.Proofs.YtdojmdbaiddkgaaGreatDoorW.PrintWords Go.Proofs.YtdojmdbaiddkgaaGreatDoorW.PrintLast Go.Proofs.YtdojmdbaiddkgaaGreatDoorW.PrintMore
theorem up_okB (c : UInt8) (h : upB c = true) : okB false c = true := by
  have h1 : ∀ c : Fin 256, upB (UInt8.ofFin c) = true → okB false (UInt8.ofFin c) = true := by decide +kernel
  exact h1 c.toFin h
theorem up_clean (n : ByteArray) (h : nameR n = true) : cleanR false n.data.toList = 0 := by
  have h1 := (nameR_of h).1
  refine clean_of ?_ (List.all_eq_true.2 fun c hc => up_okB c (List.all_eq_true.1 h1 c hc))
  have := up_valid n.data.toList [] h1
  rw [List.append_nil] at this
  rw [this]; decide +kernel
theorem form_bound (b n : ByteArray) (hb : nameR b = true) (h : nameR n = true) : formR b [] n = true := by
  unfold formR
  rw [hb, decide_eq_true (up_clean n h)]; rfl
def begT (n : ByteArray) : ByteArray := (⟨#[66, 69, 71, 73, 78, 58]⟩ : ByteArray) ++ n
def endT (n : ByteArray) : ByteArray := (⟨#[69, 78, 68, 58]⟩ : ByteArray) ++ n
theorem ba_of {a b : ByteArray} (h : a.data.toList = b.data.toList) : a = b := ba_ext h
theorem begT_line (n : ByteArray) : begT n = ⟨(lineT tgBegin [] n).toArray⟩ := ba_of (by
  show ((⟨#[66, 69, 71, 73, 78, 58]⟩ : ByteArray) ++ n).data.toList = (lineT tgBegin [] n).toArray.toList
  rw [ByteArray.data_append, Array.toList_append, List.toList_toArray]; rfl)
theorem endT_line (n : ByteArray) : endT n = ⟨(lineT tgEnd [] n).toArray⟩ := ba_of (by
  show ((⟨#[69, 78, 68, 58]⟩ : ByteArray) ++ n).data.toList = (lineT tgEnd [] n).toArray.toList
  rw [ByteArray.data_append, Array.toList_append, List.toList_toArray]; rfl)
theorem bound_len (b n : ByteArray) (hb : b.size ≤ 60) (h : n.size ≤ 60) : (lineT b [] n).length ≤ 2000 := by
  unfold lineT
  have e1 : b.data.toList.length = b.size := by simp
  have e2 : n.data.toList.length = n.size := by simp
  rw [List.length_append, List.length_append, List.length_cons, e1, e2]
  simp only [parsT, List.length_nil]
  omega
/-- One line, read. -/
theorem read_line (x : ByteArray) (xs : List ByteArray) (i : Nat) (s s' : RdS) (nm v : ByteArray) (ps : List LP) (R : TreeR) (hi : i < 300) (hp : Ev (fun k => line_Parse.f k x) (nm, ps, v, 0, 0)) (hv : v.size ≤ 140737488351232)
    (hs : ∀ ok : Bool, (ok = nameR (greatS v)) → stepR s ⟨nm, ps, v⟩ (greatS v) ok = .ok s') (H : Ev (fun k => tree_Parse.l0 k xs (i + 1) s') R) : Ev (fun k => tree_Parse.l0 k (x :: xs) i s) R := by
  have hg : line_Great.f v = some (greatS v) := by unfold line_Great.f; rw [if_pos (by omega)]
  have hgs : (greatS v).size = v.size := by
    unfold greatS
    show (List.map greatB v.data.toList).toArray.size = _
    rw [List.size_toArray, List.length_map]; simp
  refine Ev.congr (f := fun k => (line_Parse.f k x).bind fun q => if q.2.2.2.2 = 0 then (if 300 ≤ i then some (errT ((i : Int) + 1) 9) else (line_Great.f q.2.2.1).bind fun gr => (line_Name.f k gr).bind fun ok => nextR i (stepR s ⟨q.1, q.2.1, q.2.2.1⟩ gr ok) (tree_Parse.l0 k xs (i + 1))) else some (errT ((i : Int) + 1) q.2.2.2.2)) (fun k => rfl) ?_
  refine Ev.bind hp ?_
  refine Ev.congr (f := fun k => (line_Name.f k (greatS v)).bind fun ok => nextR i (stepR s ⟨nm, ps, v⟩ (greatS v) ok) (tree_Parse.l0 k xs (i + 1))) (fun k => ?_) ?_
  · show (if (0 : Int) = 0 then _ else _) = _
    rw [if_pos rfl, if_neg (by omega)]
    show (line_Great.f v).bind _ = _
    rw [hg]; rfl
  · refine Ev.bind (nameL (greatS v) (by omega)) ?_
    refine Ev.congr (fun k => ?_) H
    rw [hs _ rfl]; rfl
theorem tgB_name : nameR tgBegin = true := by decide +kernel
theorem tgE_name : nameR tgEnd = true := by decide +kernel
theorem tgE_ne : tgEnd ≠ tgBegin := by decide
theorem read_begin (n : ByteArray) (hn : nameR n = true) (xs : List ByteArray) (i : Nat) (l : List PT) (R : TreeR) (hi : i < 300) (hl : l.length < 4) (H : Ev (fun k => tree_Parse.l0 k xs (i + 1) (.op (⟨n, [], []⟩ :: l))) R) : Ev (fun k => tree_Parse.l0 k (begT n :: xs) i (.op l)) R := by
  have hn2 := nameR_of hn
  have hg := great_of n hn2.1
  rw [begT_line]
  refine read_line _ xs i _ (.op (⟨n, [], []⟩ :: l)) tgBegin n [] R hi (parse_line tgBegin n [] (form_bound _ _ tgB_name hn) (bound_len _ _ (by decide) hn2.2.2)) (by omega) (fun ok hok => ?_) H
  rw [hg] at hok ⊢
  rw [hok, hn]
  cases l with
  | nil => simp only [stepR]; rw [if_pos trivial, if_pos ⟨trivial, trivial⟩]
  | cons t r =>
    simp only [List.length_cons] at hl
    simp only [stepR]; rw [if_pos trivial, if_pos ⟨trivial, trivial⟩, if_neg (by omega)]
theorem read_end (t : PT) (hn : nameR t.f0 = true) (xs : List ByteArray) (i : Nat) (l : List PT) (R : TreeR) (hi : i < 300) (H : Ev (fun k => tree_Parse.l0 k xs (i + 1) (popR t l)) R) : Ev (fun k => tree_Parse.l0 k (endT t.f0 :: xs) i (.op (t :: l))) R := by
  have hn2 := nameR_of hn
  have hg := great_of t.f0 hn2.1
  rw [endT_line]
  refine read_line _ xs i _ (popR t l) tgEnd t.f0 [] R hi (parse_line tgEnd t.f0 [] (form_bound _ _ tgE_name hn) (bound_len _ _ (by decide) hn2.2.2)) (by omega) (fun ok hok => ?_) H
  rw [hg] at hok ⊢
  rw [hok, hn]
  simp only [stepR]; rw [if_neg tgE_ne, if_pos trivial, if_pos ⟨trivial, trivial⟩, if_pos trivial]
theorem bnd_ne {n : ByteArray} (h : bndB n = false) : n ≠ tgBegin ∧ n ≠ tgEnd := by
  unfold bndB at h
  rw [Bool.or_eq_false_iff, decide_eq_false_iff_not, decide_eq_false_iff_not] at h
  exact ⟨fun e => h.1 (by rw [e, Lib.toList_data]), fun e => h.2 (by rw [e, Lib.toList_data])⟩
/-- A line of a tree, written. -/
def lnB (x : RL) : ByteArray := (printR x.f0 (x.f1.map toP) x.f2).1
theorem okL_bnd {x : RL} (h : okL x = true) : bndB x.f0 = false := by
  unfold okL at h
  simp only [Bool.and_eq_true, Bool.not_eq_true'] at h
  exact h.2
theorem print_ok {nm : ByteArray} {l : List LP} {v : ByteArray} (hf : formR nm l v = true) (h : (printR nm l v).2 = 0) : (printR nm l v).1 = ⟨(lineT nm l v).toArray⟩ ∧ (lineT nm l v).length ≤ 2000 := by
  unfold printR lineR at h ⊢
  rw [if_pos hf] at h ⊢
  by_cases h2 : 2000 < (lineT nm l v).length
  · rw [if_pos h2] at h; exact absurd h (show ¬ (4 : Int) = 0 by decide)
  · rw [if_neg h2]; exact ⟨rfl, by omega⟩
theorem lineT_val (nm : ByteArray) (l : List LP) (v : ByteArray) : v.size ≤ (lineT nm l v).length := by
  unfold lineT
  have e2 : v.data.toList.length = v.size := by simp
  rw [List.length_append, List.length_cons, e2]; omega
theorem read_row (x : RL) (hx : okL x = true) (h0 : (printR x.f0 (x.f1.map toP) x.f2).2 = 0) (xs : List ByteArray) (i : Nat) (n : ByteArray) (ls : List PL) (l : List PT) (R : TreeR) (hi : i < 300) (H : Ev (fun k => tree_Parse.l0 k xs (i + 1) (.op (⟨n, ls ++ [toL x], []⟩ :: l))) R) :
    Ev (fun k => tree_Parse.l0 k (lnB x :: xs) i (.op (⟨n, ls, []⟩ :: l))) R := by
  have hf := okL_of hx
  obtain ⟨h1, h2⟩ := print_ok hf h0
  obtain ⟨b1, b2⟩ := bnd_ne (okL_bnd hx)
  unfold lnB
  rw [h1]
  refine read_line _ xs i _ _ x.f0 x.f2 (x.f1.map toP) R hi (parse_line x.f0 x.f2 (x.f1.map toP) hf h2) (by have := lineT_val x.f0 (x.f1.map toP) x.f2; omega) (fun ok _ => ?_) H
  simp only [stepR]; rw [if_neg b1, if_neg b2, if_pos trivial]; rfl
theorem read_rows : ∀ (L : List RL) (xs : List ByteArray) (i : Nat) (n : ByteArray) (ls : List PL) (l : List PT) (R : TreeR), (∀ x ∈ L, okL x = true ∧ (printR x.f0 (x.f1.map toP) x.f2).2 = 0) → i + L.length ≤ 300 →
    Ev (fun k => tree_Parse.l0 k xs (i + L.length) (.op (⟨n, ls ++ L.map toL, []⟩ :: l))) R → Ev (fun k => tree_Parse.l0 k (L.map lnB ++ xs) i (.op (⟨n, ls, []⟩ :: l))) R
  | [], xs, i, n, ls, l, R, _, _, H => by
    rw [List.map_nil, List.append_nil] at H
    exact H
  | x :: t, xs, i, n, ls, l, R, h, hi, H => by
    rw [List.length_cons] at hi H
    obtain ⟨h1, h2⟩ := h x (by simp)
    rw [List.map_cons, List.cons_append]
    refine read_row x h1 h2 _ i n ls l R (by omega) (read_rows t xs (i + 1) n (ls ++ [toL x]) l R (fun y hy => h y (by simp [hy])) (by omega) ?_)
    rw [show i + 1 + t.length = i + (t.length + 1) by omega, List.append_assoc]
    exact H
theorem lnL_ok : ∀ (L : List RL) (a : List ByteArray), (lnL L a).2 = 0 → (lnL L a).1 = a ++ L.map lnB ∧ ∀ x ∈ L, (printR x.f0 (x.f1.map toP) x.f2).2 = 0
  | [], a, _ => ⟨by simp [lnL], fun x hx => by simp at hx⟩
  | y :: r, a, h => by
    unfold lnL at h ⊢
    by_cases h0 : (printR y.f0 (y.f1.map toP) y.f2).2 = 0
    · rw [if_pos h0] at h ⊢
      obtain ⟨h1, h2⟩ := lnL_ok r _ h
      refine ⟨by rw [h1, List.append_assoc]; rfl, fun x hx => ?_⟩
      rcases List.mem_cons.1 hx with rfl | hx
      · exact h0
      · exact h2 x hx
    · rw [if_neg h0] at h; exact absurd h h0
theorem lnK_ok : ∀ (K : List RT) (a : List ByteArray), (lnK K a).2 = 0 → (lnK K a).1 = a ++ K.flatMap (fun t => (lnT t).1) ∧ ∀ t ∈ K, (lnT t).2 = 0
  | [], a, _ => ⟨by simp [lnK], fun x hx => by simp at hx⟩
  | y :: r, a, h => by
    simp only [lnK] at h ⊢
    by_cases h0 : (lnT y).2 = 0
    · rw [if_pos h0] at h ⊢
      obtain ⟨h1, h2⟩ := lnK_ok r _ h
      refine ⟨by rw [h1, List.append_assoc, List.flatMap_cons], fun x hx => ?_⟩
      rcases List.mem_cons.1 hx with rfl | hx
      · exact h0
      · exact h2 x hx
    · rw [if_neg h0] at h; exact absurd h h0
theorem lnT_ok (t : RT) (h : (lnT t).2 = 0) : (lnT t).1 = begT t.f0 :: (t.f1.map lnB ++ (t.f2.flatMap (fun t => (lnT t).1) ++ [endT t.f0])) ∧ (∀ x ∈ t.f1, (printR x.f0 (x.f1.map toP) x.f2).2 = 0) ∧ ∀ x ∈ t.f2, (lnT x).2 = 0 := by
  rw [lnT_f] at h ⊢
  unfold lnTl at h ⊢
  by_cases h0 : (lnL t.f1 [(⟨#[66, 69, 71, 73, 78, 58]⟩ : ByteArray) ++ t.f0]).2 = 0
  · rw [if_pos h0] at h ⊢
    obtain ⟨a1, a2⟩ := lnL_ok _ _ h0
    unfold finL at h ⊢
    by_cases h1 : (lnK t.f2 (lnL t.f1 [(⟨#[66, 69, 71, 73, 78, 58]⟩ : ByteArray) ++ t.f0]).1).2 = 0
    · rw [if_pos h1]
      obtain ⟨b1, b2⟩ := lnK_ok _ _ h1
      refine ⟨?_, a2, b2⟩
      show (lnK t.f2 _).1 ++ [endT t.f0] = _
      rw [b1, a1]
      simp [begT]
    · rw [if_neg h1] at h; exact absurd h h1
  · rw [if_neg h0] at h; exact absurd h h0
theorem flat_len : ∀ (K : List RT), (∀ t ∈ K, (lnT t).1.length = nL t) → (K.flatMap (fun t => (lnT t).1)).length = nLs K
  | [], _ => by simp [nLs]
  | t :: r, h => by
    rw [List.flatMap_cons, List.length_append, h t (by simp), flat_len r (fun x hx => h x (by simp [hx]))]
    simp only [nLs]
theorem lnT_num : ∀ (N : Nat) (t : RT), SizeOf.sizeOf t < N → (lnT t).2 = 0 → (lnT t).1.length = nL t
  | 0, t, h, _ => by omega
  | N + 1, t, h, h0 => by
    obtain ⟨e, _, hk⟩ := lnT_ok t h0
    rw [e, nL_f, List.length_cons, List.length_append, List.length_append, List.length_map, List.length_singleton, flat_len t.f2 (fun x hx => lnT_num N x (by have := kid_lt hx; omega) (hk x hx))]
    omega
/-- The state behind an inner component. -/
theorem read_kids (d : Nat) (n : ByteArray) (ls : List PL) (l : List PT) : ∀ (K : List RT), (∀ t ∈ K, ∀ (xs : List ByteArray) (i : Nat) (st : List PT) (R : TreeR), st.length + d ≤ 4 → i + nL t ≤ 300 → Ev (fun k => tree_Parse.l0 k xs (i + nL t) (popR (toT t) st)) R → Ev (fun k => tree_Parse.l0 k ((lnT t).1 ++ xs) i (.op st)) R) →
    ∀ (xs : List ByteArray) (i : Nat) (acc : List PT) (R : TreeR), l.length + 1 + d ≤ 4 → i + nLs K ≤ 300 → Ev (fun k => tree_Parse.l0 k xs (i + nLs K) (.op (⟨n, ls, acc ++ K.map toT⟩ :: l))) R →
    Ev (fun k => tree_Parse.l0 k (K.flatMap (fun t => (lnT t).1) ++ xs) i (.op (⟨n, ls, acc⟩ :: l))) R
  | [], _, xs, i, acc, R, _, _, H => by
    simp only [nLs, List.map_nil, List.append_nil] at H
    exact H
  | t :: r, ih, xs, i, acc, R, hd, hi, H => by
    simp only [nLs] at hi H
    rw [List.flatMap_cons, List.append_assoc]
    refine ih t (by simp) _ i _ R (by simpa using hd) (by omega) ?_
    show Ev (fun k => tree_Parse.l0 k (r.flatMap (fun t => (lnT t).1) ++ xs) (i + nL t) (.op (⟨n, ls, acc ++ [toT t]⟩ :: l))) R
    refine read_kids d n ls l r (fun x hx => ih x (by simp [hx])) xs (i + nL t) (acc ++ [toT t]) R hd (by omega) ?_
    rw [show i + nL t + nLs r = i + (nL t + nLs r) by omega, List.append_assoc]
    exact H
theorem read_tree : ∀ (N : Nat) (t : RT), SizeOf.sizeOf t < N → ∀ d, okT d t = true → (lnT t).2 = 0 → ∀ (xs : List ByteArray) (i : Nat) (st : List PT) (R : TreeR), st.length + d ≤ 4 → i + nL t ≤ 300 →
    Ev (fun k => tree_Parse.l0 k xs (i + nL t) (popR (toT t) st)) R → Ev (fun k => tree_Parse.l0 k ((lnT t).1 ++ xs) i (.op st)) R
  | 0, t, h => by omega
  | N + 1, t, h => by
    intro d hok h0 xs i st R hd hi H
    obtain ⟨o1, o2, o3, o4⟩ := okT_of hok
    obtain ⟨e, hl, hk⟩ := lnT_ok t h0
    rw [nL_f] at hi H
    rw [e, List.cons_append, List.append_assoc, List.append_assoc, List.singleton_append]
    refine read_begin t.f0 o2 _ i st R (by omega) (by omega) ?_
    refine read_rows t.f1 _ (i + 1) t.f0 [] st R (fun x hx => ⟨o3 x hx, hl x hx⟩) (by omega) ?_
    refine read_kids (d - 1) t.f0 _ st t.f2 (fun x hx => read_tree N x (by have := kid_lt hx; omega) (d - 1) (o4 x hx) (hk x hx)) _ (i + 1 + t.f1.length) [] R (by omega) (by omega) ?_
    rw [List.nil_append, List.nil_append]
    refine read_end ⟨t.f0, t.f1.map toL, t.f2.map toT⟩ o2 xs _ st R (by omega) ?_
    rw [← toT_f, show i + 1 + t.f1.length + nLs t.f2 + 1 = i + (2 + t.f1.length + nLs t.f2) by omega]
    exact H
end Go.Proofs.YtdojmdbaiddkgaaGreatDoor.Pure
end
section
set_option linter.unusedVariables false
set_option linter.unusedSimpArgs false
set_option linter.unusedSectionVars false
namespace Go.Proofs.YtdojmdbaiddkgaaGreatDoor.Pure
open Go.RowKit Go.Proofs.YtdojmdbaiddkgaaGreatDoor.Print Go.Proofs.YtdojmdbaiddkgaaGreatDoorW.PrintWords Go.Proofs.YtdojmdbaiddkgaaGreatDoorW.PrintLast Go.Proofs.YtdojmdbaiddkgaaGreatDoorW.PrintMore
theorem cnts_nL : ∀ (K : List RT) (a : Int), 0 ≤ a → (∀ t ∈ K, cnt t = (nL t : Int)) → a + (nLs K : Int) ≤ 1000000 → cnts K a = a + (nLs K : Int)
  | [], a, _, _, _ => by simp only [cnts, nLs]; omega
  | t :: r, a, ha, h, hl => by
    simp only [cnts, nLs] at hl ⊢
    rw [h t (by simp)]
    have e : wrap64 (a + (nL t : Int)) = a + (nL t : Int) := by unfold wrap64; omega
    rw [e, cnts_nL r _ (by omega) (fun x hx => h x (by simp [hx])) (by omega)]
    omega
theorem cnt_nL : ∀ (N : Nat) (t : RT), SizeOf.sizeOf t < N → nL t ≤ 1000000 → cnt t = (nL t : Int)
  | 0, t, h, _ => by omega
  | N + 1, t, h, hl => by
    rw [nL_f] at hl
    have e : wrap64 (2 + (t.f1.length : Int)) = 2 + (t.f1.length : Int) := by unfold wrap64; omega
    rw [cnt_f, e, cnts_nL t.f2 _ (by omega) (fun x hx => cnt_nL N x (by have := kid_lt hx; omega) (by have := nLs_mem _ x hx; omega)) (by omega), nL_f]
    omega
theorem lnT_valid : ∀ (N : Nat) (t : RT), SizeOf.sizeOf t < N → ∀ d, okT d t = true → (lnT t).2 = 0 → ∀ x ∈ (lnT t).1, Lib.validD x.data.toList = true
  | 0, t, h => by omega
  | N + 1, t, h => by
    intro d hok h0 x hx
    obtain ⟨o1, o2, o3, o4⟩ := okT_of hok
    obtain ⟨e, hl, hk⟩ := lnT_ok t h0
    rw [e] at hx
    rcases List.mem_cons.1 hx with rfl | hx
    · rw [begT_line]
      exact line_valid (form_bound _ _ tgB_name o2)
    rcases List.mem_append.1 hx with hx | hx
    · obtain ⟨y, hy, rfl⟩ := List.mem_map.1 hx
      have hf := okL_of (o3 y hy)
      unfold lnB
      rw [(print_ok hf (hl y hy)).1]
      exact line_valid hf
    rcases List.mem_append.1 hx with hx | hx
    · obtain ⟨y, hy, hx⟩ := List.mem_flatMap.1 hx
      exact lnT_valid N y (by have := kid_lt hy; omega) (d - 1) (o4 y hy) (hk y hy) x hx
    · rw [List.mem_singleton.1 hx, endT_line]
      exact line_valid (form_bound _ _ tgE_name o2)
/-- What is written is read. -/
theorem parse_text (t : RT) (hf : formT t = true) (hn : nL t ≤ 50000) (h0 : (lnT t).2 = 0) (hfo : (foldA (lnT t).1).2 = 0) : Ev (fun k => tree_Parse.f k (foldA (lnT t).1).1) (t.f0, t.f1.map toL, t.f2.map toT, 0, 0) := by
  have hf2 : okT 4 t = true ∧ cnt t ≤ 300 := by
    unfold formT at hf
    rw [Bool.and_eq_true, decide_eq_true_eq] at hf
    exact hf
  have hnl : nL t ≤ 300 := by
    have := cnt_nL _ t (Nat.lt_succ_self _) (by omega)
    omega
  have hnum := lnT_num _ t (Nat.lt_succ_self _) h0
  have hv := lnT_valid _ t (Nat.lt_succ_self _) 4 hf2.1 h0
  have hrun := read_tree _ t (Nat.lt_succ_self _) 4 hf2.1 h0 [] 0 [] (t.f0, t.f1.map toL, t.f2.map toT, 0, 0) (by simp) (by omega) (by
    show Ev (fun k => some (lastR _ (.dn (toT t)))) _
    rw [toT_f]
    exact Ev.now _)
  rw [List.append_nil] at hrun
  obtain ⟨X, hX⟩ : ∃ X, X = (lnT t).1 := ⟨_, rfl⟩
  rw [← hX] at hfo hnum hv hrun ⊢
  by_cases hb : X.any badF = true
  · unfold foldA at hfo
    rw [if_pos hb] at hfo
    exact absurd hfo (show ¬ (5 : Int) = 0 by decide)
  have hg : ∀ x ∈ X, Good x := fun x hx => good_of x (by
    rw [Bool.not_eq_true] at hb
    have := List.any_eq_false.1 hb x hx
    simpa using this)
  have hfa : foldA X = foldR X [] := by unfold foldA; rw [if_neg hb]
  rw [hfa] at hfo ⊢
  obtain ⟨h1, h2, h3⟩ := foldR_ok X [] hfo
  rw [List.nil_append] at h1 h2
  rw [h1]
  have hsz := ba_size (textT X)
  refine Ev.bind (unfold_ev _ (by omega)) ?_
  rw [back_unf X hg h2 h3 hv]
  refine Ev.congr (fun k => ?_) hrun
  show (if (0 : Int) = 0 then (if X.length ≤ 1000000 then tree_Parse.l0 k X 0 (.op []) else none) else _) = _
  rw [if_pos rfl, if_pos (by omega)]
theorem foldA_no (X : List ByteArray) (h : (foldA X).2 ≠ 0) : (foldA X).1 = ⟨#[]⟩ := by
  unfold foldA at h ⊢
  by_cases hb : X.any badF = true
  · rw [if_pos hb]
  · rw [if_neg hb] at h ⊢; exact foldR_no X [] h
theorem prT_no (t : RT) (h : (prT t).2 ≠ 0) : (prT t).1 = ⟨#[]⟩ := by
  unfold prT at h ⊢
  by_cases hf : formT t = true
  · rw [if_pos hf] at h ⊢
    by_cases h0 : (lnT t).2 = 0
    · rw [if_pos h0] at h ⊢; exact foldA_no _ h
    · rw [if_neg h0]
  · rw [if_neg hf]
theorem prT_yes (t : RT) (h : (prT t).2 = 0) : formT t = true ∧ (lnT t).2 = 0 ∧ (foldA (lnT t).1).2 = 0 ∧ prT t = foldA (lnT t).1 := by
  unfold prT at h ⊢
  by_cases hf : formT t = true
  · rw [if_pos hf] at h ⊢
    by_cases h0 : (lnT t).2 = 0
    · rw [if_pos h0] at h ⊢; exact ⟨hf, h0, h, rfl⟩
    · rw [if_neg h0] at h; exact absurd h h0
  · rw [if_neg hf] at h; exact absurd h (show ¬ (1 : Int) = 0 by decide)
/-- What is written of a tree is read as the tree. -/
theorem parse_print (t : RT) (hg : formT t = true → goodT t ∧ nL t ≤ 50000) (h : (prT t).2 = 0) : Ev (fun k => tree_Parse.f k (prT t).1) (t.f0, t.f1.map toL, t.f2.map toT, 0, 0) := by
  obtain ⟨h1, h2, h3, h4⟩ := prT_yes t h
  rw [h4]
  exact parse_text t h1 (hg h1).2 h2 h3
theorem awake11 : Ev (fun k => trystlaw11_awake.f k) true := Ev.of (k := 60) (fun k => trystlaw11_awake.mono k) (by decide +kernel)
end Go.Proofs.YtdojmdbaiddkgaaGreatDoor.Pure
end
section
set_option linter.unusedVariables false
set_option linter.unusedSimpArgs false
set_option linter.unusedSectionVars false
namespace Go.Proofs.YtdojmdbaiddkgaaGreatDoor.Pure
open Go.RowKit Go.Proofs.YtdojmdbaiddkgaaGreatDoor.Print Go.Proofs.YtdojmdbaiddkgaaGreatDoorW.PrintWords Go.Proofs.YtdojmdbaiddkgaaGreatDoorW.PrintLast Go.Proofs.YtdojmdbaiddkgaaGreatDoorW.PrintMore
theorem valsT_le2 : ∀ (l : List ByteArray) (b : UInt8), (∀ x ∈ l, x.size ≤ 2000) → (valsT l b).length ≤ l.length * 4010
  | [], _, _ => by simp [valsT]
  | x :: t, b, h => by
    have h1 := h x (by simp)
    have h2 := valsT_le2 t 44 (fun y hy => h y (by simp [hy]))
    have h3 := parL_le x.data.toList
    have e : x.data.toList.length = x.size := by simp
    rw [valsT, List.length_append, List.length_cons, List.length_cons]; omega
theorem parsT_le2 : ∀ (l : List LP), (∀ p ∈ l, parR p.f0 p.f1 = true ∧ ∀ x ∈ p.f1, x.size ≤ 2000) → (parsT l).length ≤ l.length * 250000
  | [], _ => by simp [parsT]
  | p :: t, h => by
    obtain ⟨h1, h2⟩ := h p (by simp)
    obtain ⟨q1, q2, q3, q4⟩ := parR_of h1
    have hn := (nameR_of q1).2.2
    have h3 := parsT_le2 t (fun y hy => h y (by simp [hy]))
    have h4 := valsT_le2 p.f1 61 h2
    have e : p.f0.data.toList.length = p.f0.size := by simp
    rw [parsT, List.length_append, List.length_append, List.length_cons, List.length_cons]; omega
theorem lineT_le2 {nm v : ByteArray} {l : List LP} (hf : formR nm l v = true) (hv : v.size ≤ 2000) (hl : ∀ p ∈ l, ∀ x ∈ p.f1, x.size ≤ 2000) : (lineT nm l v).length ≤ 1000000000 := by
  obtain ⟨h1, h2, h3, h4⟩ := formR_of hf
  have h5 := parsT_le2 l (fun p hp => ⟨okPs_all _ _ h4 p hp, hl p hp⟩)
  have hn := (nameR_of h1).2.2
  have e : nm.data.toList.length = nm.size := by simp
  have e2 : v.data.toList.length = v.size := by simp
  unfold lineT
  rw [List.length_append, List.length_append, List.length_cons]; omega
end Go.Proofs.YtdojmdbaiddkgaaGreatDoor.Pure
end
