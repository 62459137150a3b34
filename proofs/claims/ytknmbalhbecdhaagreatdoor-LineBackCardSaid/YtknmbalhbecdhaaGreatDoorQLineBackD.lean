/- Texts of the proof of LineBack, put together: PForm PValS PPar PPrint PBackB PBackP Print8 PLineB GoLineB. -/
import Derived.Test.YtknmbalhbecdhaaGreatDoorProg
import Derived.Below
import Derived.Deep.Draws
import Derived.Deep.AppendLies
import Derived.Maps.AppendAt
import Derived.OwnWalk
import Derived.Laws.BytesArg
import Derived.Laws.MakeOwn
import Derived.Laws.OwnMore
import Derived.Deep.OwnRows
import Derived.Tactics
import Derived.Lib.ConvBytes
import Derived.Laws.Slices
import Derived.WalkKit
import Derived.KernelRfl
import Derived.RowKit3
import Derived.Deep.LoopGhost
import Derived.Deep.QuietTactic
import Derived.BigQuiet
import Derived.WideLaws
import Derived.Deep.DeepCutAuto
import Derived.Deep.CutBlock
import Derived.Deep.RegionHeld3
import Derived.Laws.Rows
import Derived.Lib.AppendStr
import Derived.ArgAppend
import Derived.Laws.IdiomCopy
import Derived.OrdersHeld
import Derived.Laws.BitsLemmas
import Derived.RowKit
import Derived.Test.YtknmbalhbecdhaaGreatDoorWMore
import Derived.Shelf.Unicode.ValidAny
import Derived.Shelf.Strings.Builder1
import Derived.Shelf.Small.Utf8
import Derived.Shelf.Small.Strs
import Derived.Shelf.Strings.BuilderF
import Derived.Shelf.Strings.BuilderK
import Derived.Shelf.Strings.Search1
import Derived.Shelf.Strings.Search2
import Derived.Shelf.Strings.Search3
import Derived.Shelf.Strings.Count
import Derived.Shelf.LaysM
import Derived.Shelf.Strings.Shaped
import Derived.Shelf.Strings.Runes
import Derived.Shelf.Strings.IndexAny
import Derived.Shelf.Strings.AsciiSet
import Derived.Shelf.Strings.IndexAnyAll
import Derived.Shelf.Slices.Equal
import Derived.Shelf.Slices.Empties2
import Derived.WalkSpells
import Derived.Laws.Runes
import Derived.Laws.RangeAny
import Derived.Laws.RangeString
import Derived.Lib.IndexAny
import Derived.Lib.SpaceUEq
import Derived.Lib.RuneCount
import Derived.Lib.QuoteLoop
import Derived.Lib.Hide
import Derived.Lib.OthersKept
import Derived.Lib.DecodeN
import Derived.IntWalk
import Derived.Test.YtknmbalhbecdhaaGreatDoorWWords
import Derived.Test.YtknmbalhbecdhaaGreatDoorWLast
import Derived.Test.YtknmbalhbecdhaaGreatDoorWTab
import Derived.Test.YtknmbalhbecdhaaGreatDoorWQPut
import Derived.Test.YtknmbalhbecdhaaGreatDoorWApart
import Derived.Test.YtknmbalhbecdhaaGreatDoorWArr
import Derived.Test.YtknmbalhbecdhaaGreatDoorWZeros
import Derived.Test.YtknmbalhbecdhaaGreatDoorWFoot
import Derived.Test.YtknmbalhbecdhaaGreatDoorWKept
import Derived.Test.YtknmbalhbecdhaaGreatDoorWShare
import Derived.Test.YtknmbalhbecdhaaGreatDoorWN
import Derived.Test.YtknmbalhbecdhaaGreatDoorWRepsOne
import Derived.Test.YtknmbalhbecdhaaGreatDoorWInv
import Derived.Test.YtknmbalhbecdhaaGreatDoorWGuard
import Derived.Test.YtknmbalhbecdhaaGreatDoorWNEv
import Derived.Lib.ValidU
import Derived.Lib.TrimUEq
import Derived.Lib.ValidLaws
import Derived.Lib.MapLaws
import Derived.Laws.NewBlocks
import Derived.Outline
import Derived.Laws.IdiomStrings
import Derived.Deep.RegionWith
import Derived.RegionCalls
import Derived.Lib.IndexLaws
import Derived.Lib.SmallJoins
import Derived.Laws.CopyRow
import Derived.Laws.CopyOwn
import Derived.Deep.WholeRow
import Derived.Tactics2
import Derived.Defers
import Derived.Laws.Pointers
import Derived.Laws.LoneSync
import Derived.RegionTactic
import Derived.Lib.LazyBuf
import Derived.Test.YtknmbalhbecdhaaGreatDoorRows
import Derived.Lib.LaidU8T
import Derived.PinnedBridge
import Derived.MakeChecks
import Derived.ProofKit
import Derived.SliceStrings
import Derived.SizedLaws
import Derived.Deep.Slices
import Derived.Test.YtknmbalhbecdhaaGreatDoorQLineBackC
section
set_option linter.unusedVariables false
set_option linter.unusedSimpArgs false
set_option linter.unusedSectionVars false
namespace Go.Proofs.YtknmbalhbecdhaaGreatDoor.Pure
open Go.RowKit Go.Proofs.YtknmbalhbecdhaaGreatDoor.Print Go.Proofs.YtknmbalhbecdhaaGreatDoorW.PrintWords Go.Proofs.YtknmbalhbecdhaaGreatDoorW.PrintLast Go.Proofs.YtknmbalhbecdhaaGreatDoorW.PrintMore
def upN (n : Nat) : Bool := (decide (65 ≤ n) && decide (n ≤ 90)) || (decide (48 ≤ n) && decide (n ≤ 57)) || n == 45
def upB (c : UInt8) : Bool := upN c.toNat
theorem sign_all : ∀ n : Fin 256, line_sign.f ((n.1 : Nat) : Int) true = some (upN n.1) := by decide +kernel
theorem sign_up (c : UInt8) : line_sign.f c.toNat true = some (upB c) := sign_all ⟨c.toNat, c.toNat_lt⟩
def nameR (s : ByteArray) : Bool := s.data.toList.all upB && (decide (1 ≤ s.size) && decide (s.size ≤ 60))
theorem nameL_ev (s : ByteArray) (hs : s.size ≤ 140737488351232) : ∀ (n i : Nat), s.size - i ≤ n → i ≤ s.size → Ev (fun k => line_Name.l0 k s (s.size : Int) i) ((s.data.toList.drop i).all upB && (decide (1 ≤ s.size) && decide (s.size ≤ 60)))
  | 0, i, h, hi => by
    obtain rfl : i = s.size := by omega
    refine Ev.step (f := fun _ => some (decide (1 ≤ s.size) && decide (s.size ≤ 60))) (fun k => ?_) ?_
    · simp only [line_Name.l0]; rw [if_neg (by omega)]
      by_cases h1 : 1 ≤ s.size
      · rw [if_pos (by omega), decide_eq_true h1, Bool.true_and]; exact congrArg some (decide_eq_decide.2 (by omega))
      · rw [if_neg (by omega), decide_eq_false h1, Bool.false_and]
    · rw [List.drop_of_length_le (by simp)]; exact Ev.now _
  | n + 1, i, h, hi => by
    by_cases hlt : i < s.size
    · rw [drop_at s i hlt]
      have hb := bt_nat s i
      have ih := nameL_ev s hs n (i + 1) (by omega) (by omega)
      generalize s.data.toList.getD i 0 = c at *
      refine Ev.step (f := fun k => if upB c = true then line_Name.l0 k s (s.size : Int) ((i + 1 : Nat) : Int) else some false) (fun k => ?_) ?_
      · simp only [line_Name.l0, hb, sign_up, Option.bind_some]
        rw [if_pos (by omega), if_pos (by omega), if_pos (by omega), wrap_one i (by omega)]
      · rw [List.all_cons]
        cases hok : upB c
        · exact Ev.now false
        · simpa using ih
    · exact nameL_ev s hs 0 i (by omega) hi
theorem nameL (s : ByteArray) (hs : s.size ≤ 140737488351232) : Ev (fun k => line_Name.f k s) (nameR s) := by
  have := nameL_ev s hs s.size 0 (by omega) (by omega)
  rw [List.drop_zero] at this
  exact this
def cleanB (x : ByteArray) : Bool := decide (cleanR true x.data.toList = 0)
def parR (nm : ByteArray) (l : List ByteArray) : Bool := nameR nm && (decide (1 ≤ l.length) && (decide (l.length ≤ 60) && l.all cleanB))
theorem cleanB_ne {x : ByteArray} (h : cleanB x = false) : ¬ cleanR true x.data.toList = 0 := of_decide_eq_false h
theorem parL_ev (l : List ByteArray) (hl : l.length ≤ 60) (hs : ∀ x ∈ l, x.size ≤ 140737488351232) : ∀ (n i : Nat), i + n = l.length → Ev (fun k => line_Param_formed.l0 k l (l.length : Int) i) ((l.drop i).all cleanB)
  | 0, i, h => by
    rw [List.drop_eq_nil_of_le (by omega)]
    exact Ev.step (f := fun _ => some true) (fun k => by simp only [line_Param_formed.l0]; rw [if_neg (by omega)]) (Ev.now _)
  | n + 1, i, h => by
    have hil : i < l.length := by omega
    rw [List.drop_eq_getElem_cons hil, List.all_cons]
    refine Ev.step (f := fun k => (escape_Clean.f k l[i] true).bind fun t => if t = 0 then line_Param_formed.l0 k l (l.length : Int) ((i + 1 : Nat) : Int) else some false) (fun k => by simp only [line_Param_formed.l0]; rw [if_pos (by omega), if_pos (by omega), if_pos (by omega), rdS l i hil, wrapS i _ hil (by omega)]) ?_
    refine Ev.bind (escClean _ _ (hs _ (List.getElem_mem hil))) ?_
    have ih := parL_ev l hl hs n (i + 1) (by omega)
    cases hc : cleanB l[i] with
    | false => exact Ev.congr (f := fun _ => some false) (fun k => by rw [if_neg (cleanB_ne hc)]) (Ev.now _)
    | true => rw [Bool.true_and]; exact Ev.congr (fun k => by rw [if_pos (of_decide_eq_true hc)]) ih
theorem parL_f (nm : ByteArray) (l : List ByteArray) (hn : nm.size ≤ 140737488351232) (hs : ∀ x ∈ l, x.size ≤ 140737488351232) : Ev (fun k => line_Param_formed.f k nm l) (parR nm l) := by
  have hno : Ev (fun k => line_Param_formed.j0 k true nm l) false := Ev.step (f := fun _ => some false) (fun k => by simp only [line_Param_formed.j0]; rfl) (Ev.now _)
  refine Ev.bind (nameL nm hn) ?_
  unfold parR
  cases nameR nm with
  | false => exact Ev.congr (fun k => by rw [if_neg (by simp)]) hno
  | true =>
    by_cases h1 : 1 ≤ l.length
    · by_cases h2 : l.length ≤ 60
      · rw [decide_eq_true h1, decide_eq_true h2]
        have e : decide ((l.length : Int) > 60) = false := decide_eq_false (by omega)
        refine Ev.congr (f := fun k => line_Param_formed.j0 k false nm l) (fun k => by rw [if_pos rfl, if_neg (by omega), e]) ?_
        have := parL_ev l h2 hs l.length 0 (by omega)
        rw [List.drop_zero] at this
        exact Ev.step (fun k => by simp only [line_Param_formed.j0]; rfl) this
      · rw [decide_eq_true h1, decide_eq_false h2]
        have e : decide ((l.length : Int) > 60) = true := decide_eq_true (by omega)
        exact Ev.congr (fun k => by rw [if_pos rfl, if_neg (by omega), e]) hno
    · rw [decide_eq_false h1]
      exact Ev.congr (fun k => by rw [if_pos rfl, if_pos (by omega)]) hno
def okPs : List LP → List LP → Bool
  | _, [] => true
  | seen, p :: t => parR p.f0 p.f1 && (!seen.any (hasN p.f0) && okPs (seen ++ [p]) t)
def formR (nm : ByteArray) (l : List LP) (v : ByteArray) : Bool := nameR nm && (decide (l.length ≤ 60) && (decide (cleanR false v.data.toList = 0) && okPs [] l))
theorem idxN_any (a : ByteArray) : ∀ (l : List LP) (i : Nat), decide (idxN a l i ≥ 0) = l.any (hasN a)
  | [], i => rfl
  | p :: t, i => by
    rw [idxN, List.any_cons]
    cases h : hasN a p with
    | true => rw [if_pos rfl, Bool.true_or]; exact decide_eq_true (by omega)
    | false => rw [if_neg (by simp), Bool.false_or]; exact idxN_any a t (i + 1)
theorem rdP (l : List LP) (i : Nat) (h : i < l.length) : rd_T53 l (i : Int) = l[i] := by
  unfold rd_T53
  rw [Int.toNat_natCast, List.getD_eq_getElem?_getD, List.getElem?_eq_getElem h]; rfl
def ParB' (p : LP) : Prop := p.f0.size ≤ 140737488351232 ∧ ∀ x ∈ p.f1, x.size ≤ 140737488351232
theorem formL_ev (nm v : ByteArray) (l : List LP) (hl : l.length ≤ 60) (hs : ∀ p ∈ l, ParB' p) : ∀ (n i : Nat), i + n = l.length → Ev (fun k => line_Formed.l0 k l (l.length : Int) i nm l v) (okPs (l.take i) (l.drop i))
  | 0, i, h => by
    rw [List.drop_eq_nil_of_le (by omega)]
    exact Ev.step (f := fun _ => some true) (fun k => by simp only [line_Formed.l0]; rw [if_neg (by omega)]) (Ev.now _)
  | n + 1, i, h => by
    have hil : i < l.length := by omega
    rw [List.drop_eq_getElem_cons hil, okPs]
    have hp := hs _ (List.getElem_mem hil)
    refine Ev.step (f := fun k => (line_Param_formed.f k l[i].f0 l[i].f1).bind fun t => if t = true then (if idxN l[i].f0 (l.take i) 0 ≥ 0 then some false else line_Formed.l0 k l (l.length : Int) ((i + 1 : Nat) : Int) nm l v) else some false) (fun k => by
      simp only [line_Formed.l0]
      rw [if_pos (by omega), if_pos (by omega), if_pos (by omega), rdP l i hil, wrapS i _ hil (by omega), if_pos (show (i : Int) ≤ (l.length : Int) by omega)]
      rfl) ?_
    refine Ev.bind (parL_f _ _ hp.1 hp.2) ?_
    have ih := formL_ev nm v l hl hs n (i + 1) (by omega)
    rw [List.take_succ_eq_append_getElem hil] at ih
    cases hc : parR l[i].f0 l[i].f1 with
    | false => exact Ev.congr (f := fun _ => some false) (fun k => by rw [if_neg (by simp)]) (Ev.now _)
    | true =>
      rw [Bool.true_and]
      have hi := idxN_any l[i].f0 (l.take i) 0
      cases ha : (l.take i).any (hasN l[i].f0) with
      | true =>
        rw [ha] at hi
        exact Ev.congr (f := fun _ => some false) (fun k => by rw [if_pos rfl, if_pos (of_decide_eq_true hi)]) (Ev.now _)
      | false =>
        rw [ha] at hi
        rw [Bool.not_false, Bool.true_and]
        exact Ev.congr (fun k => by rw [if_pos rfl, if_neg (of_decide_eq_false hi)]) ih
theorem formL (nm v : ByteArray) (l : List LP) (hn : nm.size ≤ 140737488351232) (hv : v.size ≤ 140737488351232) (hs : ∀ p ∈ l, ParB' p) : Ev (fun k => line_Formed.f k nm l v) (formR nm l v) := by
  have hno : Ev (fun k => line_Formed.j0 k true nm l v) false := Ev.step (f := fun _ => some false) (fun k => by simp only [line_Formed.j0]; rfl) (Ev.now _)
  refine Ev.bind (nameL nm hn) ?_
  unfold formR
  cases nameR nm with
  | false => exact Ev.congr (fun k => by rw [if_neg (by simp)]) hno
  | true =>
    by_cases h2 : l.length ≤ 60
    · rw [decide_eq_true h2]
      refine Ev.congr (f := fun k => (escape_Clean.f k v false).bind fun t => line_Formed.j0 k (t != 0) nm l v) (fun k => by rw [if_pos rfl, if_neg (by omega)]) ?_
      refine Ev.bind (escClean v false hv) ?_
      by_cases h3 : cleanR false v.data.toList = 0
      · rw [decide_eq_true h3, h3]
        have := formL_ev nm v l h2 hs l.length 0 (by omega)
        rw [List.drop_zero, List.take_zero] at this
        exact Ev.step (fun k => by simp only [line_Formed.j0]; rfl) this
      · rw [decide_eq_false h3]
        have e : (cleanR false v.data.toList != 0) = true := by simpa using h3
        rw [e]; exact hno
    · rw [decide_eq_false h2]
      exact Ev.congr (fun k => by rw [if_pos rfl, if_pos (by omega)]) hno
end Go.Proofs.YtknmbalhbecdhaaGreatDoor.Pure
end
section
set_option linter.unusedVariables false
set_option linter.unusedSimpArgs false
set_option linter.unusedSectionVars false
namespace Go.Proofs.YtknmbalhbecdhaaGreatDoor.Pure
open Go.RowKit Go.Proofs.YtknmbalhbecdhaaGreatDoor.Print Go.Proofs.YtknmbalhbecdhaaGreatDoorW.PrintWords Go.Proofs.YtknmbalhbecdhaaGreatDoorW.PrintLast Go.Proofs.YtknmbalhbecdhaaGreatDoorW.PrintMore
theorem nil_of (s : ByteArray) (h : s.size = 0) : s.data.toList = [] := by
  apply List.length_eq_zero_iff.1; rw [Array.length_toList]; exact h
theorem ext_one (s : ByteArray) : (s.extract 1 s.size).data.toList = s.data.toList.drop 1 := by
  rw [ByteArray.data_extract, Array.toList_extract, List.extract_eq_take_drop]
  exact List.take_of_length_le (by rw [List.length_drop, Array.length_toList]; exact Nat.le_refl _)
def qB (c : UInt8) : Bool := c == 34 || c == 58 || c == 59 || c == 44
def openR (s : ByteArray) : ByteArray × Int := if s.data.toList.any qB = true then (⟨#[]⟩, 7) else (⟨(carL s.data.toList).toArray⟩, 0)
theorem contains_any (l : List UInt8) : Lib.containsAny l [34, 58, 59, 44] = l.any qB := by
  unfold Lib.containsAny
  induction l with
  | nil => rfl
  | cons b t ih =>
    have hge := Lib.indexAny_ge [34, 58, 59, 44] t
    have hq : ([34, 58, 59, 44] : List UInt8).contains b = qB b := by
      simp [qB, List.contains_cons, Bool.or_assoc]; rfl
    rw [List.any_cons, ← ih, Lib.indexAny, hq]
    cases hb : qB b
    · simp only [Bool.false_eq_true, if_false, Bool.false_or]
      by_cases h1 : Lib.indexAny t [34, 58, 59, 44] = -1
      · rw [h1]; rfl
      · have : (Lib.indexAny t [34, 58, 59, 44] == -1) = false := beq_eq_false_iff_ne.2 h1
        rw [this]
        have h0 : 0 ≤ Lib.indexAny t [34, 58, 59, 44] := by omega
        simp [h0]; omega
    · simp
theorem wrap_sub (m c : Nat) (h : m ≤ 140737488351232) (hc : c ≤ m) : wrap64 ((m : Int) - (c : Int)) = ((m - c : Nat) : Int) := by unfold wrap64; omega
/-- What is read of a parameter's value. -/
def valB (s : ByteArray) : ByteArray × Int :=
  if s.data.toList.getD 0 0 = 34 then
    (if s.size < 2 then (⟨#[]⟩, 7) else if Lib.indexByte (s.data.toList.drop 1) 34 = ((s.size - 2 : Nat) : Int) then (⟨(carL (s.extract 1 (s.size - 1)).data.toList).toArray⟩, 0) else (⟨#[]⟩, 7))
  else openR s
def valA (s : ByteArray) : ByteArray × Int := if cleanR false s.data.toList = 0 then valB s else (⟨#[]⟩, cleanR false s.data.toList)
theorem has_prefix (s : ByteArray) : strings_HasPrefix.f s ⟨#[34]⟩ = some (decide (s.data.toList.getD 0 0 = 34)) := by
  have h1 : ((⟨#[34]⟩ : ByteArray).size : Int) = 1 := rfl
  simp only [strings_HasPrefix.f, stringslite_HasPrefix.f, h1]
  by_cases hz : 1 ≤ s.size
  · rw [if_pos (by omega), if_pos (by omega), if_pos (by omega)]
    simp only [Option.bind_some]
    congr 1
    have e : (s.extract 0 (1 : Int).toNat).toList = [s.data.toList.getD 0 0] := by
      rw [Lib.toList_data, show (1 : Int).toNat = 1 from rfl, Lib.extract_from_zero]
      have := drop_at s 0 (by omega)
      rw [List.drop_zero] at this
      rw [this]; rfl
    rw [e, Lib.toList_data]
    by_cases h : s.data.toList.getD 0 0 = 34
    · rw [h]; rfl
    · rw [decide_eq_false h]; exact beq_eq_false_iff_ne.2 (by intro e; exact h (List.head_eq_of_cons_eq e))
  · rw [if_neg (by omega)]
    have : s.data.toList = [] := nil_of s (by omega)
    rw [this]; rfl
theorem esc_value (s : ByteArray) (hs : s.size < 4294967281) : Ev (fun k => escape_Value.f k s) (valA s) := by
  refine Ev.bind (escClean s false (by omega)) ?_
  unfold valA
  by_cases h0 : cleanR false s.data.toList = 0
  case neg => simp only [if_neg h0]; exact Ev.now _
  simp only [if_pos h0, has_prefix, Option.bind_some]
  unfold valB
  by_cases h34 : s.data.toList.getD 0 0 = 34
  · have hz : 1 ≤ s.size := by
      rcases Nat.eq_zero_or_pos s.size with h | h
      · have : s.data.toList = [] := nil_of s (by omega)
        rw [this] at h34; exact absurd h34 (by decide)
      · omega
    rw [if_pos h34]
    simp only [decide_eq_true h34, if_true]
    by_cases h2 : s.size < 2
    · simp only [if_pos h2, if_pos (show (s.size : Int) < 2 by omega)]; exact Ev.now _
    · have e1 : (s.extract 1 s.size).data.toList = s.data.toList.drop 1 := ext_one s
      have e2 : wrap64 ((s.size : Int) - 2) = ((s.size - 2 : Nat) : Int) := wrap_sub s.size 2 (by omega) (by omega)
      have e3 : wrap64 ((s.size : Int) - 1) = ((s.size - 1 : Nat) : Int) := wrap_sub s.size 1 (by omega) (by omega)
      have e4 : (34 : Int).toNat.toUInt8 = 34 := rfl
      simp only [if_neg h2, if_neg (show ¬ (s.size : Int) < 2 by omega), if_pos (show (1 : Int) ≤ (s.size : Int) by omega), strings_IndexByte.f, Option.bind_some, e1, e2, e3, e4]
      by_cases h3 : Lib.indexByte (s.data.toList.drop 1) 34 = ((s.size - 2 : Nat) : Int)
      · simp only [if_pos h3]
        rw [if_pos (by omega), if_pos (by omega)]
        have e5 : escape_caret.f (s.extract 1 (s.size - 1)) = some ⟨(carL (s.extract 1 (s.size - 1)).data.toList).toArray⟩ := by
          unfold escape_caret.f; rw [if_pos (by rw [ByteArray.size_extract]; omega)]
        simp only [Int.toNat_natCast, e5, Option.bind_some]
        exact Ev.now _
      · simp only [if_neg h3]; exact Ev.now _
  · rw [if_neg h34]
    simp only [decide_eq_false h34, Bool.false_eq_true, if_false]
    have ec : strings_ContainsAny.f s ⟨#[34, 58, 59, 44]⟩ = some (s.data.toList.any qB) := by
      unfold strings_ContainsAny.f
      rw [if_pos ⟨hs, by decide, by decide, by decide⟩, ← contains_any]
    simp only [ec, Option.bind_some]
    unfold openR
    cases s.data.toList.any qB
    · simp only [Bool.false_eq_true, if_false]
      have e5 : escape_caret.f s = some ⟨(carL s.data.toList).toArray⟩ := by
        unfold escape_caret.f; rw [if_pos (by omega)]
      simp only [e5, Option.bind_some]
      exact Ev.now _
    · simp only [if_true]; exact Ev.now _
end Go.Proofs.YtknmbalhbecdhaaGreatDoor.Pure
end
section
set_option linter.unusedVariables false
set_option linter.unusedSimpArgs false
set_option linter.unusedSectionVars false
namespace Go.Proofs.YtknmbalhbecdhaaGreatDoor.Pure
open Go.RowKit Go.Proofs.YtknmbalhbecdhaaGreatDoor.Print Go.Proofs.YtknmbalhbecdhaaGreatDoorW.PrintWords Go.Proofs.YtknmbalhbecdhaaGreatDoorW.PrintLast Go.Proofs.YtknmbalhbecdhaaGreatDoorW.PrintMore
theorem nx_eq (l : List UInt8) (hne : l ≠ []) : nx l = refN l.length (l.getD 0 0).toNat (l.getD 1 0).toNat (l.getD 2 0).toNat (l.getD 3 0).toNat := by
  have : 0 < l.length := List.length_pos_iff.2 hne
  rw [refN_eq _ _ _ _ _ (by omega) (lt256 _ _) (lt256 _ _) (lt256 _ _) (lt256 _ _)]
  unfold nx
  rw [Lib.decodeL_N]
theorem validD_nx (l : List UInt8) (hne : l ≠ []) : Lib.validD l = if nx l = 0 then false else Lib.validD (l.drop (nx l)) := by
  rw [Lib.validD_step l hne]
  by_cases h : (Lib.decodeL l).1 = 65533 ∧ (Lib.decodeL l).2 = 1
  · rw [if_pos h, if_pos ((nx_bad l hne).2 h)]
  · rw [if_neg h, nx_good l h, if_neg (by have := decL_pos l hne; omega)]
def U2 (a b : UInt8) : Prop := (194 ≤ a.toNat ∧ a.toNat < 224) ∧ 128 ≤ b.toNat ∧ b.toNat < 192
def U3 (a b c : UInt8) : Prop := (224 ≤ a.toNat ∧ a.toNat < 240) ∧ ((128 ≤ b.toNat ∧ b.toNat < 192) ∧ 128 ≤ c.toNat ∧ c.toNat < 192) ∧ ¬ (a.toNat = 224 ∧ b.toNat < 160 ∨ a.toNat = 237 ∧ 159 < b.toNat)
def U4 (a b c d : UInt8) : Prop := (240 ≤ a.toNat ∧ a.toNat < 245) ∧ ((128 ≤ b.toNat ∧ b.toNat < 192) ∧ (128 ≤ c.toNat ∧ c.toNat < 192) ∧ 128 ≤ d.toNat ∧ d.toNat < 192) ∧ ¬ (a.toNat = 240 ∧ b.toNat < 144 ∨ a.toNat = 244 ∧ 143 < b.toNat)
theorem valid_2 (a b : UInt8) (t : List UInt8) (h : U2 a b) : Lib.validD (a :: b :: t) = Lib.validD t := by
  obtain ⟨h1, h2⟩ := h
  have e : nx (a :: b :: t) = 2 := by
    rw [nx_eq _ (by simp)]
    simp only [List.getD_cons_zero, List.getD_cons_succ, List.length_cons]
    unfold refN
    rw [if_neg (by omega), if_pos h1, if_neg (by omega), if_pos h2]
  rw [validD_nx _ (by simp), e]; rfl
theorem valid_3 (a b c : UInt8) (t : List UInt8) (h : U3 a b c) : Lib.validD (a :: b :: c :: t) = Lib.validD t := by
  obtain ⟨h1, h2, h3⟩ := h
  have e : nx (a :: b :: c :: t) = 3 := by
    rw [nx_eq _ (by simp)]
    simp only [List.getD_cons_zero, List.getD_cons_succ, List.length_cons]
    unfold refN
    rw [if_neg (by omega), if_neg (by omega), if_pos h1, if_neg (by omega), if_pos h2, if_neg h3]
  rw [validD_nx _ (by simp), e]; rfl
theorem valid_4 (a b c d : UInt8) (t : List UInt8) (h : U4 a b c d) : Lib.validD (a :: b :: c :: d :: t) = Lib.validD t := by
  obtain ⟨h1, h2, h3⟩ := h
  have e : nx (a :: b :: c :: d :: t) = 4 := by
    rw [nx_eq _ (by simp)]
    simp only [List.getD_cons_zero, List.getD_cons_succ, List.length_cons]
    unfold refN
    rw [if_neg (by omega), if_neg (by omega), if_neg (by omega), if_pos h1, if_neg (by omega), if_pos h2, if_neg h3]
  rw [validD_nx _ (by simp), e]; rfl
/-- The code points at the head of a valid text. -/
theorem valid_head (l : List UInt8) (hne : l ≠ []) (h : Lib.validD l = true) :
    (∃ a t, l = a :: t ∧ a.toNat < 128 ∧ Lib.validD t = true) ∨ (∃ a b t, l = a :: b :: t ∧ U2 a b ∧ Lib.validD t = true) ∨
    (∃ a b c t, l = a :: b :: c :: t ∧ U3 a b c ∧ Lib.validD t = true) ∨ (∃ a b c d t, l = a :: b :: c :: d :: t ∧ U4 a b c d ∧ Lib.validD t = true) := by
  have hv := validD_nx l hne
  rw [h] at hv
  have hn : nx l ≠ 0 := by intro e; rw [if_pos e] at hv; cases hv
  rw [if_neg hn, nx_eq l hne] at hv
  rw [nx_eq l hne] at hn
  unfold refN at hn hv
  cases l with
  | nil => exact absurd rfl hne
  | cons a l1 =>
    simp only [List.getD_cons_zero, List.getD_cons_succ, List.length_cons] at hn hv
    by_cases c1 : a.toNat < 128
    · rw [if_pos c1] at hv; exact .inl ⟨a, l1, rfl, c1, hv.symm⟩
    rw [if_neg c1] at hn hv
    by_cases c2 : 194 ≤ a.toNat ∧ a.toNat < 224
    · rw [if_pos c2] at hn hv
      cases l1 with
      | nil => simp at hn
      | cons b t =>
        simp only [List.getD_cons_zero, List.getD_cons_succ, List.length_cons] at hn hv
        rw [if_neg (by omega)] at hn hv
        by_cases c3 : 128 ≤ b.toNat ∧ b.toNat < 192
        · rw [if_pos c3] at hv; exact .inr (.inl ⟨a, b, t, rfl, ⟨c2, c3⟩, hv.symm⟩)
        · rw [if_neg c3] at hn; exact absurd rfl hn
    rw [if_neg c2] at hn hv
    by_cases c3 : 224 ≤ a.toNat ∧ a.toNat < 240
    · rw [if_pos c3] at hn hv
      rcases l1 with _ | ⟨b, _ | ⟨c, t⟩⟩
      · simp at hn
      · simp at hn
      · simp only [List.getD_cons_zero, List.getD_cons_succ, List.length_cons] at hn hv
        rw [if_neg (by omega)] at hn hv
        split at hn
        · rename_i c4
          rw [if_pos c4] at hv
          split at hn
          · exact absurd rfl hn
          · rename_i c5
            rw [if_neg c5] at hv
            exact .inr (.inr (.inl ⟨a, b, c, t, rfl, ⟨c3, c4, c5⟩, hv.symm⟩))
        · exact absurd rfl hn
    rw [if_neg c3] at hn hv
    by_cases c4 : 240 ≤ a.toNat ∧ a.toNat < 245
    · rw [if_pos c4] at hn hv
      rcases l1 with _ | ⟨b, _ | ⟨c, _ | ⟨d, t⟩⟩⟩
      · simp at hn
      · simp at hn
      · simp at hn
      · simp only [List.getD_cons_zero, List.getD_cons_succ, List.length_cons] at hn hv
        rw [if_neg (by omega)] at hn hv
        split at hn
        · rename_i c5
          rw [if_pos c5] at hv
          split at hn
          · exact absurd rfl hn
          · rename_i c6
            rw [if_neg c6] at hv
            exact .inr (.inr (.inr ⟨a, b, c, d, t, rfl, ⟨c4, c5, c6⟩, hv.symm⟩))
        · exact absurd rfl hn
    rw [if_neg c4] at hn
    exact absurd rfl hn
theorem ba_backB (s : ByteArray) : (⟨s.data.toList.toArray⟩ : ByteArray) = s := by cases s; simp
theorem ba_sizeB (l : List UInt8) : (⟨l.toArray⟩ : ByteArray).size = l.length := by show l.toArray.size = _; rw [List.size_toArray]
theorem clean_true {l : List UInt8} (h : cleanR true l = 0) : Lib.validD l = true ∧ l.all (okB true) = true := by
  unfold cleanR at h
  by_cases h1 : Lib.validD l = true
  · rw [if_pos h1] at h
    by_cases h2 : l.all (okB true) = true
    · exact ⟨h1, h2⟩
    · rw [if_neg h2] at h; exact absurd h (by decide)
  · rw [if_neg h1] at h; exact absurd h (by decide)
theorem clean_of {f : Bool} {l : List UInt8} (h1 : Lib.validD l = true) (h2 : l.all (okB f) = true) : cleanR f l = 0 := by
  unfold cleanR; rw [if_pos h1, if_pos h2]
theorem parB_high (c : UInt8) (h : 128 ≤ c.toNat) : parB c = [c] := by
  have n1 : c ≠ 94 := by rintro rfl; exact absurd h (by decide)
  have n2 : c ≠ 10 := by rintro rfl; exact absurd h (by decide)
  have n3 : c ≠ 34 := by rintro rfl; exact absurd h (by decide)
  unfold parB; rw [if_neg n1, if_neg n2, if_neg n3]
theorem parB_low (c : UInt8) (h : c.toNat < 128) (s : List UInt8) : Lib.validD (parB c ++ s) = Lib.validD s := by
  unfold parB
  split
  · show Lib.validD (94 :: 94 :: s) = _
    rw [Lib.validD_cons _ _ (by decide), Lib.validD_cons _ _ (by decide)]
  split
  · show Lib.validD (94 :: 110 :: s) = _
    rw [Lib.validD_cons _ _ (by decide), Lib.validD_cons _ _ (by decide)]
  split
  · show Lib.validD (94 :: 39 :: s) = _
    rw [Lib.validD_cons _ _ (by decide), Lib.validD_cons _ _ (by decide)]
  · exact Lib.validD_cons _ _ h
theorem par_valid : ∀ (n : Nat) (l s : List UInt8), l.length ≤ n → Lib.validD l = true → Lib.validD (parT l ++ s) = Lib.validD s
  | _, [], s, _, _ => rfl
  | 0, a :: t, s, hn, _ => by simp at hn
  | n + 1, x :: l, s, hn, h => by
    rcases valid_head (x :: l) (by simp) h with ⟨a, t, e, ha, hv⟩ | ⟨a, b, t, e, ha, hv⟩ | ⟨a, b, c, t, e, ha, hv⟩ | ⟨a, b, c, d, t, e, ha, hv⟩
    · have hl := congrArg List.length e
      simp only [List.length_cons] at hl hn
      rw [e, parT_cons, List.append_assoc, parB_low a ha]
      exact par_valid n t s (by omega) hv
    · have hl := congrArg List.length e
      simp only [List.length_cons] at hl hn
      rw [e, parT_cons, parT_cons, parB_high a (by have := ha.1; omega), parB_high b (by have := ha.2; omega)]
      show Lib.validD (a :: b :: (parT t ++ s)) = _
      rw [valid_2 _ _ _ ha]
      exact par_valid n t s (by omega) hv
    · have hl := congrArg List.length e
      simp only [List.length_cons] at hl hn
      obtain ⟨h1, h2, h3⟩ := ha
      rw [e, parT_cons, parT_cons, parT_cons, parB_high a (by omega), parB_high b (by omega), parB_high c (by omega)]
      show Lib.validD (a :: b :: c :: (parT t ++ s)) = _
      rw [valid_3 _ _ _ _ ⟨h1, h2, h3⟩]
      exact par_valid n t s (by omega) hv
    · have hl := congrArg List.length e
      simp only [List.length_cons] at hl hn
      obtain ⟨h1, h2, h3⟩ := ha
      rw [e, parT_cons, parT_cons, parT_cons, parT_cons, parB_high a (by omega), parB_high b (by omega), parB_high c (by omega), parB_high d (by omega)]
      show Lib.validD (a :: b :: c :: d :: (parT t ++ s)) = _
      rw [valid_4 _ _ _ _ _ ⟨h1, h2, h3⟩]
      exact par_valid n t s (by omega) hv
theorem parB_ok (c : UInt8) (h : okB true c = true) : (parB c).all (okB false) = true := by
  unfold parB
  by_cases h94 : c = 94
  · rw [if_pos h94]; rfl
  rw [if_neg h94]
  by_cases h10 : c = 10
  · rw [if_pos h10]; rfl
  rw [if_neg h10]
  by_cases h34 : c = 34
  · rw [if_pos h34]; rfl
  rw [if_neg h34]
  have h10b : (c == 10) = false := beq_eq_false_iff_ne.2 h10
  have hc : okB false c = true := by
    unfold okB at h ⊢
    rw [h10b] at h ⊢
    simpa using h
  simp [hc]
theorem parT_ok (l : List UInt8) (h : l.all (okB true) = true) : (parT l).all (okB false) = true := by
  induction l with
  | nil => rfl
  | cons c t ih =>
    rw [List.all_cons, Bool.and_eq_true] at h
    rw [parT_cons, List.all_append, parB_ok c h.1, ih h.2]; rfl
theorem car_par : ∀ (l : List UInt8), carL (parT l) = l
  | [] => rfl
  | c :: t => by
    rw [parT_cons]
    unfold parB
    by_cases h94 : c = 94
    · rw [if_pos h94, h94]
      show carL (94 :: 94 :: parT t) = _
      simp [carL, car_par t]
    rw [if_neg h94]
    by_cases h10 : c = 10
    · rw [if_pos h10, h10]
      show carL (94 :: 110 :: parT t) = _
      simp [carL, car_par t]
    rw [if_neg h10]
    by_cases h34 : c = 34
    · rw [if_pos h34, h34]
      show carL (94 :: 39 :: parT t) = _
      simp [carL, car_par t]
    rw [if_neg h34]
    show carL (c :: parT t) = _
    have : carL (c :: parT t) = c :: carL (parT t) := by cases parT t <;> simp [carL, h94]
    rw [this, car_par t]
theorem par_any : ∀ (l : List UInt8), (parT l).any qB = l.any quoB
  | [] => rfl
  | c :: t => by
    rw [parT_cons, List.any_append, par_any t, List.any_cons]
    congr 1
    unfold parB
    by_cases h94 : c = 94
    · rw [if_pos h94, h94]; rfl
    rw [if_neg h94]
    by_cases h10 : c = 10
    · rw [if_pos h10, h10]; rfl
    rw [if_neg h10]
    by_cases h34 : c = 34
    · rw [if_pos h34, h34]; rfl
    rw [if_neg h34, List.any_cons, List.any_nil, Bool.or_false]
    unfold qB quoB
    rw [beq_eq_false_iff_ne.2 h34, Bool.false_or]
theorem par_34 : ∀ (l : List UInt8), (parT l).any (· == 34) = false
  | [] => rfl
  | c :: t => by
    rw [parT_cons, List.any_append, par_34 t, Bool.or_false]
    unfold parB
    by_cases h94 : c = 94
    · rw [if_pos h94]; rfl
    rw [if_neg h94]
    by_cases h10 : c = 10
    · rw [if_pos h10]; rfl
    rw [if_neg h10]
    by_cases h34 : c = 34
    · rw [if_pos h34]; rfl
    rw [if_neg h34, List.any_cons, List.any_nil, Bool.or_false]
    exact beq_eq_false_iff_ne.2 h34
theorem head_34 (l : List UInt8) (h : l.any (· == 34) = false) : l.getD 0 0 ≠ 34 := by
  cases l with
  | nil => decide
  | cons a t =>
    rw [List.any_cons, Bool.or_eq_false_iff] at h
    exact beq_eq_false_iff_ne.1 h.1
theorem idx_34 : ∀ (l : List UInt8), l.any (· == 34) = false → Lib.indexByte (l ++ [34]) 34 = (l.length : Int)
  | [], _ => rfl
  | c :: t, h => by
    rw [List.any_cons, Bool.or_eq_false_iff] at h
    have ih := idx_34 t h.2
    show Lib.indexByte (c :: (t ++ [34])) 34 = _
    unfold Lib.indexByte
    rw [h.1, ih]
    have hn : (((t.length : Nat) : Int) == -1) = false := beq_eq_false_iff_ne.2 (by omega)
    rw [hn]
    simp
theorem value_par (s : ByteArray) (h : cleanR true s.data.toList = 0) : valA (parW s) = (s, 0) := by
  obtain ⟨h1, h2⟩ := clean_true h
  have hd : (parW s).data.toList = parL s.data.toList := rfl
  have hv := fun t => par_valid s.data.toList.length s.data.toList t (Nat.le_refl _) h1
  have hok := parT_ok s.data.toList h2
  have hcar := car_par s.data.toList
  have hany := par_any s.data.toList
  have h34 := par_34 s.data.toList
  have hback := ba_backB s
  have hsz : (parW s).size = (parL s.data.toList).length := ba_sizeB _
  unfold valA
  by_cases hq : s.data.toList.any quoB = true
  · have hL : parL s.data.toList = 34 :: (parT s.data.toList ++ [34]) := by unfold parL; rw [if_pos hq]; rfl
    have hc : cleanR false (parW s).data.toList = 0 := by
      rw [hd, hL]
      refine clean_of ?_ ?_
      · rw [Lib.validD_cons _ _ (by decide), hv [34]]; rfl
      · rw [List.all_cons, List.all_append, hok]; rfl
    rw [if_pos hc]
    unfold valB
    have hlen : (parW s).size = (parT s.data.toList).length + 2 := by rw [hsz, hL]; simp
    have hex : ((parW s).extract 1 ((parW s).size - 1)).data.toList = parT s.data.toList := by
      rw [ByteArray.data_extract, Array.toList_extract, List.extract_eq_take_drop, hd, hL, hlen]
      simp
    rw [if_pos (by rw [hd, hL]; rfl), if_neg (by omega), if_pos (by rw [hd, hL]; show Lib.indexByte (parT s.data.toList ++ [34]) 34 = _; rw [idx_34 _ h34, hlen]; rfl), hex, hcar, hback]
  · have hL : parL s.data.toList = parT s.data.toList := by unfold parL; rw [if_neg hq]
    have hc : cleanR false (parW s).data.toList = 0 := by
      rw [hd, hL]
      refine clean_of ?_ hok
      have := hv []
      rw [List.append_nil] at this
      rw [this]; rfl
    rw [if_pos hc]
    unfold valB openR
    rw [if_neg (by rw [hd, hL]; exact head_34 _ h34), hd, hL, hany, if_neg hq, hcar, hback]
end Go.Proofs.YtknmbalhbecdhaaGreatDoor.Pure
end
section
set_option linter.unusedVariables false
set_option linter.unusedSimpArgs false
set_option linter.unusedSectionVars false
namespace Go.Proofs.YtknmbalhbecdhaaGreatDoor.Pure
open Go.RowKit Go.Proofs.YtknmbalhbecdhaaGreatDoor.Print Go.Proofs.YtknmbalhbecdhaaGreatDoorW.PrintWords Go.Proofs.YtknmbalhbecdhaaGreatDoorW.PrintLast Go.Proofs.YtknmbalhbecdhaaGreatDoorW.PrintMore
def fewV : List ByteArray → Nat
  | [] => 0
  | x :: t => x.size + 1 + fewV t
def fewP : List RP → Nat
  | [] => 0
  | p :: t => p.f0.size + 1 + fewV p.f1 + fewP t
theorem wrapN (s c : Nat) (h : s + c ≤ 4611686018427387904) : wrap64 ((s : Int) + (c : Int)) = ((s + c : Nat) : Int) := by unfold wrap64; omega
theorem wrap2 (s c : Nat) (h : s + c + 1 ≤ 4611686018427387904) : wrap64 (wrap64 ((s : Int) + (c : Int)) + 1) = ((s + c + 1 : Nat) : Int) := by
  rw [wrapN s c (by omega)]; exact wrapN (s + c) 1 h
theorem few1_sum (nm v : ByteArray) (l : List RP) (i : Nat) (hi : i < l.length) (hl : l.length ≤ 60) (hv : l[i].f1.length ≤ 60)
    (next : ∀ s : Nat, s + fewP (l.drop (i + 1)) ≤ 4611686018427387904 → Ev (fun k => trystlaw10_Few.l0 k (s : Int) (l.length : Int) ((i + 1 : Nat) : Int) nm l v) (decide (s + fewP (l.drop (i + 1)) ≤ 5000))) :
    ∀ (d j s : Nat), j + d = l[i].f1.length → s + fewV (l[i].f1.drop j) + fewP (l.drop (i + 1)) ≤ 4611686018427387904 →
      Ev (fun k => trystlaw10_Few.l1 k (s : Int) (i : Int) (l.length : Int) (i : Int) (l[i].f1.length : Int) (j : Int) nm l v) (decide (s + fewV (l[i].f1.drop j) + fewP (l.drop (i + 1)) ≤ 5000)) := by
  intro d
  induction d with
  | zero =>
    intro j s hj hb
    rw [List.drop_eq_nil_of_le (by omega), fewV, Nat.add_zero] at hb ⊢
    by_cases h5 : s ≤ 5000
    · exact Ev.step (fun k => by simp only [trystlaw10_Few.l1]; rw [if_neg (by omega), if_neg (by omega), wrapS i _ hi (by omega)]) (next s hb)
    · rw [decide_eq_false (by omega)]
      exact Ev.step (f := fun _ => some false) (fun k => by simp only [trystlaw10_Few.l1]; rw [if_neg (by omega), if_pos (by omega)]) (Ev.now _)
  | succ d ih =>
    intro j s hj hb
    have hjl : j < l[i].f1.length := by omega
    rw [List.drop_eq_getElem_cons hjl, fewV] at hb ⊢
    have := ih (j + 1) (s + l[i].f1[j].size + 1) (by omega) (by omega)
    rw [show s + (l[i].f1[j].size + 1 + fewV (l[i].f1.drop (j + 1))) + fewP (l.drop (i + 1)) = s + l[i].f1[j].size + 1 + fewV (l[i].f1.drop (j + 1)) + fewP (l.drop (i + 1)) by omega]
    exact Ev.step (fun k => by simp only [trystlaw10_Few.l1]; rw [if_pos (by omega), if_pos (by omega), if_pos (by omega), if_pos (by omega), rdR l i hi, if_pos (by omega), wrapS j _ hjl (by omega), rdS _ j hjl, wrap2 s _ (by omega)]) this
theorem few_sum (nm v : ByteArray) (l : List RP) (hl : l.length ≤ 60) (hv : ∀ x ∈ l, x.f1.length ≤ 60) :
    ∀ (d i s : Nat), i + d = l.length → s + fewP (l.drop i) ≤ 4611686018427387904 → Ev (fun k => trystlaw10_Few.l0 k (s : Int) (l.length : Int) (i : Int) nm l v) (decide (s + fewP (l.drop i) ≤ 5000)) := by
  intro d
  induction d with
  | zero =>
    intro i s hi hb
    rw [List.drop_eq_nil_of_le (by omega), fewP, Nat.add_zero]
    exact Ev.step (f := fun _ => some (decide (s ≤ 5000))) (fun k => by simp only [trystlaw10_Few.l0]; rw [if_neg (by omega)]; exact congrArg some (decide_eq_decide.2 (by omega))) (Ev.now _)
  | succ d ih =>
    intro i s hi hb
    have hil : i < l.length := by omega
    rw [List.drop_eq_getElem_cons hil, fewP] at hb ⊢
    have := few1_sum nm v l i hil hl (hv _ (List.getElem_mem hil)) (fun s h => ih (i + 1) s (by omega) h) l[i].f1.length 0 (s + l[i].f0.size + 1) (by omega) (by rw [List.drop_zero]; omega)
    rw [List.drop_zero] at this
    rw [show s + (l[i].f0.size + 1 + fewV l[i].f1 + fewP (l.drop (i + 1))) = s + l[i].f0.size + 1 + fewV l[i].f1 + fewP (l.drop (i + 1)) by omega]
    exact Ev.step (fun k => by simp only [trystlaw10_Few.l0]; rw [if_pos (by omega), if_pos (by omega), if_pos (by omega), rdR l i hil, wrap2 s _ (by omega)]; rfl) this
theorem fewV_le (B : Nat) : ∀ l : List ByteArray, (∀ x ∈ l, x.size ≤ B) → fewV l ≤ l.length * (B + 1)
  | [], _ => by simp [fewV]
  | x :: t, h => by
    have h1 := h x List.mem_cons_self
    have h2 := fewV_le B t (fun y hy => h y (List.mem_cons_of_mem _ hy))
    rw [fewV, List.length_cons, Nat.add_mul]; omega
theorem fewP_le : ∀ l : List RP, (∀ p ∈ l, ParB' (toP p) ∧ p.f1.length ≤ 60) → fewP l ≤ l.length * 9000000000000000
  | [], _ => by simp [fewP]
  | p :: t, h => by
    have h1 := h p List.mem_cons_self
    have h2 := fewP_le t (fun y hy => h y (List.mem_cons_of_mem _ hy))
    have h3 := fewV_le 140737488351232 p.f1 h1.1.2
    have h4 : p.f0.size ≤ 140737488351232 := h1.1.1
    have h5 : p.f1.length * (140737488351232 + 1) ≤ 60 * (140737488351232 + 1) := Nat.mul_le_mul_right _ h1.2
    rw [fewP, List.length_cons, Nat.add_mul]; omega
theorem okPs_all : ∀ (l seen : List LP), okPs seen l = true → ∀ p ∈ l, parR p.f0 p.f1 = true
  | [], _, _, p, hp => by simp at hp
  | q :: t, seen, h, p, hp => by
    rw [okPs, Bool.and_eq_true, Bool.and_eq_true] at h
    rcases List.mem_cons.1 hp with rfl | hp
    · exact h.1
    · exact okPs_all t _ h.2.2 p hp
theorem parR_of {nm : ByteArray} {l : List ByteArray} (h : parR nm l = true) : nameR nm = true ∧ 1 ≤ l.length ∧ l.length ≤ 60 ∧ ∀ x ∈ l, cleanR true x.data.toList = 0 := by
  unfold parR at h
  rw [Bool.and_eq_true, Bool.and_eq_true, Bool.and_eq_true] at h
  exact ⟨h.1, of_decide_eq_true h.2.1, of_decide_eq_true h.2.2.1, fun x hx => of_decide_eq_true (List.all_eq_true.1 h.2.2.2 x hx)⟩
theorem formR_of {nm : ByteArray} {l : List LP} {v : ByteArray} (h : formR nm l v = true) : nameR nm = true ∧ l.length ≤ 60 ∧ cleanR false v.data.toList = 0 ∧ okPs [] l = true := by
  unfold formR at h
  rw [Bool.and_eq_true, Bool.and_eq_true, Bool.and_eq_true] at h
  exact ⟨h.1, of_decide_eq_true h.2.1, of_decide_eq_true h.2.2.1, h.2.2.2⟩
theorem parT_le : ∀ l : List UInt8, (parT l).length ≤ 2 * l.length
  | [] => by simp [parT]
  | c :: t => by
    have := parT_le t
    rw [parT_cons, List.length_append, List.length_cons]
    have : (parB c).length ≤ 2 := by unfold parB; split <;> (try split) <;> (try split) <;> simp
    omega
theorem parL_le (l : List UInt8) : (parL l).length ≤ 2 * l.length + 2 := by
  have := parT_le l
  unfold parL; split
  · simp; omega
  · omega
theorem valsT_le : ∀ (l : List ByteArray) (b : UInt8), (valsT l b).length ≤ 3 * fewV l
  | [], b => by simp [valsT]
  | x :: t, b => by
    have h1 := valsT_le t 44
    have h2 := parL_le x.data.toList
    have e : x.data.toList.length = x.size := by simp
    rw [valsT, fewV, List.length_append, List.length_cons]; omega
theorem parsT_le : ∀ l : List RP, (parsT (l.map toP)).length ≤ 3 * fewP l
  | [] => by simp [parsT]
  | p :: t => by
    have h1 := parsT_le t
    have h2 := valsT_le p.f1 61
    have e : p.f0.data.toList.length = p.f0.size := by simp
    rw [List.map_cons, parsT, fewP]
    show (59 :: p.f0.data.toList ++ valsT p.f1 61 ++ parsT (t.map toP)).length ≤ _
    rw [List.length_append, List.length_append, List.length_cons]; omega
theorem lineT_le (nm v : ByteArray) (l : List RP) : (lineT nm (l.map toP) v).length ≤ 3 * (nm.size + v.size + fewP l) + 1 := by
  have h1 := parsT_le l
  have e : nm.data.toList.length = nm.size := by simp
  have e2 : v.data.toList.length = v.size := by simp
  unfold lineT
  rw [List.length_append, List.length_append, List.length_cons]; omega
theorem clean_evS : ∀ l : List ByteArray, (∀ x ∈ l, x.size ≤ 140737488351232 ∧ cleanR true x.data.toList = 0) → ∃ K, ∀ k, K ≤ k → ∀ x ∈ l, escape_Clean.f k x true = some 0
  | [], _ => ⟨0, fun _ _ x hx => by simp at hx⟩
  | x :: t, h => by
    obtain ⟨K, hK⟩ := clean_evS t (fun y hy => h y (List.mem_cons_of_mem _ hy))
    have hx := h x List.mem_cons_self
    obtain ⟨K2, hK2⟩ := escClean x true hx.1
    rw [hx.2] at hK2
    refine ⟨max K K2, fun k hk y hy => ?_⟩
    rcases List.mem_cons.1 hy with rfl | hy
    · exact hK2 k (by omega)
    · exact hK k (by omega) y hy
theorem clean_evP : ∀ l : List LP, (∀ p ∈ l, ∀ x ∈ p.f1, x.size ≤ 140737488351232 ∧ cleanR true x.data.toList = 0) → ∃ K, ∀ k, K ≤ k → cleanAll k l = true
  | [], _ => ⟨0, fun _ _ => rfl⟩
  | p :: t, h => by
    obtain ⟨K, hK⟩ := clean_evP t (fun y hy => h y (List.mem_cons_of_mem _ hy))
    obtain ⟨K2, hK2⟩ := clean_evS p.f1 (h p List.mem_cons_self)
    refine ⟨max K K2, fun k hk => ?_⟩
    have h1 := hK k (by omega)
    unfold cleanAll at h1 ⊢
    rw [List.all_cons, h1, Bool.and_true]
    exact List.all_eq_true.2 fun x hx => decide_eq_true (hK2 k (by omega) x hx)
def printR (nm : ByteArray) (l : List LP) (v : ByteArray) : ByteArray × Int := if formR nm l v = true then lineR nm l v else (⟨#[]⟩, 1)
theorem printL (nm v : ByteArray) (l : List LP) (hn : nm.size ≤ 140737488351232) (hv : v.size ≤ 140737488351232) (hs : ∀ p ∈ l, ParB' p) (hlen : formR nm l v = true → (lineT nm l v).length ≤ 1000000000) : Ev (fun k => line_Print.f k nm l v) (printR nm l v) := by
  refine Ev.bind (formL nm v l hn hv hs) ?_
  unfold printR
  cases hf : formR nm l v with
  | false => exact Ev.congr (f := fun _ => some (⟨#[]⟩, 1)) (fun k => by rw [if_neg (by simp)]) (by rw [if_neg (by simp)]; exact Ev.now _)
  | true =>
    have h1 := hlen hf
    have h2 := formR_of hf
    obtain ⟨K, hK⟩ := clean_evP l (fun p hp x hx => ⟨(hs p hp).2 x hx, (parR_of (okPs_all l [] h2.2.2.2 p hp)).2.2.2 x hx⟩)
    rw [if_pos rfl]
    exact ⟨K, fun k hk => by show (if true = true then _ else _) = _; rw [if_pos rfl, if_pos ⟨hK k hk, h1⟩]⟩
theorem few_x : ∀ (l : List ByteArray), ∀ x ∈ l, x.size ≤ fewV l
  | y :: t, x, hx => by
    rw [fewV]
    rcases List.mem_cons.1 hx with rfl | hx
    · omega
    · have := few_x t x hx; omega
theorem few_p : ∀ (l : List RP), ∀ p ∈ l, fewV p.f1 ≤ fewP l
  | y :: t, p, hp => by
    rw [fewP]
    rcases List.mem_cons.1 hp with rfl | hp
    · omega
    · have := few_p t p hp; omega
/-- Few of a line: false, or its two forms print small texts. -/
theorem few_line (nm v : ByteArray) (l : List RP) (hn : nm.size ≤ 140737488351232) (hv : v.size ≤ 140737488351232) (hl : l.length < 3518437208883) (hx : ∀ p ∈ l, p.f1.length < 8796093022208) (hs : ∀ p ∈ l, ParB' (toP p)) :
    ∃ b, Ev (fun k => trystlaw10_Few.f k nm l v) b ∧ (b = true → formR nm (l.map toP) v = true → (lineT nm (l.map toP) v).length ≤ 20000 ∧ ∀ p ∈ l, ∀ x ∈ p.f1, x.size ≤ 100000) := by
  cases hf : formR nm (l.map toP) v with
  | false =>
    obtain ⟨b, hb⟩ := few_ev nm v l (by omega) (fun p hp => by have := hx p hp; omega) l.length 0 (wrap64 ((nm.size : Int) + (v.size : Int))) (by omega)
    exact ⟨b, hb, fun _ h => by cases h⟩
  | true =>
    have h2 := formR_of hf
    have hp60 : ∀ p ∈ l, p.f1.length ≤ 60 := fun p hp => (parR_of (okPs_all _ [] h2.2.2.2 (toP p) (List.mem_map_of_mem hp))).2.2.1
    have hl60 : l.length ≤ 60 := by rw [← List.length_map (f := toP)]; exact h2.2.1
    have hfp := fewP_le l (fun p hp => ⟨hs p hp, hp60 p hp⟩)
    have hfp2 : l.length * 9000000000000000 ≤ 60 * 9000000000000000 := Nat.mul_le_mul_right _ hl60
    have := few_sum nm v l hl60 hp60 l.length 0 (nm.size + v.size) (by omega) (by rw [List.drop_zero]; omega)
    rw [List.drop_zero] at this
    refine ⟨_, Ev.congr (fun k => by unfold trystlaw10_Few.f; rw [wrapN _ _ (by omega)]; rfl) this, fun hb _ => ?_⟩
    have hb := of_decide_eq_true hb
    have := lineT_le nm v l
    exact ⟨by omega, fun p hp x hxx => by have h1 := few_p l p hp; have h2 := few_x p.f1 x hxx; omega⟩
end Go.Proofs.YtknmbalhbecdhaaGreatDoor.Pure
end
section
set_option linter.unusedVariables false
set_option linter.unusedSimpArgs false
set_option linter.unusedSectionVars false
namespace Go.Proofs.YtknmbalhbecdhaaGreatDoor.Pure
open Go.RowKit Go.Proofs.YtknmbalhbecdhaaGreatDoor.Print Go.Proofs.YtknmbalhbecdhaaGreatDoorW.PrintWords Go.Proofs.YtknmbalhbecdhaaGreatDoorW.PrintLast Go.Proofs.YtknmbalhbecdhaaGreatDoorW.PrintMore
theorem up_sign (c : UInt8) (h : upB c = true) : signS c = true := by
  have h1 : ∀ c : Fin 256, upB (UInt8.ofFin c) = true → signS (UInt8.ofFin c) = true := by decide +kernel
  exact h1 c.toFin h
theorem up_great (c : UInt8) (h : upB c = true) : greatB c = c := by
  have h1 : ∀ c : Fin 256, upB (UInt8.ofFin c) = true → greatB (UInt8.ofFin c) = UInt8.ofFin c := by decide +kernel
  exact h1 c.toFin h
theorem up_low (c : UInt8) (h : upB c = true) : c.toNat < 128 := by
  have h1 : ∀ c : Fin 256, upB (UInt8.ofFin c) = true → (UInt8.ofFin c).toNat < 128 := by decide +kernel
  exact h1 c.toFin h
theorem sign_58 : signS 58 = false := by decide +kernel
theorem sign_59 : signS 59 = false := by decide +kernel
theorem sign_61 : signS 61 = false := by decide +kernel
theorem nameEnd_of : ∀ (l : List UInt8) (c : UInt8) (t : List UInt8) (n : Nat), l.all upB = true → l.length ≤ n → signS c = false → nameEnd (l ++ c :: t) n = l.length
  | [], c, t, n, _, _, hc => by
    cases n with
    | zero => exact nameEnd_zero _
    | succ n => exact nameEnd_no c t n hc
  | x :: l, c, t, n, h, hl, hc => by
    rw [List.all_cons, Bool.and_eq_true] at h
    cases n with
    | zero => simp at hl
    | succ n =>
      rw [List.cons_append, nameEnd_yes x _ n (up_sign x h.1), nameEnd_of l c t n h.2 (by simpa using hl) hc]; rfl
theorem map_great : ∀ l : List UInt8, l.all upB = true → l.map greatB = l
  | [], _ => rfl
  | x :: t, h => by
    rw [List.all_cons, Bool.and_eq_true] at h
    rw [List.map_cons, up_great x h.1, map_great t h.2]
theorem great_of (s : ByteArray) (h : s.data.toList.all upB = true) : greatS s = s := by
  unfold greatS; rw [map_great _ h, ba_backB]
theorem nameR_of {s : ByteArray} (h : nameR s = true) : s.data.toList.all upB = true ∧ 1 ≤ s.size ∧ s.size ≤ 60 := by
  unfold nameR at h
  rw [Bool.and_eq_true, Bool.and_eq_true, decide_eq_true_eq, decide_eq_true_eq] at h; exact h
theorem plain_q (c : UInt8) : plainV c = !(qB c) := by
  unfold plainV qB
  cases c == 34 <;> cases c == 58 <;> cases c == 59 <;> cases c == 44 <;> rfl
theorem takeW_of : ∀ (l : List UInt8) (c : UInt8) (t : List UInt8), l.any qB = false → plainV c = false → (l ++ c :: t).takeWhile plainV = l
  | [], c, t, _, hc => by rw [List.nil_append, List.takeWhile_cons, if_neg (by simp [hc])]
  | x :: l, c, t, h, hc => by
    rw [List.any_cons, Bool.or_eq_false_iff] at h
    rw [List.cons_append, List.takeWhile_cons, if_pos (by rw [plain_q, h.1]; rfl), takeW_of l c t h.2 hc]
theorem idx_34r : ∀ (l r : List UInt8), l.any (· == 34) = false → Lib.indexByte (l ++ 34 :: r) 34 = (l.length : Int)
  | [], r, _ => rfl
  | c :: t, r, h => by
    rw [List.any_cons, Bool.or_eq_false_iff] at h
    have ih := idx_34r t r h.2
    show Lib.indexByte (c :: (t ++ 34 :: r)) 34 = _
    unfold Lib.indexByte
    rw [h.1, ih]
    have hn : (((t.length : Nat) : Int) == -1) = false := beq_eq_false_iff_ne.2 (by omega)
    rw [hn]
    simp
theorem valEnd_par (x : List UInt8) (c : UInt8) (t : List UInt8) (hc : plainV c = false) (hc2 : c ≠ 34) : valEnd (parL x ++ c :: t) = some (parL x).length := by
  by_cases hq : x.any quoB = true
  · have hL : parL x = 34 :: (parT x ++ [34]) := by unfold parL; rw [if_pos hq]; rfl
    unfold valEnd
    rw [hL]
    rw [if_pos (by rfl)]
    have e : (List.drop 1 (34 :: (parT x ++ [34]) ++ c :: t)) = parT x ++ 34 :: (c :: t) := by simp
    rw [e, idx_34r _ _ (par_34 x), if_neg (by omega)]
    simp
  · have hL : parL x = parT x := by unfold parL; rw [if_neg hq]
    have ha : (parT x).any qB = false := by rw [par_any]; simpa using hq
    unfold valEnd
    rw [hL, takeW_of _ _ _ ha hc, if_neg]
    cases hp : parT x with
    | nil => intro e; exact hc2 (by simpa using e)
    | cons y u =>
      rw [hp, List.any_cons, Bool.or_eq_false_iff] at ha
      intro e
      have e2 : y = 34 := by simpa using e
      rw [e2] at ha
      exact absurd ha.1 (by decide)
theorem up_valid : ∀ (l s : List UInt8), l.all upB = true → Lib.validD (l ++ s) = Lib.validD s
  | [], s, _ => rfl
  | x :: l, s, h => by
    rw [List.all_cons, Bool.and_eq_true] at h
    rw [List.cons_append, Lib.validD_cons _ _ (up_low x h.1), up_valid l s h.2]
theorem parL_valid (x s : List UInt8) (h : Lib.validD x = true) : Lib.validD (parL x ++ s) = Lib.validD s := by
  by_cases hq : x.any quoB = true
  · have hL : parL x = 34 :: (parT x ++ [34]) := by unfold parL; rw [if_pos hq]; rfl
    rw [hL, List.cons_append, Lib.validD_cons _ _ (by decide), List.append_assoc, par_valid x.length x _ (Nat.le_refl _) h]
    show Lib.validD (34 :: s) = _
    rw [Lib.validD_cons _ _ (by decide)]
  · have hL : parL x = parT x := by unfold parL; rw [if_neg hq]
    rw [hL, par_valid x.length x _ (Nat.le_refl _) h]
theorem valsT_valid : ∀ (l : List ByteArray) (b : UInt8) (s : List UInt8), b.toNat < 128 → (∀ x ∈ l, cleanR true x.data.toList = 0) → Lib.validD (valsT l b ++ s) = Lib.validD s
  | [], b, s, _, _ => rfl
  | x :: l, b, s, hb, h => by
    rw [valsT, List.cons_append, List.cons_append, Lib.validD_cons _ _ hb, List.append_assoc, parL_valid _ _ (clean_true (h x (by simp))).1]
    exact valsT_valid l 44 s (by decide) (fun y hy => h y (by simp [hy]))
theorem parsT_valid : ∀ (l : List LP) (s : List UInt8), (∀ p ∈ l, parR p.f0 p.f1 = true) → Lib.validD (parsT l ++ s) = Lib.validD s
  | [], s, _ => rfl
  | p :: l, s, h => by
    have hp := parR_of (h p (by simp))
    rw [parsT, List.cons_append, List.cons_append, List.cons_append, Lib.validD_cons _ _ (by decide), List.append_assoc, List.append_assoc, up_valid _ _ (nameR_of hp.1).1, valsT_valid _ _ _ (by decide) hp.2.2.2]
    exact parsT_valid l s (fun q hq => h q (by simp [hq]))
theorem line_valid {nm v : ByteArray} {l : List LP} (h : formR nm l v = true) : Lib.validD (lineT nm l v) = true := by
  obtain ⟨h1, h2, h3, h4⟩ := formR_of h
  unfold lineT
  rw [List.append_assoc, up_valid _ _ (nameR_of h1).1, parsT_valid _ _ (okPs_all _ _ h4), Lib.validD_cons _ _ (by decide)]
  unfold cleanR at h3
  by_cases hv : Lib.validD v.data.toList = true
  · exact hv
  · rw [if_neg hv] at h3; exact absurd h3 (by decide)
end Go.Proofs.YtknmbalhbecdhaaGreatDoor.Pure
end
section
set_option linter.unusedVariables false
set_option linter.unusedSimpArgs false
set_option linter.unusedSectionVars false
namespace Go.Proofs.YtknmbalhbecdhaaGreatDoor.Pure
open Go.RowKit Go.Proofs.YtknmbalhbecdhaaGreatDoor.Print Go.Proofs.YtknmbalhbecdhaaGreatDoorW.PrintWords Go.Proofs.YtknmbalhbecdhaaGreatDoorW.PrintLast Go.Proofs.YtknmbalhbecdhaaGreatDoorW.PrintMore
theorem szF {s : ByteArray} {L : List UInt8} (h : s.data.toList = L) : s.size = L.length := by rw [← h, Array.length_toList]; rfl
theorem ba_ext {a b : ByteArray} (h : a.data.toList = b.data.toList) : a = b := by rw [← ba_backB a, ← ba_backB b, h]
theorem extF (s : ByteArray) (p q : Nat) : (s.extract p (p + q)).data.toList = (s.data.toList.drop p).take q := by
  rw [ByteArray.data_extract, Array.toList_extract, List.extract_eq_take_drop, Nat.add_sub_cancel_left]
theorem peekF (s : ByteArray) (A R : List UInt8) (c : UInt8) (h : s.data.toList = A ++ c :: R) : line_reader_peek.f s (A.length : Int) 0 = some ((c.toNat : Int), s, (A.length : Int), 0) := by
  have hz := szF h
  rw [List.length_append, List.length_cons] at hz
  have hb := bt_nat s A.length
  have e : s.data.toList.getD A.length 0 = c := by rw [h]; simp
  rw [e] at hb
  unfold line_reader_peek.f
  rw [if_pos rfl, if_neg (by omega), if_pos (by omega), if_pos (by omega), hb]
theorem nameF (s nm : ByteArray) (A R : List UInt8) (c : UInt8) (h : s.data.toList = A ++ (nm.data.toList ++ c :: R)) (hn : nameR nm = true) (hc : signS c = false) (hs : s.size ≤ 2000) : line_reader_name.f s (A.length : Int) 0 = some (nm, s, ((A.length + nm.size : Nat) : Int), 0) := by
  obtain ⟨h1, h2, h3⟩ := nameR_of hn
  have hz := szF h
  have e2 : nm.data.toList.length = nm.size := by simp
  simp only [List.length_append, List.length_cons] at hz
  have e : s.data.toList.drop A.length = nm.data.toList ++ c :: R := by rw [h, List.drop_left' rfl]
  have hne : nameEnd (nm.data.toList ++ c :: R) 60 = nm.size := by rw [nameEnd_of _ c R 60 h1 (by omega) hc, e2]
  have hx : s.extract A.length (A.length + nm.size) = nm := by
    apply ba_ext
    rw [extF, e, List.take_left' e2]
  unfold line_reader_name.f
  rw [if_pos ⟨rfl, by omega, by omega, by omega⟩, Int.toNat_natCast, e, hne, if_neg (by omega), hx, great_of _ h1]
theorem valueF (s x : ByteArray) (A R : List UInt8) (c : UInt8) (h : s.data.toList = A ++ (parL x.data.toList ++ c :: R)) (hx : cleanR true x.data.toList = 0) (hc : plainV c = false) (hc2 : c ≠ 34) (hs : s.size ≤ 2000) :
    Ev (fun k => line_reader_value.f k s (A.length : Int) 0) (x, s, ((A.length + (parL x.data.toList).length : Nat) : Int), 0) := by
  have hz := szF h
  simp only [List.length_append, List.length_cons] at hz
  have e : s.data.toList.drop A.length = parL x.data.toList ++ c :: R := by rw [h, List.drop_left' rfl]
  have hv := valEnd_par x.data.toList c R hc hc2
  have hpd : (parW x).data.toList = parL x.data.toList := by simp [parW]
  have hex : s.extract A.length (A.length + (parL x.data.toList).length) = parW x := by
    apply ba_ext
    rw [extF, e, List.take_left' rfl, hpd]
  have hpz := szF hpd
  have h1 := esc_value (parW x) (by omega)
  rw [value_par x hx] at h1
  refine Ev.congr (f := fun k => (escape_Value.f k (parW x)).bind fun p => some (p.1, s, if p.2 = 0 then ((A.length + (parL x.data.toList).length : Nat) : Int) else (A.length : Int), if p.2 = 0 then 0 else 7)) (fun k => ?_) (Ev.bind h1 (Ev.now _))
  unfold line_reader_value.f
  rw [if_pos ⟨rfl, by omega, by omega, by omega⟩, Int.toNat_natCast, e, hv, ← hex]
theorem is44 (d : UInt8) (h : d ≠ 44) : (((d.toNat : Nat) : Int) == 44) = false := beq_eq_false_iff_ne.2 fun e => by
  have h1 : d.toNat = 44 := by omega
  exact h (UInt8.toNat_inj.1 h1)
/-- One value of a parameter. -/
theorem paramS (s nm v : ByteArray) (x5 : Int) (hs : s.size ≤ 2000) (acc : List ByteArray) (A R : List UInt8) (b d : UInt8) (h : s.data.toList = A ++ (b :: (parL v.data.toList ++ d :: R))) (hv : cleanR true v.data.toList = 0) (hd : plainV d = false) (hd2 : d ≠ 34) (hl : acc.length < 60)
    {r : ByteArray × List ByteArray × ByteArray × Int × Int} (next : Ev (fun k => line_reader_param.l0 k x5 (((d.toNat : Nat) : Int) == 44) s ((A.length + (1 + (parL v.data.toList).length) : Nat) : Int) 0 nm (acc ++ [v])) r) :
    Ev (fun k => line_reader_param.l0 k x5 true s (A.length : Int) 0 nm acc) r := by
  have h2 : s.data.toList = (A ++ [b]) ++ (parL v.data.toList ++ d :: R) := by rw [h]; simp
  have h3 : s.data.toList = (A ++ b :: parL v.data.toList) ++ d :: R := by rw [h]; simp
  have hV := valueF s v (A ++ [b]) R d h2 hv hd hd2 hs
  have hP := peekF s _ R d h3
  have hz := szF h3
  have e1 : (A ++ [b]).length = A.length + 1 := by simp
  have e2 : (A ++ b :: parL v.data.toList).length = A.length + (1 + (parL v.data.toList).length) := by simp; omega
  rw [List.length_append, e2] at hz
  rw [e1, Nat.add_assoc] at hV
  rw [e2] at hP
  have hb : acc.length < 8796093022208 := by omega
  refine Ev.step (f := fun k => line_reader_param.j5 k x5 true s (A.length : Int) 0 nm acc) (fun k => by simp only [line_reader_param.l0]; rfl) ?_
  refine Ev.step (f := fun k => (line_reader_value.f k s ((A.length + 1 : Nat) : Int) 0).bind fun q => (line_reader_peek.f q.2.1 q.2.2.1 q.2.2.2).bind fun p => line_reader_param.l0 k x5 (p.1 == 44) p.2.1 p.2.2.1 p.2.2.2 nm (acc ++ [q.1])) (fun k => by
    simp only [line_reader_param.j5, if_pos hb]
    rw [if_pos trivial, if_neg (by omega), wrapS A.length s.size (by omega) (by omega)]) ?_
  refine Ev.bind hV ?_
  exact Ev.congr (fun k => by show Option.bind (line_reader_peek.f s ((A.length + (1 + (parL v.data.toList).length) : Nat) : Int) 0) _ = _; rw [hP]; rfl) next
theorem paramL (s nm : ByteArray) (x5 : Int) (hs : s.size ≤ 2000) (c : UInt8) (R : List UInt8) (hc : plainV c = false) (hc2 : c ≠ 34) (hc3 : c ≠ 44) :
    ∀ (l : List ByteArray) (v : ByteArray) (acc : List ByteArray) (A : List UInt8) (b : UInt8), s.data.toList = A ++ (valsT (v :: l) b ++ c :: R) → (∀ x ∈ v :: l, cleanR true x.data.toList = 0) → acc.length + (v :: l).length ≤ 60 →
    Ev (fun k => line_reader_param.l0 k x5 true s (A.length : Int) 0 nm acc) (nm, acc ++ v :: l, s, ((A.length + (valsT (v :: l) b).length : Nat) : Int), 0)
  | [], v, acc, A, b, h, hcl, hl => by
    have e : valsT [v] b = b :: parL v.data.toList := by simp [valsT]
    rw [e] at h ⊢
    refine paramS s nm v x5 hs acc A R b c (by rw [h]; simp) (hcl v (by simp)) hc hc2 (by simp at hl; omega) ?_
    rw [is44 c hc3]
    have e3 : (b :: parL v.data.toList).length = 1 + (parL v.data.toList).length := by simp; omega
    rw [e3]
    refine Ev.step (f := fun k => line_reader_param.j5 k x5 false s ((A.length + (1 + (parL v.data.toList).length) : Nat) : Int) 0 nm (acc ++ [v])) (fun k => by simp only [line_reader_param.l0]; rfl) ?_
    exact Ev.step (f := fun _ => some (nm, acc ++ [v], s, ((A.length + (1 + (parL v.data.toList).length) : Nat) : Int), 0)) (fun k => by simp only [line_reader_param.j5]; rfl) (Ev.now _)
  | y :: u, v, acc, A, b, h, hcl, hl => by
    have e : valsT (v :: y :: u) b = b :: (parL v.data.toList ++ 44 :: (parL y.data.toList ++ valsT u 44)) := by simp [valsT]
    have e4 : valsT (y :: u) 44 = 44 :: (parL y.data.toList ++ valsT u 44) := by simp [valsT]
    rw [e] at h ⊢
    refine paramS s nm v x5 hs acc A (parL y.data.toList ++ valsT u 44 ++ c :: R) b 44 (by rw [h]; simp) (hcl v (by simp)) (by decide) (by decide) (by simp at hl; omega) ?_
    have ih := paramL s nm x5 hs c R hc hc2 hc3 u y (acc ++ [v]) (A ++ b :: parL v.data.toList) 44 (by rw [h, e4]; simp) (fun x hx => hcl x (by simp at hx ⊢; exact .inr hx)) (by simp at hl ⊢; omega)
    have e2 : (A ++ b :: parL v.data.toList).length = A.length + (1 + (parL v.data.toList).length) := by simp; omega
    have e5 : A.length + (1 + (parL v.data.toList).length) + (valsT (y :: u) 44).length = A.length + (b :: (parL v.data.toList ++ 44 :: (parL y.data.toList ++ valsT u 44))).length := by rw [e4]; simp; omega
    rw [e2, e5, List.append_assoc] at ih
    exact ih
theorem paramF (s : ByteArray) (p : LP) (l : List LP) (A R : List UInt8) (c : UInt8) (h : s.data.toList = A ++ (p.f0.data.toList ++ (valsT p.f1 61 ++ c :: R))) (hp : parR p.f0 p.f1 = true) (hl : l.length < 60) (hn : l.any (hasN p.f0) = false) (hc : plainV c = false) (hc2 : c ≠ 34) (hc3 : c ≠ 44) (hs : s.size ≤ 2000) :
    Ev (fun k => line_reader_param.f k s (A.length : Int) 0 l) (p.f0, p.f1, s, ((A.length + (p.f0.size + (valsT p.f1 61).length) : Nat) : Int), 0) := by
  obtain ⟨h1, h2, h3, h4⟩ := parR_of hp
  obtain ⟨v, u, hvu⟩ : ∃ v u, p.f1 = v :: u := by
    cases hq : p.f1 with
    | nil => rw [hq] at h2; simp at h2
    | cons v u => exact ⟨v, u, rfl⟩
  have e2 : p.f0.data.toList.length = p.f0.size := by simp
  have ev : valsT p.f1 61 = 61 :: (parL v.data.toList ++ valsT u 44) := by rw [hvu]; simp [valsT]
  have hN := nameF s p.f0 A (parL v.data.toList ++ valsT u 44 ++ c :: R) 61 (by rw [h, ev]; simp) h1 sign_61 hs
  have hP := peekF s (A ++ p.f0.data.toList) (parL v.data.toList ++ valsT u 44 ++ c :: R) 61 (by rw [h, ev]; simp)
  have e3 : (A ++ p.f0.data.toList).length = A.length + p.f0.size := by rw [List.length_append, e2]
  rw [e3] at hP
  have hi := idxN_any p.f0 l 0
  rw [hn] at hi
  have hL := paramL s p.f0 (A.length : Int) hs c R hc hc2 hc3 u v [] (A ++ p.f0.data.toList) 61 (by rw [h, ← hvu]; simp) (by rw [← hvu]; exact h4) (by rw [← hvu]; simp; omega)
  rw [← hvu, e3, List.nil_append, Nat.add_assoc] at hL
  refine Ev.congr (f := fun k => line_reader_param.j0 k l (A.length : Int) false s ((A.length + p.f0.size : Nat) : Int) 0 p.f0) (fun k => ?_) ?_
  · unfold line_reader_param.f
    rw [hN, Option.bind_some, if_pos (show (0 : Int) = 0 from rfl), hP]; rfl
  refine Ev.step (f := fun k => line_reader_param.j1 k l (A.length : Int) s ((A.length + p.f0.size : Nat) : Int) 0 p.f0) (fun k => by simp only [line_reader_param.j0]; rfl) ?_
  refine Ev.step (f := fun k => line_reader_param.j2 k (A.length : Int) false s ((A.length + p.f0.size : Nat) : Int) 0 p.f0) (fun k => by simp only [line_reader_param.j1]; rw [if_pos trivial, if_neg (by omega)]; unfold line_at.f; rw [Option.bind_some, hi]) ?_
  refine Ev.step (f := fun k => line_reader_param.j3 k (A.length : Int) s ((A.length + p.f0.size : Nat) : Int) 0 p.f0) (fun k => by simp only [line_reader_param.j2]; rfl) ?_
  exact Ev.step (f := fun k => line_reader_param.l0 k (A.length : Int) true s ((A.length + p.f0.size : Nat) : Int) 0 p.f0 []) (fun k => by simp only [line_reader_param.j3]) hL
theorem parseL (s : ByteArray) (R : List UInt8) (hs : s.size ≤ 2000) : ∀ (l acc : List LP) (A : List UInt8), s.data.toList = A ++ (parsT l ++ 58 :: R) → okPs acc l = true → acc.length + l.length ≤ 60 →
    Ev (fun k => line_Parse.l0 k s (A.length : Int) 0 acc) (acc ++ l, s, ((A.length + (parsT l).length : Nat) : Int), 0)
  | [], acc, A, h, hok, hl => by
    have hP := peekF s A R 58 (by rw [h]; rfl)
    refine Ev.step (f := fun _ => some (acc ++ [], s, ((A.length + (parsT []).length : Nat) : Int), 0)) (fun k => ?_) (Ev.now _)
    simp only [line_Parse.l0]
    rw [hP, List.append_nil]; rfl
  | p :: t, acc, A, h, hok, hl => by
    rw [okPs, Bool.and_eq_true, Bool.and_eq_true] at hok
    obtain ⟨h1, h2, h3⟩ := hok
    have h2 : acc.any (hasN p.f0) = false := by simpa using h2
    simp only [List.length_cons] at hl
    have e2 : p.f0.data.toList.length = p.f0.size := by simp
    have ep : parsT (p :: t) = 59 :: (p.f0.data.toList ++ (valsT p.f1 61 ++ parsT t)) := by rw [parsT]; simp
    rw [ep] at h ⊢
    have hz := szF h
    simp only [List.length_append, List.length_cons] at hz
    have hP := peekF s A (p.f0.data.toList ++ (valsT p.f1 61 ++ parsT t) ++ 58 :: R) 59 (by rw [h]; simp)
    obtain ⟨d, R', hd, hd1, hd2, hd3⟩ : ∃ d R', parsT t ++ 58 :: R = d :: R' ∧ plainV d = false ∧ d ≠ 34 ∧ d ≠ 44 := by
      cases t with
      | nil => exact ⟨58, R, rfl, by decide, by decide, by decide⟩
      | cons y u => exact ⟨59, _, by rw [parsT]; rfl, by decide, by decide, by decide⟩
    have hF := paramF s p acc (A ++ [59]) R' d (by rw [h, ← hd]; simp) h1 (by omega) h2 hd1 hd2 hd3 hs
    have e1 : (A ++ [59]).length = A.length + 1 := by simp
    rw [e1] at hF
    have ih := parseL s R hs t (acc ++ [p]) (A ++ 59 :: (p.f0.data.toList ++ valsT p.f1 61)) (by rw [h]; simp) h3 (by simp; omega)
    have e3 : (A ++ 59 :: (p.f0.data.toList ++ valsT p.f1 61)).length = A.length + 1 + (p.f0.size + (valsT p.f1 61).length) := by simp; omega
    have e4 : A.length + 1 + (p.f0.size + (valsT p.f1 61).length) + (parsT t).length = A.length + (59 :: (p.f0.data.toList ++ (valsT p.f1 61 ++ parsT t))).length := by simp; omega
    rw [e3, e4, List.append_assoc] at ih
    refine Ev.step (f := fun k => (line_reader_param.f k s ((A.length + 1 : Nat) : Int) 0 acc).bind fun q => line_Parse.l0 k q.2.2.1 q.2.2.2.1 q.2.2.2.2 (acc ++ [⟨q.1, q.2.1⟩])) (fun k => ?_) (Ev.bind hF ih)
    simp only [line_Parse.l0]
    rw [hP, Option.bind_some, if_pos (show (((59 : UInt8).toNat : Nat) : Int) = 59 from rfl), if_pos ⟨by omega, by omega⟩]; rfl
theorem parse_line (nm v : ByteArray) (l : List LP) (hf : formR nm l v = true) (hlen : (lineT nm l v).length ≤ 2000) : Ev (fun k => line_Parse.f k ⟨(lineT nm l v).toArray⟩) (nm, l, v, 0, 0) := by
  obtain ⟨h1, h2, h3, h4⟩ := formR_of hf
  have hv := line_valid hf
  obtain ⟨s, hs⟩ : ∃ s : ByteArray, s = ⟨(lineT nm l v).toArray⟩ := ⟨_, rfl⟩
  have hd : s.data.toList = lineT nm l v := by rw [hs]
  rw [← hs]
  clear hs
  have hz := szF hd
  rw [← hd] at hv
  unfold lineT at hd
  obtain ⟨c, R, hc, hc1⟩ : ∃ c R, parsT l ++ 58 :: v.data.toList = c :: R ∧ signS c = false := by
    cases l with
    | nil => exact ⟨58, _, rfl, sign_58⟩
    | cons y u => exact ⟨59, _, by rw [parsT]; rfl, sign_59⟩
  have e2 : nm.data.toList.length = nm.size := by simp
  have hN := nameF s nm [] R c (by rw [hd, List.append_assoc, hc]; rfl) h1 hc1 (by omega)
  have hL := parseL s v.data.toList (by omega) l [] nm.data.toList (by rw [hd, List.append_assoc]) h4 (by simpa using h2)
  rw [List.nil_append, e2] at hL
  have hP := peekF s (nm.data.toList ++ parsT l) v.data.toList 58 hd
  have hz2 := szF hd
  have e3 : (nm.data.toList ++ parsT l).length = nm.size + (parsT l).length := by rw [List.length_append, e2]
  rw [e3] at hP
  rw [List.length_append, e3, List.length_cons] at hz2
  have hx : s.extract (nm.size + (parsT l).length + 1) s.size = v := by
    apply ba_ext
    have e4 : s.size = nm.size + (parsT l).length + 1 + v.data.toList.length := by omega
    rw [e4, extF, hd]
    have e5 : (nm.data.toList ++ parsT l ++ 58 :: v.data.toList).drop (nm.size + (parsT l).length + 1) = v.data.toList := by
      rw [← e3]
      have : nm.data.toList ++ parsT l ++ 58 :: v.data.toList = (nm.data.toList ++ parsT l ++ [58]) ++ v.data.toList := by simp
      rw [this, List.drop_left' (by simp; omega)]
    rw [e5, List.take_of_length_le (Nat.le_refl _)]
  have hvs : v.size ≤ 2000 := by have : v.data.toList.length = v.size := by simp
                                 omega
  refine Ev.congr (f := fun k => (line_Parse.l0 k s ((nm.size : Nat) : Int) 0 []).bind fun q => line_Parse.g k s nm q.1 q.2.1 q.2.2.1 q.2.2.2) (fun k => ?_) (Ev.bind hL ?_)
  · unfold line_Parse.f utf8_ValidString.f
    rw [if_neg (by omega), if_pos (by omega), Option.bind_some, if_pos hv]
    have hN' : line_reader_name.f s 0 0 = some (nm, s, ((nm.size : Nat) : Int), 0) := by simpa using hN
    rw [hN']; rfl
  · refine Ev.congr (f := fun k => (escape_Clean.f k v false).bind fun z => if z = 0 then some (nm, l, v, 0, 0) else some (noLine (((nm.size + (parsT l).length : Nat) : Int) + 1) 7)) (fun k => ?_) ?_
    · show line_Parse.g k s nm l s ((nm.size + (parsT l).length : Nat) : Int) 0 = _
      unfold line_Parse.g
      rw [if_pos rfl, hP, Option.bind_some, if_pos (show (((58 : UInt8).toNat : Nat) : Int) = 58 from rfl), if_pos ⟨by omega, by omega⟩, Int.toNat_natCast, hx]
    · refine Ev.bind (escClean v false (by omega)) ?_
      rw [h3]; exact Ev.now _
end Go.Proofs.YtknmbalhbecdhaaGreatDoor.Pure
end
section
namespace Go.Proofs.YtknmbalhbecdhaaGreatDoor.Print
open Go.RowKit Go.Proofs.YtknmbalhbecdhaaGreatDoorW.PrintWords Go.Proofs.YtknmbalhbecdhaaGreatDoorW.PrintLast Go.Proofs.YtknmbalhbecdhaaGreatDoorW.PrintMore
attribute [local go_sem] max2_int min2_int max_two min_two max_three min_three max_four min_four   -- for this text's walks alone
set_option linter.unusedVariables false
set_option linter.unusedSimpArgs false
def trystlaw10_LineBack.j0 : Nat → Bool → ByteArray → List (S44) → ByteArray → Option (Bool)
  | 0, _, _, _, _ => none
  | k + 1, x14, x201000, x201001, x201002 => if x14 = true then ((trystlaw10_awake.f k).bind fun t203 => (some t203)) else ((trystlaw10_Theirs.f k x201000 x201001 x201002).bind fun bt204 => ((line_Print.f k bt204.1 bt204.2.1 bt204.2.2).bind fun bt209 => (if bt209.2 = 0 then ((line_Parse.f k bt209.1).bind fun bt211 => (if bt211.2.2.2.2 = 0 then (if bt211.2.2.2.1 = 0 then ((trystlaw10_Ours.f k bt211.1 bt211.2.1 bt211.2.2.1).bind fun bt219 => ((trystlaw10_Same.f k bt219.1 bt219.2.1 bt219.2.2 x201000 x201001 x201002).bind fun t224 => (some t224))) else (some false)) else (some false))) else (some (bt209.1.toList == ([] : List UInt8))))))
def trystlaw10_LineBack.f (k : Nat) (a0_0 : ByteArray) (l0_1 : List (S44)) (a0_2 : ByteArray) : Option (Bool) := (trystlaw10_awake.f k).bind fun t201 => (if t201 = true then ((trystlaw10_Few.f k a0_0 l0_1 a0_2).bind fun t202 => (trystlaw10_LineBack.j0 k (!t202) a0_0 l0_1 a0_2)) else (trystlaw10_LineBack.j0 k true a0_0 l0_1 a0_2))
def trystlaw10_LineBack.T7 : Bool × List (List Nat × List Nat) := (true, [([], []), ([0], [0]), ([1], [1]), ([2], [2]), ([3, 2], [2, 3]), ([2, 4], [2, 4]), ([5, 2], [5]), ([6], [6]), ([7, 6, 6], [6, 7]), ([6], [6]), ([8, 9, 8, 6], [6, 8, 9]), ([6, 10], [6, 10]), ([11, 10, 0, 1, 2, 3, 4, 5, 6, 7, 8, 9, 10, 11], [11])])
def trystlaw10_LineBack.B7 : List Nat := [0, 1, 3, 7, 15, 31, 63, 127, 255, 127, 1023, 2047, 4095]
theorem trystlaw10_LineBack.tab7 : rtab .any (opsOf Tryz.f4 7) = trystlaw10_LineBack.T7 := by kernel_rfl
theorem trystlaw10_LineBack.bits7 : waitsOk trystlaw10_LineBack.T7.2 trystlaw10_LineBack.B7 = true := by kernel_rfl
set_option maxHeartbeats 8000000 in
set_option maxRecDepth 100000 in
theorem trystlaw10_LineBack.calls (k : Nat) (a0_0 : ByteArray) (A0_1 : Option Addr) (c0_1 : Nat) (l0_1 : List (S44)) (a0_2 : ByteArray) (r : Bool) (w : World) (hG : GG w) (hr0_1 : Kd.C k44 w A0_1 l0_1.length l0_1) (hc0_1 : l0_1.length ≤ c0_1) (h : trystlaw10_LineBack.f k a0_0 l0_1 a0_2 = some r) :
    Calls Tryz.prog 4 #[.agg #[.string a0_0, .slice A0_1 l0_1.length c0_1, .string a0_2]] w fun e w' => e = .returned (.bool r) ∧ Below w.heap.size w w' := by
  have hu24 := Tryz.underlying24
  have hu32 := Tryz.underlying32
  have HR0_1 := Aside0.mk hr0_1
  have HC0_1 := Aside0.mk hc0_1
  clear hr0_1 hc0_1
  have HB := Aside0.mk (Below.refl w.heap.size w)
  have H : ((trystlaw10_awake.f k).bind fun t201 => (if t201 = true then ((trystlaw10_Few.f k a0_0 l0_1 a0_2).bind fun t202 => (trystlaw10_LineBack.j0 k (!t202) a0_0 l0_1 a0_2)) else (trystlaw10_LineBack.j0 k true a0_0 l0_1 a0_2))) = some r := h
  clear h
  have HC2 := Aside0.mk H
  clear H
  go_enter Tryz.func4, Tryz.ntmps4
  go_upto_region 1 with (first | ((with_reducible refine gate_dst (N := 1) rfl ?_); refine box_event ?hg (N := 1) ?hd (cs := #[.string a0_0, .slice A0_1 l0_1.length c0_1, .string a0_2]) (t := 24) ?hr ?_; (case hd => rfl); (case hg => rfl); (case hr => first | (go_simp; done) | (go_simp; rfl)); intro gb200 hg w3 hbox hb; have n0_ := Aside0.mk (below_step (by repeat (first | (with_reducible first | exact HB.out | apply below_alloc | apply pw_below_drewN | apply below_drew1) | exact HB.out)) hb); have n1_ := Aside0.mk (hbox); have n2_ := Aside0.mk ((by rw [hg]; exact (below_size (by repeat (first | (with_reducible first | exact HB.out | apply below_alloc | apply pw_below_drewN | apply below_drew1) | exact HB.out))) : w.heap.size ≤ gb200)); have n3_ := Aside0.mk ((by rw [hg]; exact (below_size (by repeat (first | (with_reducible first | exact HB.out | apply below_alloc | apply pw_below_drewN | apply below_drew1) | exact HB.out))) : w.heap.size ≤ gb200)); clear HB; have HB := n0_; have BK200 := n1_; have GW200 := n2_; have GE200 := n3_; clear n0_ n1_ n2_ n3_; clear hb hbox hg))
  (try simp only [Act.put, List.setIfInBounds_toArray, List.set_cons_zero, List.set_cons_succ])
  go_cut [14] (fun v14 wc => ∃ (kq : Nat) (x14_1 : Bool), v14 = .bool x14_1 ∧ Aside0 (trystlaw10_LineBack.j0 kq x14_1 a0_0 l0_1 a0_2 = some r) ∧ Aside0 (kq ≤ k) ∧ Aside0 (wc.heap[gb200]? = some (.cells #[.string a0_0, (.slice A0_1 l0_1.length c0_1), .string a0_2] 24 (0, 0))) ∧ Aside0 (Below w.heap.size w wc))
  case first =>
    have H := HC2.out
    clear HC2
    replace H := Option.bind_eq_some_iff.mp H
    obtain ⟨t201, A40, H⟩ := H
    replace H : (if t201 = true then ((trystlaw10_Few.f k a0_0 l0_1 a0_2).bind fun t202 => (trystlaw10_LineBack.j0 k (!t202) a0_0 l0_1 a0_2)) else (trystlaw10_LineBack.j0 k true a0_0 l0_1 a0_2)) = some r := H
    have A4 := Aside0.mk A40
    clear A40
    by_cases c5 : t201 = true
    · subst c5
      have H1 : ((trystlaw10_Few.f k a0_0 l0_1 a0_2).bind fun t202 => (trystlaw10_LineBack.j0 k (!t202) a0_0 l0_1 a0_2)) = some r := by rw [if_pos rfl] at H; exact H
      clear H
      have H := H1
      clear H1
      replace H := Option.bind_eq_some_iff.mp H
      obtain ⟨t202, A60, H⟩ := H
      replace H : (trystlaw10_LineBack.j0 k (!t202) a0_0 l0_1 a0_2) = some r := H
      have A6 := Aside0.mk A60
      clear A60
      have H' := Aside0.mk H
      clear H
      go_wp2_with (first | ((with_reducible refine gate_callee (f := 6) rfl ?_); refine goesL_ (some 8) rfl rfl Tryz.func6 (by kernel_rfl) rfl #[] rfl (by (try simp only [List.map_toArray, List.map_cons, List.map_nil]); first | done | rfl | (simp only [List.length_drop, List.length_take]; rfl)) ?_; (with_reducible refine (trystlaw10_awake.calls k  true _ (by first | (with_reducible exact hG) | exact GG.below hG (by repeat (first | (with_reducible first | exact HB.out | apply below_alloc | apply pw_below_drewN | apply below_drew1 | refine below_set ?_ GE200.out) | exact HB.out))) A4.out).mono ?_); rintro e w7 ⟨rfl, hb⟩; refine ⟨_, rfl, ?_⟩; have n0_ := Aside0.mk (blk_below (g := gb200) (o := .cells #[.string a0_0, .slice A0_1 l0_1.length c0_1, .string a0_2] 24 (0, 0)) (by (with_reducible repeat (first | refine blk_drewN ?_ _ | refine blk_drew ?_ | refine blk_alloc ?_ _)); exact BK200.out) hb); have n1_ := Aside0.mk (below_step (by repeat (first | (with_reducible first | exact HB.out | apply below_alloc | apply pw_below_drewN | apply below_drew1 | refine below_set ?_ GE200.out) | exact HB.out)) hb); clear BK200; clear HB; have BK200 := n0_; have HB := n1_; clear n0_ n1_; (try clear hb); (try clear hb2); (try clear hk); (try clear hi); have hcz8_0 : w7.cell? ⟨gb200, 0, none⟩ = some (.string a0_0) := (blk_cell BK200.out 0).trans rfl; have hcz8_1 : w7.cell? ⟨gb200, 1, none⟩ = some (.slice A0_1 l0_1.length c0_1) := (blk_cell BK200.out 1).trans rfl; have hcz8_2 : w7.cell? ⟨gb200, 2, none⟩ = some (.string a0_2) := (blk_cell BK200.out 2).trans rfl; have hfz8_0 := blk_frozen BK200.out 0; have hfz8_1 := blk_frozen BK200.out 1; have hfz8_2 := blk_frozen BK200.out 2) | (go_at_call 7; (with_reducible refine (trystlaw10_Few.calls k a0_0 _ _ l0_1 a0_2 t202 _ (by first | (with_reducible exact hG) | exact GG.below hG (by repeat (first | (with_reducible first | exact HB.out | apply below_alloc | apply pw_below_drewN | apply below_drew1 | refine below_set ?_ GE200.out) | exact HB.out))) ?side1 ?side2 A6.out).mono ?_); (case side1 => repeat (first | exact (Kd.C_below HR0_1.out HB.out) | (with_reducible refine Kd.C_alloc ?_ _) | (with_reducible refine Kd.C_drewN ?_ _) | (with_reducible refine Kd.C_drew ?_))); (case side2 => exact HC0_1.out); rintro e w9 ⟨rfl, hb⟩; have n0_ := Aside0.mk (blk_below (g := gb200) (o := .cells #[.string a0_0, .slice A0_1 l0_1.length c0_1, .string a0_2] 24 (0, 0)) (by (with_reducible repeat (first | refine blk_drewN ?_ _ | refine blk_drew ?_ | refine blk_alloc ?_ _)); exact BK200.out) hb); have n1_ := Aside0.mk (below_step (by repeat (first | (with_reducible first | exact HB.out | apply below_alloc | apply pw_below_drewN | apply below_drew1 | refine below_set ?_ GE200.out) | exact HB.out)) hb); clear BK200; clear HB; have BK200 := n0_; have HB := n1_; clear n0_ n1_; (try clear hb); (try clear hb2); (try clear hk); (try clear hi)))
      go_meet
      case rel => exact ⟨_, (!t202), (by first | rfl | (simp; done) | (simp [bne_nil_isEmpty, beq_nil_isEmpty]; done) | (simp [*]; done)), H', ⟨by first | omega | exact Nat.le_refl _⟩, ⟨by (with_reducible repeat (first | refine blk_drewN ?_ _ | refine blk_drew ?_ | refine blk_alloc ?_ _)); exact BK200.out⟩, ⟨by repeat (first | (with_reducible first | exact HB.out | apply below_alloc | apply pw_below_drewN | apply below_drew1 | refine below_set ?_ GE200.out) | exact HB.out)⟩⟩
    · replace c5 := Bool.eq_false_iff.mpr c5
      subst c5
      have H1 : (trystlaw10_LineBack.j0 k true a0_0 l0_1 a0_2) = some r := by rw [if_neg (show ¬ (false = true) by decide)] at H; exact H
      clear H
      have H := H1
      clear H1
      have H' := Aside0.mk H
      clear H
      go_wp2_with (first | ((with_reducible refine gate_callee (f := 6) rfl ?_); refine goesL_ (some 8) rfl rfl Tryz.func6 (by kernel_rfl) rfl #[] rfl (by (try simp only [List.map_toArray, List.map_cons, List.map_nil]); first | done | rfl | (simp only [List.length_drop, List.length_take]; rfl)) ?_; (with_reducible refine (trystlaw10_awake.calls k  false _ (by first | (with_reducible exact hG) | exact GG.below hG (by repeat (first | (with_reducible first | exact HB.out | apply below_alloc | apply pw_below_drewN | apply below_drew1 | refine below_set ?_ GE200.out) | exact HB.out))) A4.out).mono ?_); rintro e w10 ⟨rfl, hb⟩; refine ⟨_, rfl, ?_⟩; have n0_ := Aside0.mk (blk_below (g := gb200) (o := .cells #[.string a0_0, .slice A0_1 l0_1.length c0_1, .string a0_2] 24 (0, 0)) (by (with_reducible repeat (first | refine blk_drewN ?_ _ | refine blk_drew ?_ | refine blk_alloc ?_ _)); exact BK200.out) hb); have n1_ := Aside0.mk (below_step (by repeat (first | (with_reducible first | exact HB.out | apply below_alloc | apply pw_below_drewN | apply below_drew1 | refine below_set ?_ GE200.out) | exact HB.out)) hb); clear BK200; clear HB; have BK200 := n0_; have HB := n1_; clear n0_ n1_; (try clear hb); (try clear hb2); (try clear hk); (try clear hi)))
      go_meet
      case rel => exact ⟨_, (true), (by first | rfl | (simp; done) | (simp [bne_nil_isEmpty, beq_nil_isEmpty]; done) | (simp [*]; done)), H', ⟨by first | omega | exact Nat.le_refl _⟩, ⟨by (with_reducible repeat (first | refine blk_drewN ?_ _ | refine blk_drew ?_ | refine blk_alloc ?_ _)); exact BK200.out⟩, ⟨by repeat (first | (with_reducible first | exact HB.out | apply below_alloc | apply pw_below_drewN | apply below_drew1 | refine below_set ?_ GE200.out) | exact HB.out)⟩⟩
  case rest =>
    clear HC2
    try clear p2
    try clear c4
    try clear c5
    try clear c6
    try clear hcz8_0
    try clear hcz8_1
    try clear hcz8_2
    try clear hfz8_0
    try clear hfz8_1
    try clear hfz8_2
    obtain ⟨kq, x14_1, rfl, HA, HJ1, BK200, HB⟩ := hcut
    cases kq with
    | zero => exact absurd HA.out (by simp [trystlaw10_LineBack.j0])
    | succ kj1 =>
      have H := HA.out
      clear HA
      simp only [trystlaw10_LineBack.j0] at H
      by_cases c11 : x14_1 = true
      · subst c11
        have H1 : ((trystlaw10_awake.f kj1).bind fun t203 => (some t203)) = some r := by rw [if_pos rfl] at H; exact H
        clear H
        have H := H1
        clear H1
        replace H := Option.bind_eq_some_iff.mp H
        obtain ⟨t203, A120, H⟩ := H
        replace H : (some t203) = some r := H
        have A12 := Aside0.mk A120
        clear A120
        obtain rfl := Option.some.inj H
        go_wp2_with (first | ((with_reducible refine gate_callee (f := 6) rfl ?_); refine goesL_ (some 15) rfl rfl Tryz.func6 (by kernel_rfl) rfl #[] rfl (by (try simp only [List.map_toArray, List.map_cons, List.map_nil]); first | done | rfl | (simp only [List.length_drop, List.length_take]; rfl)) ?_; (with_reducible refine (trystlaw10_awake.calls kj1  t203 _ (by first | (with_reducible exact hG) | exact GG.below hG (by repeat (first | (with_reducible first | exact HB.out | apply below_alloc | apply pw_below_drewN | apply below_drew1 | refine below_set ?_ GE200.out) | exact HB.out))) A12.out).mono ?_); rintro e w13 ⟨rfl, hb⟩; refine ⟨_, rfl, ?_⟩; have n0_ := Aside0.mk (blk_below (g := gb200) (o := .cells #[.string a0_0, .slice A0_1 l0_1.length c0_1, .string a0_2] 24 (0, 0)) (by (with_reducible repeat (first | refine blk_drewN ?_ _ | refine blk_drew ?_ | refine blk_alloc ?_ _)); exact BK200.out) hb); have n1_ := Aside0.mk (below_step (by repeat (first | (with_reducible first | exact HB.out | apply below_alloc | apply pw_below_drewN | apply below_drew1 | refine below_set ?_ GE200.out) | exact HB.out)) hb); clear BK200; clear HB; have BK200 := n0_; have HB := n1_; clear n0_ n1_; (try clear hb); (try clear hb2); (try clear hk); (try clear hi)))
        go_ret
        exact ⟨by first | rfl | (simp [errW_none, errW_some] <;> rfl) | (simp [*, errW_none, errW_some] <;> rfl), by repeat (first | (with_reducible first | exact HB.out | apply below_alloc | apply pw_below_drewN | apply below_drew1 | refine below_set ?_ GE200.out) | exact HB.out)⟩
      · replace c11 := Bool.eq_false_iff.mpr c11
        subst c11
        have H1 : ((trystlaw10_Theirs.f kj1 a0_0 l0_1 a0_2).bind fun bt204 => ((line_Print.f kj1 bt204.1 bt204.2.1 bt204.2.2).bind fun bt209 => (if bt209.2 = 0 then ((line_Parse.f kj1 bt209.1).bind fun bt211 => (if bt211.2.2.2.2 = 0 then (if bt211.2.2.2.1 = 0 then ((trystlaw10_Ours.f kj1 bt211.1 bt211.2.1 bt211.2.2.1).bind fun bt219 => ((trystlaw10_Same.f kj1 bt219.1 bt219.2.1 bt219.2.2 a0_0 l0_1 a0_2).bind fun t224 => (some t224))) else (some false)) else (some false))) else (some (bt209.1.toList == ([] : List UInt8)))))) = some r := by rw [if_neg (show ¬ (false = true) by decide)] at H; exact H
        clear H
        have H := H1
        clear H1
        replace H := Option.bind_eq_some_iff.mp H
        obtain ⟨⟨t204, t205, t208⟩, A140, H⟩ := H
        replace H : ((line_Print.f kj1 t204 t205 t208).bind fun bt209 => (if bt209.2 = 0 then ((line_Parse.f kj1 bt209.1).bind fun bt211 => (if bt211.2.2.2.2 = 0 then (if bt211.2.2.2.1 = 0 then ((trystlaw10_Ours.f kj1 bt211.1 bt211.2.1 bt211.2.2.1).bind fun bt219 => ((trystlaw10_Same.f kj1 bt219.1 bt219.2.1 bt219.2.2 a0_0 l0_1 a0_2).bind fun t224 => (some t224))) else (some false)) else (some false))) else (some (bt209.1.toList == ([] : List UInt8))))) = some r := H
        have A14 := Aside0.mk A140
        clear A140
        replace H := Option.bind_eq_some_iff.mp H
        obtain ⟨⟨t209, t210⟩, A150, H⟩ := H
        replace H : (if t210 = 0 then ((line_Parse.f kj1 t209).bind fun bt211 => (if bt211.2.2.2.2 = 0 then (if bt211.2.2.2.1 = 0 then ((trystlaw10_Ours.f kj1 bt211.1 bt211.2.1 bt211.2.2.1).bind fun bt219 => ((trystlaw10_Same.f kj1 bt219.1 bt219.2.1 bt219.2.2 a0_0 l0_1 a0_2).bind fun t224 => (some t224))) else (some false)) else (some false))) else (some (t209.toList == ([] : List UInt8)))) = some r := H
        have A15 := Aside0.mk A150
        clear A150
        by_cases c16 : t210 = 0
        · rw [if_pos c16] at H
          have c16b0 : (t210 == 0) = true := beq_iff_eq.mpr c16
          have c16b1 : (t210 != 0) = false := bne_eq_false_iff_eq.mpr c16
          clear c16
          replace H := Option.bind_eq_some_iff.mp H
          obtain ⟨⟨t211, t212, t215, t216, t217⟩, A170, H⟩ := H
          replace H : (if t217 = 0 then (if t216 = 0 then ((trystlaw10_Ours.f kj1 t211 t212 t215).bind fun bt219 => ((trystlaw10_Same.f kj1 bt219.1 bt219.2.1 bt219.2.2 a0_0 l0_1 a0_2).bind fun t224 => (some t224))) else (some false)) else (some false)) = some r := H
          have A17 := Aside0.mk A170
          clear A170
          by_cases c18 : t217 = 0
          · rw [if_pos c18] at H
            have c18b0 : (t217 == 0) = true := beq_iff_eq.mpr c18
            have c18b1 : (t217 != 0) = false := bne_eq_false_iff_eq.mpr c18
            clear c18
            by_cases c19 : t216 = 0
            · rw [if_pos c19] at H
              have c19b0 : (t216 == 0) = true := beq_iff_eq.mpr c19
              have c19b1 : (t216 != 0) = false := bne_eq_false_iff_eq.mpr c19
              clear c19
              replace H := Option.bind_eq_some_iff.mp H
              obtain ⟨⟨t219, t220, t223⟩, A200, H⟩ := H
              replace H : ((trystlaw10_Same.f kj1 t219 t220 t223 a0_0 l0_1 a0_2).bind fun t224 => (some t224)) = some r := H
              have A20 := Aside0.mk A200
              clear A200
              replace H := Option.bind_eq_some_iff.mp H
              obtain ⟨t224, A210, H⟩ := H
              replace H : (some t224) = some r := H
              have A21 := Aside0.mk A210
              clear A210
              obtain rfl := Option.some.inj H
              have hcz22_0 : wc.cell? ⟨gb200, 0, none⟩ = some (.string a0_0) := (blk_cell BK200.out 0).trans rfl
              have hcz22_1 : wc.cell? ⟨gb200, 1, none⟩ = some (.slice A0_1 l0_1.length c0_1) := (blk_cell BK200.out 1).trans rfl
              have hcz22_2 : wc.cell? ⟨gb200, 2, none⟩ = some (.string a0_2) := (blk_cell BK200.out 2).trans rfl
              have hfz22_0 := blk_frozen BK200.out 0
              have hfz22_1 := blk_frozen BK200.out 1
              have hfz22_2 := blk_frozen BK200.out 2
              try go_wp2_with (first | ((with_reducible refine gate_callee (f := 9) rfl ?_); refine goesL_ (some 18) rfl rfl Tryz.func9 (by kernel_rfl) rfl #[.agg #[.string a0_0, .slice A0_1 l0_1.length c0_1, .string a0_2]] rfl (by (try simp only [List.map_toArray, List.map_cons, List.map_nil]); first | done | rfl | (simp only [List.length_drop, List.length_take]; rfl)) ?_; (with_reducible refine (trystlaw10_Theirs.calls kj1 a0_0 _ _ l0_1 a0_2 t204 t205 t208 _ (by first | (with_reducible exact hG) | exact GG.below hG (by repeat (first | (with_reducible first | exact HB.out | apply below_alloc | apply pw_below_drewN | apply below_drew1 | refine below_set ?_ GE200.out) | exact HB.out))) ?side1 ?side2 A14.out).mono ?_); (case side1 => repeat (first | exact (Kd.C_below HR0_1.out HB.out) | (with_reducible refine Kd.C_alloc ?_ _) | (with_reducible refine Kd.C_drewN ?_ _) | (with_reducible refine Kd.C_drew ?_))); (case side2 => exact HC0_1.out); rintro e w23 ⟨v206, rfl, ho0, hb⟩; refine ⟨_, rfl, ?_⟩; have n0_ := Aside0.mk (Kd.N_lower (Kd.N_mono (ok' := fun k_ => k_ ≠ gb200) (Kd.S_N (Kd.S_bound ho0)) (fun k_ hk_ => (Kd.freshB (g := gb200) (o := .cells #[.string a0_0, .slice A0_1 l0_1.length c0_1, .string a0_2] 24 (0, 0)) (by (with_reducible repeat (first | refine blk_drewN ?_ _ | refine blk_drew ?_ | refine blk_alloc ?_ _)); exact BK200.out) k_ hk_.2.1))) (below_size (by repeat (first | (with_reducible first | exact HB.out | apply below_alloc | apply pw_below_drewN | apply below_drew1 | refine below_set ?_ GE200.out) | exact HB.out)))); have n1_ := Aside0.mk (blk_below (g := gb200) (o := .cells #[.string a0_0, .slice A0_1 l0_1.length c0_1, .string a0_2] 24 (0, 0)) (by (with_reducible repeat (first | refine blk_drewN ?_ _ | refine blk_drew ?_ | refine blk_alloc ?_ _)); exact BK200.out) hb); have n2_ := Aside0.mk (below_step (by repeat (first | (with_reducible first | exact HB.out | apply below_alloc | apply pw_below_drewN | apply below_drew1 | refine below_set ?_ GE200.out) | exact HB.out)) hb); clear BK200; clear HB; have HO207 := n0_; have BK200 := n1_; have HB := n2_; clear n0_ n1_ n2_; (try clear hb); (try clear hb2); (try clear hk); (try clear hi); (try clear ho0); obtain ⟨Ao24, co24, eo24⟩ := Kd.N_slice HO207.out; subst eo24) | ((with_reducible refine gate_callee (f := 8) rfl ?_); refine goesL_ (some 19) rfl rfl Tryz.func8 (by kernel_rfl) rfl #[.agg #[.string t204, .slice Ao24 t205.length co24, .string t208]] rfl (by (try simp only [List.map_toArray, List.map_cons, List.map_nil]); first | done | rfl | (simp only [List.length_drop, List.length_take]; rfl)) ?_; (with_reducible refine (line_Print.calls kj1 t204 _ _ t205 t208 t209 t210 _ (by first | (with_reducible exact hG) | exact GG.below hG (by repeat (first | (with_reducible first | exact HB.out | apply below_alloc | apply pw_below_drewN | apply below_drew1 | refine below_set ?_ GE200.out) | exact HB.out))) ?side1 ?side2 A15.out).mono ?_); (case side1 => repeat (first | exact (Kd.N_reads' HO207.out).2.2 | (with_reducible refine Kd.C_alloc ?_ _) | (with_reducible refine Kd.C_drewN ?_ _) | (with_reducible refine Kd.C_drew ?_))); (case side2 => exact (Kd.N_reads' HO207.out).2.1); rintro e w25 ⟨rfl, hb⟩; refine ⟨_, rfl, ?_⟩; have n0_ := Aside0.mk (Kd.N_below (by (with_reducible repeat (first | apply Kd.N_alloc | apply Kd.N_drewN | apply Kd.N_drew)); exact HO207.out) hb); have n1_ := Aside0.mk (blk_below (g := gb200) (o := .cells #[.string a0_0, .slice A0_1 l0_1.length c0_1, .string a0_2] 24 (0, 0)) (by (with_reducible repeat (first | refine blk_drewN ?_ _ | refine blk_drew ?_ | refine blk_alloc ?_ _)); exact BK200.out) hb); have n2_ := Aside0.mk (below_step (by repeat (first | (with_reducible first | exact HB.out | apply below_alloc | apply pw_below_drewN | apply below_drew1 | refine below_set ?_ GE200.out) | exact HB.out)) hb); clear HO207; clear BK200; clear HB; have HO207 := n0_; have BK200 := n1_; have HB := n2_; clear n0_ n1_ n2_; (try clear hb); (try clear hb2); (try clear hk); (try clear hi)) | ((with_reducible refine gate_callee (f := 15) rfl ?_); refine goesL_ (some 28) rfl rfl Tryz.func15 (by kernel_rfl) rfl #[.string t209] rfl (by (try simp only [List.map_toArray, List.map_cons, List.map_nil]); first | done | rfl | (simp only [List.length_drop, List.length_take]; rfl)) ?_; (with_reducible refine (line_Parse.calls kj1 t209 t211 t212 t215 t216 t217 _ (by first | (with_reducible exact hG) | exact GG.below hG (by repeat (first | (with_reducible first | exact HB.out | apply below_alloc | apply pw_below_drewN | apply below_drew1 | refine below_set ?_ GE200.out) | exact HB.out))) A17.out).mono ?_); rintro e w26 ⟨v213, rfl, ho0, hb⟩; refine ⟨_, rfl, ?_⟩; have n0_ := Aside0.mk (Kd.N_elder' (by (with_reducible repeat (first | apply Kd.N_alloc | apply Kd.N_drewN | apply Kd.N_drew)); exact HO207.out) (Kd.N_base (Kd.S_N (Kd.S_bound ho0))) hb); have n1_ := Aside0.mk (Kd.N_lower (Kd.N_mono (ok' := fun k_ => some k_ ≠ (.slice Ao24 t205.length co24 : Value).ownBlock ∧ k_ ≠ gb200) (Kd.S_N (Kd.S_bound ho0)) (fun k_ hk_ => ⟨(Kd.fresh' (Kd.N_lt (by (with_reducible repeat (first | apply Kd.N_alloc | apply Kd.N_drewN | apply Kd.N_drew)); exact HO207.out)) k_ hk_.2.1), (Kd.freshB (g := gb200) (o := .cells #[.string a0_0, .slice A0_1 l0_1.length c0_1, .string a0_2] 24 (0, 0)) (by (with_reducible repeat (first | refine blk_drewN ?_ _ | refine blk_drew ?_ | refine blk_alloc ?_ _)); exact BK200.out) k_ hk_.2.1)⟩)) (below_size (by repeat (first | (with_reducible first | exact HB.out | apply below_alloc | apply pw_below_drewN | apply below_drew1 | refine below_set ?_ GE200.out) | exact HB.out)))); have n2_ := Aside0.mk (blk_below (g := gb200) (o := .cells #[.string a0_0, .slice A0_1 l0_1.length c0_1, .string a0_2] 24 (0, 0)) (by (with_reducible repeat (first | refine blk_drewN ?_ _ | refine blk_drew ?_ | refine blk_alloc ?_ _)); exact BK200.out) hb); have n3_ := Aside0.mk (below_step (by repeat (first | (with_reducible first | exact HB.out | apply below_alloc | apply pw_below_drewN | apply below_drew1 | refine below_set ?_ GE200.out) | exact HB.out)) hb); clear HO207; clear BK200; clear HB; have HO207 := n0_; have HO214 := n1_; have BK200 := n2_; have HB := n3_; clear n0_ n1_ n2_ n3_; (try clear hb); (try clear hb2); (try clear hk); (try clear hi); (try clear ho0)) | ((with_reducible refine gate_dst (N := 5) rfl ?_); refine box_event ?hg (N := 5) ?hd (cs := #[.string (⟨#[]⟩ : ByteArray), .slice none 0 0, .string (⟨#[]⟩ : ByteArray)]) (t := 32) ?hr ?_; (case hd => rfl); (case hg => rfl); (case hr => first | (go_simp; done) | (go_simp; rfl)); intro gb218 hg w27 hbox hb; have n0_ := Aside0.mk (Kd.N_below (Kd.N_elderB (by (with_reducible repeat (first | apply Kd.N_alloc | apply Kd.N_drewN | apply Kd.N_drew)); exact HO207.out) gb218 (Nat.le_of_eq hg.symm)) hb); have n1_ := Aside0.mk (Kd.N_below (Kd.N_elderB (by (with_reducible repeat (first | apply Kd.N_alloc | apply Kd.N_drewN | apply Kd.N_drew)); exact HO214.out) gb218 (Nat.le_of_eq hg.symm)) hb); have n2_ := Aside0.mk (blk_below (g := gb200) (o := .cells #[.string a0_0, .slice A0_1 l0_1.length c0_1, .string a0_2] 24 (0, 0)) (by (with_reducible repeat (first | refine blk_drewN ?_ _ | refine blk_drew ?_ | refine blk_alloc ?_ _)); exact BK200.out) hb); have n3_ := Aside0.mk (below_step (by repeat (first | (with_reducible first | exact HB.out | apply below_alloc | apply pw_below_drewN | apply below_drew1 | refine below_set ?_ GE200.out) | exact HB.out)) hb); have n4_ := Aside0.mk (hbox); have n5_ := Aside0.mk ((by rw [hg]; exact (below_size (by repeat (first | (with_reducible first | exact HB.out | apply below_alloc | apply pw_below_drewN | apply below_drew1 | refine below_set ?_ GE200.out) | exact HB.out))) : w.heap.size ≤ gb218)); have n6_ := Aside0.mk ((by rw [hg]; exact (below_size (by repeat (first | (with_reducible first | exact HB.out | apply below_alloc | apply pw_below_drewN | apply below_drew1 | refine below_set ?_ GE200.out) | exact HB.out))) : w.heap.size ≤ gb218)); have n7_ := Aside0.mk ((by rw [hg]; exact Nat.ne_of_lt (blk_lt (g := gb200) (o := .cells #[.string a0_0, .slice A0_1 l0_1.length c0_1, .string a0_2] 24 (0, 0)) (by (with_reducible repeat (first | refine blk_drewN ?_ _ | refine blk_drew ?_ | refine blk_alloc ?_ _)); exact BK200.out)) : gb200 ≠ gb218)); have n8_ := Aside0.mk ((by rw [hg]; exact Nat.ne_of_gt (blk_lt (g := gb200) (o := .cells #[.string a0_0, .slice A0_1 l0_1.length c0_1, .string a0_2] 24 (0, 0)) (by (with_reducible repeat (first | refine blk_drewN ?_ _ | refine blk_drew ?_ | refine blk_alloc ?_ _)); exact BK200.out)) : gb218 ≠ gb200)); clear HO207; clear HO214; clear BK200; clear HB; have HO207 := n0_; have HO214 := n1_; have BK200 := n2_; have HB := n3_; have BK218 := n4_; have GW218 := n5_; have GE218 := n6_; have NB200_218 := n7_; have NB218_200 := n8_; clear n0_ n1_ n2_ n3_ n4_ n5_ n6_ n7_ n8_; clear hb hbox hg; have hnb28 := NB218_200.out; have hnc28 := NB200_218.out; have hcz29_0 : w27.cell? ⟨gb218, 0, none⟩ = some (.string (⟨#[]⟩ : ByteArray)) := (blk_cell BK218.out 0).trans rfl; have hcz29_1 : w27.cell? ⟨gb218, 1, none⟩ = some (.slice none 0 0) := (blk_cell BK218.out 1).trans rfl; have hcz29_2 : w27.cell? ⟨gb218, 2, none⟩ = some (.string (⟨#[]⟩ : ByteArray)) := (blk_cell BK218.out 2).trans rfl; have hfz29_0 := blk_frozen BK218.out 0; have hfz29_1 := blk_frozen BK218.out 1; have hfz29_2 := blk_frozen BK218.out 2; obtain ⟨Ao30, co30, eo30⟩ := Kd.N_slice HO214.out; subst eo30))
              have n0_ : Aside0 (Kd.N k53 53 (((w27.setCell ⟨gb218, 0, none⟩ (.string t211)).setCell ⟨gb218, 1, none⟩ (.slice Ao30 t212.length co30)).setCell ⟨gb218, 2, none⟩ (.string t215)) w.heap.size (fun k_ => some k_ ≠ (.slice Ao30 t212.length co30 : Value).ownBlock ∧ k_ ≠ gb200 ∧ k_ ≠ gb218) (.slice Ao24 t205.length co24) t205) := ⟨by (with_reducible repeat (first | apply Kd.N_alloc | apply Kd.N_drewN | apply Kd.N_drew)); exact Kd.N_mono (Kd.N_far (p := ⟨gb218, 2, none⟩) (Kd.N_far (p := ⟨gb218, 1, none⟩) (Kd.N_far (p := ⟨gb218, 0, none⟩) (Kd.N_mono HO207.out (fun k_ hk => (⟨hk, hk.2⟩ : _ ∧ k_ ≠ gb218))) (fun _ hk => hk.2) (.string t211)) (fun _ hk => hk.2) (.slice Ao30 t212.length co30)) (fun _ hk => hk.2) (.string t215)) (fun _ hk => ⟨hk.1.1.2, ⟨hk.1.1.1, hk.1.2⟩⟩)⟩
              have n1_ : Aside0 (Kd.N k53 53 (((w27.setCell ⟨gb218, 0, none⟩ (.string t211)).setCell ⟨gb218, 1, none⟩ (.slice Ao30 t212.length co30)).setCell ⟨gb218, 2, none⟩ (.string t215)) w.heap.size (fun k_ => some k_ ≠ (.slice Ao24 t205.length co24 : Value).ownBlock ∧ k_ ≠ gb200 ∧ k_ ≠ gb218) (.slice Ao30 t212.length co30) t212) := ⟨by (with_reducible repeat (first | apply Kd.N_alloc | apply Kd.N_drewN | apply Kd.N_drew)); exact Kd.N_mono (Kd.N_far (p := ⟨gb218, 2, none⟩) (Kd.N_far (p := ⟨gb218, 1, none⟩) (Kd.N_far (p := ⟨gb218, 0, none⟩) (Kd.N_mono HO214.out (fun k_ hk => (⟨hk, hk.2⟩ : _ ∧ k_ ≠ gb218))) (fun _ hk => hk.2) (.string t211)) (fun _ hk => hk.2) (.slice Ao30 t212.length co30)) (fun _ hk => hk.2) (.string t215)) (fun _ hk => ⟨hk.1.1.1, ⟨hk.1.1.2, hk.1.2⟩⟩)⟩
              have n2_ : Aside0 ((((w27.setCell ⟨gb218, 0, none⟩ (.string t211)).setCell ⟨gb218, 1, none⟩ (.slice Ao30 t212.length co30)).setCell ⟨gb218, 2, none⟩ (.string t215)).heap[gb200]? = some (.cells #[.string a0_0, .slice A0_1 l0_1.length c0_1, .string a0_2] 24 (0, 0))) := ⟨by (with_reducible repeat (first | refine blk_drewN ?_ _ | refine blk_drew ?_ | refine blk_alloc ?_ _)); refine blk_far ?_ NB200_218.out _; (with_reducible repeat (first | refine blk_drewN ?_ _ | refine blk_drew ?_ | refine blk_alloc ?_ _)); refine blk_far ?_ NB200_218.out _; (with_reducible repeat (first | refine blk_drewN ?_ _ | refine blk_drew ?_ | refine blk_alloc ?_ _)); refine blk_far ?_ NB200_218.out _; (with_reducible repeat (first | refine blk_drewN ?_ _ | refine blk_drew ?_ | refine blk_alloc ?_ _)); exact BK200.out⟩
              have n3_ : Aside0 ((((w27.setCell ⟨gb218, 0, none⟩ (.string t211)).setCell ⟨gb218, 1, none⟩ (.slice Ao30 t212.length co30)).setCell ⟨gb218, 2, none⟩ (.string t215)).heap[gb218]? = some (.cells #[.string t211, .slice Ao30 t212.length co30, .string t215] 32 (0, 0))) := ⟨by (with_reducible repeat (first | refine blk_drewN ?_ _ | refine blk_drew ?_ | refine blk_alloc ?_ _)); refine blk_put (cs := #[.string t211, .slice Ao30 t212.length co30, .string (⟨#[]⟩ : ByteArray)]) ?_ 2 _ rfl; (with_reducible repeat (first | refine blk_drewN ?_ _ | refine blk_drew ?_ | refine blk_alloc ?_ _)); refine blk_put (cs := #[.string t211, .slice none 0 0, .string (⟨#[]⟩ : ByteArray)]) ?_ 1 _ rfl; (with_reducible repeat (first | refine blk_drewN ?_ _ | refine blk_drew ?_ | refine blk_alloc ?_ _)); refine blk_put (cs := #[.string (⟨#[]⟩ : ByteArray), .slice none 0 0, .string (⟨#[]⟩ : ByteArray)]) ?_ 0 _ rfl; (with_reducible repeat (first | refine blk_drewN ?_ _ | refine blk_drew ?_ | refine blk_alloc ?_ _)); exact BK218.out⟩
              have n4_ : Aside0 (Below w.heap.size w (((w27.setCell ⟨gb218, 0, none⟩ (.string t211)).setCell ⟨gb218, 1, none⟩ (.slice Ao30 t212.length co30)).setCell ⟨gb218, 2, none⟩ (.string t215))) := ⟨by repeat (first | (with_reducible first | exact HB.out | apply below_alloc | apply pw_below_drewN | apply below_drew1 | refine below_set ?_ GE200.out | refine below_set ?_ GE218.out) | exact HB.out)⟩
              (try clear HO207)
              (try clear HO214)
              (try clear BK200)
              (try clear BK218)
              (try clear HB)
              generalize (((w27.setCell ⟨gb218, 0, none⟩ (.string t211)).setCell ⟨gb218, 1, none⟩ (.slice Ao30 t212.length co30)).setCell ⟨gb218, 2, none⟩ (.string t215)) = w31 at n0_ n1_ n2_ n3_ n4_ ⊢
              have HO207 := n0_
              have HO214 := n1_
              have BK200 := n2_
              have BK218 := n3_
              have HB := n4_
              clear n0_ n1_ n2_ n3_ n4_
              have n0_ := Aside0.mk (Kd.N_drew HO207.out)
              have n1_ := Aside0.mk (Kd.N_drew HO214.out)
              have n2_ := Aside0.mk (blk_drew BK200.out)
              have n3_ := Aside0.mk (blk_drew BK218.out)
              have n4_ := Aside0.mk (below_drew1 HB.out)
              clear HO207
              clear HO214
              clear BK200
              clear BK218
              clear HB
              have HO207 := n0_
              have HO214 := n1_
              have BK200 := n2_
              have BK218 := n3_
              have HB := n4_
              clear n0_ n1_ n2_ n3_ n4_
              refine start_ (n := 13) (S := fun w' => w'.cell? ⟨gb218, 0, none⟩ = some (.string t211) ∧ w'.cell? ⟨gb218, 1, none⟩ = some (.slice Ao30 t212.length co30) ∧ w'.cell? ⟨gb218, 2, none⟩ = some (.string t215) ∧ w'.cell? ⟨gb200, 0, none⟩ = some (.string a0_0) ∧ w'.cell? ⟨gb200, 1, none⟩ = some (.slice A0_1 l0_1.length c0_1) ∧ w'.cell? ⟨gb200, 2, none⟩ = some (.string a0_2)) (ds := []) #[false, false, false, false, false, false, false, false, false, false, false, false, false] (by kernel_rfl) rfl rfl ⟨(blk_cell BK218.out 0).trans rfl, (blk_cell BK218.out 1).trans rfl, (blk_cell BK218.out 2).trans rfl, (blk_cell BK200.out 0).trans rfl, (blk_cell BK200.out 1).trans rfl, (blk_cell BK200.out 2).trans rfl⟩ (fun hHeld => ?_); refine with_tabW trystlaw10_LineBack.tab7 trystlaw10_LineBack.bits7 (fun HT_ HW_ => ?_)
              generalize w31.drew = w32 at HO207 HO214 BK200 BK218 HB hHeld ⊢
              refine pure_ (i := 0) (N := some 32) (v := ?_) (a' := ?_) #[true, false, false, false, false, false, false, false, false, false, false, false, false] rfl rfl (any_of HT_.out (by kernel_rfl)) (fun _ _ _ h => h) (Or.inl ⟨by rfl, ?_⟩) ?_ ?_
              rotate_left
              · intro w'
                go_simp
                with_reducible rfl
              rotate_left
              · simp only [Act.put, List.setIfInBounds_toArray, List.set_cons_zero, List.set_cons_succ, i64_w, i32_w]
                rfl
              refine pure_ (i := 1) (N := some 33) (v := ?_) (a' := ?_) #[true, true, false, false, false, false, false, false, false, false, false, false, false] rfl rfl (any_of HT_.out (by kernel_rfl)) (fun _ _ _ h => h) (Or.inl ⟨by rfl, ?_⟩) ?_ ?_
              rotate_left
              · intro w'
                go_simp
                with_reducible rfl
              rotate_left
              · simp only [Act.put, List.setIfInBounds_toArray, List.set_cons_zero, List.set_cons_succ, i64_w, i32_w]
                rfl
              refine pure_ (i := 2) (N := some 34) (v := ?_) (a' := ?_) #[true, true, true, false, false, false, false, false, false, false, false, false, false] rfl rfl (any_of HT_.out (by kernel_rfl)) (fun _ _ _ h => h) (Or.inl ⟨by rfl, ?_⟩) ?_ ?_
              rotate_left
              · intro w'
                go_simp
                with_reducible rfl
              rotate_left
              · simp only [Act.put, List.setIfInBounds_toArray, List.set_cons_zero, List.set_cons_succ, i64_w, i32_w]
                rfl
              refine pure_ (i := 3) (N := some 35) (v := ?_) (a' := ?_) #[true, true, true, true, false, false, false, false, false, false, false, false, false] rfl rfl (any_of HT_.out (by kernel_rfl)) (fun _ _ _ h => h) (Or.inl ⟨by rfl, ?_⟩) ?_ ?_
              rotate_left
              · intro w'
                go_simp
                with_reducible rfl
              rotate_left
              · simp only [Act.put, List.setIfInBounds_toArray, List.set_cons_zero, List.set_cons_succ, i64_w, i32_w]
                rfl
              refine pure_ (i := 4) (N := some 36) (v := ?_) (a' := ?_) #[true, true, true, true, true, false, false, false, false, false, false, false, false] rfl rfl (any_of HT_.out (by kernel_rfl)) (fun _ _ _ h => h) (Or.inl ⟨by rfl, ?_⟩) ?_ ?_
              rotate_left
              · intro w'
                go_simp
                with_reducible rfl
              rotate_left
              · simp only [Act.put, List.setIfInBounds_toArray, List.set_cons_zero, List.set_cons_succ, i64_w, i32_w]
                rfl
              refine pure_ (i := 5) (N := some 37) (v := ?_) (a' := ?_) #[true, true, true, true, true, true, false, false, false, false, false, false, false] rfl rfl (any_of HT_.out (by kernel_rfl)) (fun _ _ _ h => h) (Or.inl ⟨by rfl, ?_⟩) ?_ ?_
              rotate_left
              · intro w'
                go_simp
                with_reducible rfl
              rotate_left
              · simp only [Act.put, List.setIfInBounds_toArray, List.set_cons_zero, List.set_cons_succ, i64_w, i32_w]
                rfl
              refine pure_ (i := 6) (N := some 38) (v := ?_) (a' := ?_) #[true, true, true, true, true, true, true, false, false, false, false, false, false] rfl rfl (any_of HT_.out (by kernel_rfl)) (fun _ _ _ h => h) (Or.inl ⟨by rfl, ?_⟩) ?_ ?_
              rotate_left
              · intro w'
                go_simp
                with_reducible rfl
              rotate_left
              · simp only [Act.put, List.setIfInBounds_toArray, List.set_cons_zero, List.set_cons_succ, i64_w, i32_w]
                rfl
              refine take_ (i := 7) (N := some 39) (v := ?_) (a' := ?_) #[true, true, true, true, true, true, true, true, false, false, false, false, false] rfl rfl (take_ofW HT_.out HW_.out (by kernel_rfl)) (fun _ _ _ h => h) (Or.inl ⟨by rfl, ?_⟩) hHeld ?_ ?_
              rotate_left
              · rintro w' ⟨s0, s1, s2, s3, s4, s5⟩
                go_simp
                with_reducible rfl
              rotate_left
              · simp only [Act.put, List.setIfInBounds_toArray, List.set_cons_zero, List.set_cons_succ, i64_w, i32_w]
                rfl
              refine take_ (i := 9) (N := some 41) (v := ?_) (a' := ?_) #[true, true, true, true, true, true, true, true, false, true, false, false, false] rfl rfl (take_ofW HT_.out HW_.out (by kernel_rfl)) (fun _ _ _ h => h) (Or.inl ⟨by rfl, ?_⟩) hHeld ?_ ?_
              rotate_left
              · rintro w' ⟨s0, s1, s2, s3, s4, s5⟩
                go_simp
                with_reducible rfl
              rotate_left
              · simp only [Act.put, List.setIfInBounds_toArray, List.set_cons_zero, List.set_cons_succ, i64_w, i32_w]
                rfl
              refine one_ (i := 8) (N := some 40) #[true, true, true, true, true, true, true, true, true, true, false, false, false] rfl rfl (one_of HT_.out (by kernel_rfl)) (by decide) (fun K hK => ?_)
              refine goes_ Tryz.func17 (by kernel_rfl) rfl #[.agg #[.string t211, .slice Ao30 t212.length co30, .string t215]] (by rfl) rfl rfl (by (try simp only [List.map_toArray, List.map_cons, List.map_nil]); first | done | rfl | (simp only [List.length_drop, List.length_take]; rfl)) ?_
              with_reducible refine (trystlaw10_Ours.calls kj1 t211 (fun k_ => (some k_ ≠ (.slice Ao24 t205.length co24 : Value).ownBlock ∧ (k_ ≠ gb200 ∧ k_ ≠ gb218))) _ _ t212 t215 t219 t220 t223 _ (by first | (with_reducible exact hG) | exact GG.below hG (by repeat (first | (with_reducible first | exact HB.out | apply below_alloc | apply pw_below_drewN | apply below_drew1 | refine below_set ?_ GE200.out | refine below_set ?_ GE218.out) | exact HB.out))) ?side1 A20.out).mono ?_
              (case side1 => exact Kd.N_V (HO214.out))
              rintro e w33 ⟨v221, rfl, ho0, hb⟩
              refine ⟨_, rfl, ?_⟩
              have n0_ := Aside0.mk (Kd.N_elder' (by (with_reducible repeat (first | apply Kd.N_alloc | apply Kd.N_drewN | apply Kd.N_drew)); exact HO207.out) (Kd.N_base ho0) hb)
              have n1_ := Aside0.mk (Kd.N_elder' (by (with_reducible repeat (first | apply Kd.N_alloc | apply Kd.N_drewN | apply Kd.N_drew)); exact HO214.out) (Kd.N_base ho0) hb)
              have n2_ := Aside0.mk (Kd.N_lower (Kd.N_mono (ok' := fun k_ => some k_ ≠ (.slice Ao24 t205.length co24 : Value).ownBlock ∧ k_ ≠ gb200 ∧ k_ ≠ gb218) ho0 (fun k_ hk_ => ⟨Or.elim hk_ (fun hs_ => hs_.1) (fun hn_ => (Kd.fresh' (Kd.N_lt (by (with_reducible repeat (first | apply Kd.N_alloc | apply Kd.N_drewN | apply Kd.N_drew)); exact HO207.out)) k_ hn_)), Or.elim hk_ (fun hs_ => hs_.2.1) (fun hn_ => (Kd.freshB (g := gb200) (o := .cells #[.string a0_0, .slice A0_1 l0_1.length c0_1, .string a0_2] 24 (0, 0)) (by (with_reducible repeat (first | refine blk_drewN ?_ _ | refine blk_drew ?_ | refine blk_alloc ?_ _)); exact BK200.out) k_ hn_)), Or.elim hk_ (fun hs_ => hs_.2.2) (fun hn_ => (Kd.freshB (g := gb218) (o := .cells #[.string t211, .slice Ao30 t212.length co30, .string t215] 32 (0, 0)) (by (with_reducible repeat (first | refine blk_drewN ?_ _ | refine blk_drew ?_ | refine blk_alloc ?_ _)); exact BK218.out) k_ hn_))⟩)) (below_size (by repeat (first | (with_reducible first | exact HB.out | apply below_alloc | apply pw_below_drewN | apply below_drew1 | refine below_set ?_ GE200.out | refine below_set ?_ GE218.out) | exact HB.out))))
              have n3_ := Aside0.mk (blk_below (g := gb200) (o := .cells #[.string a0_0, .slice A0_1 l0_1.length c0_1, .string a0_2] 24 (0, 0)) (by (with_reducible repeat (first | refine blk_drewN ?_ _ | refine blk_drew ?_ | refine blk_alloc ?_ _)); exact BK200.out) hb)
              have n4_ := Aside0.mk (blk_below (g := gb218) (o := .cells #[.string t211, .slice Ao30 t212.length co30, .string t215] 32 (0, 0)) (by (with_reducible repeat (first | refine blk_drewN ?_ _ | refine blk_drew ?_ | refine blk_alloc ?_ _)); exact BK218.out) hb)
              have n5_ := Aside0.mk (below_step (by repeat (first | (with_reducible first | exact HB.out | apply below_alloc | apply pw_below_drewN | apply below_drew1 | refine below_set ?_ GE200.out | refine below_set ?_ GE218.out) | exact HB.out)) hb)
              clear HO207
              clear HO214
              clear BK200
              clear BK218
              clear HB
              have HO207 := n0_
              have HO214 := n1_
              have HO222 := n2_
              have BK200 := n3_
              have BK218 := n4_
              have HB := n5_
              clear n0_ n1_ n2_ n3_ n4_ n5_
              (try clear hb)
              (try clear hb2)
              (try clear hk)
              (try clear hi)
              (try clear ho0)
              obtain ⟨Ao34, co34, eo34⟩ := Kd.N_slice HO222.out
              (first | subst eo34 | (injection eo34 with f1_ f2_ f3_; have f4_ := f1_.symm; have f5_ := f3_.symm; clear f1_ f2_ f3_; subst f4_; subst f5_))
              refine hK.out _ _ ⟨(blk_cell BK218.out 0).trans rfl, (blk_cell BK218.out 1).trans rfl, (blk_cell BK218.out 2).trans rfl, (blk_cell BK200.out 0).trans rfl, (blk_cell BK200.out 1).trans rfl, (blk_cell BK200.out 2).trans rfl⟩ (fun hHeld => ?_)
              clear hK K
              refine norm_ (a' := ?_) ?_ ?_
              rotate_left
              · show Act.put _ (some 40) _ = _
                simp only [Act.put, List.setIfInBounds_toArray, List.set_cons_zero, List.set_cons_succ, i64_w, i32_w]
                rfl
              refine one_ (i := 10) (N := some 42) #[true, true, true, true, true, true, true, true, true, true, true, false, false] rfl rfl (one_of HT_.out (by kernel_rfl)) (by decide) (fun K hK => ?_)
              refine goes_ Tryz.func16 (by kernel_rfl) rfl #[.agg #[.string t219, .slice Ao34 t220.length co34, .string t223], .agg #[.string a0_0, .slice A0_1 l0_1.length c0_1, .string a0_2]] (by rfl) rfl rfl (by (try simp only [List.map_toArray, List.map_cons, List.map_nil]); first | done | rfl | (simp only [List.length_drop, List.length_take]; rfl)) ?_
              with_reducible refine (trystlaw10_Same.calls kj1 t219 _ _ t220 t223 a0_0 _ _ l0_1 a0_2 t224 _ (by first | (with_reducible exact hG) | exact GG.below hG (by repeat (first | (with_reducible first | exact HB.out | apply below_alloc | apply pw_below_drewN | apply below_drew1 | refine below_set ?_ GE200.out | refine below_set ?_ GE218.out) | exact HB.out))) ?side1 ?side2 ?side3 ?side4 A21.out).mono ?_
              (case side1 => repeat (first | exact (Kd.N_reads' HO222.out).2.2 | (with_reducible refine Kd.C_alloc ?_ _) | (with_reducible refine Kd.C_drewN ?_ _) | (with_reducible refine Kd.C_drew ?_)))
              (case side2 => exact (Kd.N_reads' HO222.out).2.1)
              (case side3 => repeat (first | exact (Kd.C_below HR0_1.out HB.out) | (with_reducible refine Kd.C_alloc ?_ _) | (with_reducible refine Kd.C_drewN ?_ _) | (with_reducible refine Kd.C_drew ?_)))
              (case side4 => exact HC0_1.out)
              rintro e w35 ⟨rfl, hb⟩
              refine ⟨_, rfl, ?_⟩
              have n0_ := Aside0.mk (Kd.N_below (by (with_reducible repeat (first | apply Kd.N_alloc | apply Kd.N_drewN | apply Kd.N_drew)); exact HO207.out) hb)
              have n1_ := Aside0.mk (Kd.N_below (by (with_reducible repeat (first | apply Kd.N_alloc | apply Kd.N_drewN | apply Kd.N_drew)); exact HO214.out) hb)
              have n2_ := Aside0.mk (Kd.N_below (by (with_reducible repeat (first | apply Kd.N_alloc | apply Kd.N_drewN | apply Kd.N_drew)); exact HO222.out) hb)
              have n3_ := Aside0.mk (blk_below (g := gb200) (o := .cells #[.string a0_0, .slice A0_1 l0_1.length c0_1, .string a0_2] 24 (0, 0)) (by (with_reducible repeat (first | refine blk_drewN ?_ _ | refine blk_drew ?_ | refine blk_alloc ?_ _)); exact BK200.out) hb)
              have n4_ := Aside0.mk (blk_below (g := gb218) (o := .cells #[.string t211, .slice Ao30 t212.length co30, .string t215] 32 (0, 0)) (by (with_reducible repeat (first | refine blk_drewN ?_ _ | refine blk_drew ?_ | refine blk_alloc ?_ _)); exact BK218.out) hb)
              have n5_ := Aside0.mk (below_step (by repeat (first | (with_reducible first | exact HB.out | apply below_alloc | apply pw_below_drewN | apply below_drew1 | refine below_set ?_ GE200.out | refine below_set ?_ GE218.out) | exact HB.out)) hb)
              clear HO207
              clear HO214
              clear HO222
              clear BK200
              clear BK218
              clear HB
              have HO207 := n0_
              have HO214 := n1_
              have HO222 := n2_
              have BK200 := n3_
              have BK218 := n4_
              have HB := n5_
              clear n0_ n1_ n2_ n3_ n4_ n5_
              (try clear hb)
              (try clear hb2)
              (try clear hk)
              (try clear hi)
              refine hK.out _ _ ⟨(blk_cell BK218.out 0).trans rfl, (blk_cell BK218.out 1).trans rfl, (blk_cell BK218.out 2).trans rfl, (blk_cell BK200.out 0).trans rfl, (blk_cell BK200.out 1).trans rfl, (blk_cell BK200.out 2).trans rfl⟩ (fun hHeld => ?_)
              clear hK K
              refine norm_ (a' := ?_) ?_ ?_
              rotate_left
              · show Act.put _ (some 42) _ = _
                simp only [Act.put, List.setIfInBounds_toArray, List.set_cons_zero, List.set_cons_succ, i64_w, i32_w]
                rfl
              refine pure_ (i := 11) (N := some 43) (v := ?_) (a' := ?_) #[true, true, true, true, true, true, true, true, true, true, true, true, false] rfl rfl (any_of HT_.out (by kernel_rfl)) (fun _ _ _ h => h) (Or.inl ⟨by rfl, ?_⟩) ?_ ?_
              rotate_left
              · intro w'
                go_simp
                with_reducible rfl
              rotate_left
              · simp only [Act.put, List.setIfInBounds_toArray, List.set_cons_zero, List.set_cons_succ, i64_w, i32_w]
                rfl
              refine pure_ (i := 12) (N := some 2) (v := ?_) (a' := ?_) #[true, true, true, true, true, true, true, true, true, true, true, true, true] rfl rfl (any_of HT_.out (by kernel_rfl)) (fun _ _ _ h => h) (Or.inl ⟨by rfl, ?_⟩) ?_ ?_
              rotate_left
              · intro w'
                go_simp
                with_reducible rfl
              rotate_left
              · simp only [Act.put, List.setIfInBounds_toArray, List.set_cons_zero, List.set_cons_succ, i64_w, i32_w]
                rfl
              refine done_ (done_of HT_.out (by kernel_rfl)) ?_
              try go_wp2
              go_ret
              exact ⟨by first | rfl | (simp [errW_none, errW_some] <;> rfl) | (simp [*, errW_none, errW_some] <;> rfl), by repeat (first | (with_reducible first | exact HB.out | apply below_alloc | apply pw_below_drewN | apply below_drew1 | refine below_set ?_ GE200.out | refine below_set ?_ GE218.out) | exact HB.out)⟩
            · rw [if_neg c19] at H
              have c19b0 : (t216 == 0) = false := beq_eq_false_iff_ne.mpr c19
              have c19b1 : (t216 != 0) = true := bne_iff_ne.mpr c19
              obtain rfl := Option.some.inj H
              have hcz36_0 : wc.cell? ⟨gb200, 0, none⟩ = some (.string a0_0) := (blk_cell BK200.out 0).trans rfl
              have hcz36_1 : wc.cell? ⟨gb200, 1, none⟩ = some (.slice A0_1 l0_1.length c0_1) := (blk_cell BK200.out 1).trans rfl
              have hcz36_2 : wc.cell? ⟨gb200, 2, none⟩ = some (.string a0_2) := (blk_cell BK200.out 2).trans rfl
              have hfz36_0 := blk_frozen BK200.out 0
              have hfz36_1 := blk_frozen BK200.out 1
              have hfz36_2 := blk_frozen BK200.out 2
              try go_wp2_with (first | ((with_reducible refine gate_callee (f := 9) rfl ?_); refine goesL_ (some 18) rfl rfl Tryz.func9 (by kernel_rfl) rfl #[.agg #[.string a0_0, .slice A0_1 l0_1.length c0_1, .string a0_2]] rfl (by (try simp only [List.map_toArray, List.map_cons, List.map_nil]); first | done | rfl | (simp only [List.length_drop, List.length_take]; rfl)) ?_; (with_reducible refine (trystlaw10_Theirs.calls kj1 a0_0 _ _ l0_1 a0_2 t204 t205 t208 _ (by first | (with_reducible exact hG) | exact GG.below hG (by repeat (first | (with_reducible first | exact HB.out | apply below_alloc | apply pw_below_drewN | apply below_drew1 | refine below_set ?_ GE200.out) | exact HB.out))) ?side1 ?side2 A14.out).mono ?_); (case side1 => repeat (first | exact (Kd.C_below HR0_1.out HB.out) | (with_reducible refine Kd.C_alloc ?_ _) | (with_reducible refine Kd.C_drewN ?_ _) | (with_reducible refine Kd.C_drew ?_))); (case side2 => exact HC0_1.out); rintro e w37 ⟨v206, rfl, ho0, hb⟩; refine ⟨_, rfl, ?_⟩; have n0_ := Aside0.mk (Kd.N_lower (Kd.N_mono (ok' := fun k_ => k_ ≠ gb200) (Kd.S_N (Kd.S_bound ho0)) (fun k_ hk_ => (Kd.freshB (g := gb200) (o := .cells #[.string a0_0, .slice A0_1 l0_1.length c0_1, .string a0_2] 24 (0, 0)) (by (with_reducible repeat (first | refine blk_drewN ?_ _ | refine blk_drew ?_ | refine blk_alloc ?_ _)); exact BK200.out) k_ hk_.2.1))) (below_size (by repeat (first | (with_reducible first | exact HB.out | apply below_alloc | apply pw_below_drewN | apply below_drew1 | refine below_set ?_ GE200.out) | exact HB.out)))); have n1_ := Aside0.mk (blk_below (g := gb200) (o := .cells #[.string a0_0, .slice A0_1 l0_1.length c0_1, .string a0_2] 24 (0, 0)) (by (with_reducible repeat (first | refine blk_drewN ?_ _ | refine blk_drew ?_ | refine blk_alloc ?_ _)); exact BK200.out) hb); have n2_ := Aside0.mk (below_step (by repeat (first | (with_reducible first | exact HB.out | apply below_alloc | apply pw_below_drewN | apply below_drew1 | refine below_set ?_ GE200.out) | exact HB.out)) hb); clear BK200; clear HB; have HO207 := n0_; have BK200 := n1_; have HB := n2_; clear n0_ n1_ n2_; (try clear hb); (try clear hb2); (try clear hk); (try clear hi); (try clear ho0); obtain ⟨Ao38, co38, eo38⟩ := Kd.N_slice HO207.out; subst eo38) | ((with_reducible refine gate_callee (f := 8) rfl ?_); refine goesL_ (some 19) rfl rfl Tryz.func8 (by kernel_rfl) rfl #[.agg #[.string t204, .slice Ao38 t205.length co38, .string t208]] rfl (by (try simp only [List.map_toArray, List.map_cons, List.map_nil]); first | done | rfl | (simp only [List.length_drop, List.length_take]; rfl)) ?_; (with_reducible refine (line_Print.calls kj1 t204 _ _ t205 t208 t209 t210 _ (by first | (with_reducible exact hG) | exact GG.below hG (by repeat (first | (with_reducible first | exact HB.out | apply below_alloc | apply pw_below_drewN | apply below_drew1 | refine below_set ?_ GE200.out) | exact HB.out))) ?side1 ?side2 A15.out).mono ?_); (case side1 => repeat (first | exact (Kd.N_reads' HO207.out).2.2 | (with_reducible refine Kd.C_alloc ?_ _) | (with_reducible refine Kd.C_drewN ?_ _) | (with_reducible refine Kd.C_drew ?_))); (case side2 => exact (Kd.N_reads' HO207.out).2.1); rintro e w39 ⟨rfl, hb⟩; refine ⟨_, rfl, ?_⟩; have n0_ := Aside0.mk (Kd.N_below (by (with_reducible repeat (first | apply Kd.N_alloc | apply Kd.N_drewN | apply Kd.N_drew)); exact HO207.out) hb); have n1_ := Aside0.mk (blk_below (g := gb200) (o := .cells #[.string a0_0, .slice A0_1 l0_1.length c0_1, .string a0_2] 24 (0, 0)) (by (with_reducible repeat (first | refine blk_drewN ?_ _ | refine blk_drew ?_ | refine blk_alloc ?_ _)); exact BK200.out) hb); have n2_ := Aside0.mk (below_step (by repeat (first | (with_reducible first | exact HB.out | apply below_alloc | apply pw_below_drewN | apply below_drew1 | refine below_set ?_ GE200.out) | exact HB.out)) hb); clear HO207; clear BK200; clear HB; have HO207 := n0_; have BK200 := n1_; have HB := n2_; clear n0_ n1_ n2_; (try clear hb); (try clear hb2); (try clear hk); (try clear hi)) | ((with_reducible refine gate_callee (f := 15) rfl ?_); refine goesL_ (some 28) rfl rfl Tryz.func15 (by kernel_rfl) rfl #[.string t209] rfl (by (try simp only [List.map_toArray, List.map_cons, List.map_nil]); first | done | rfl | (simp only [List.length_drop, List.length_take]; rfl)) ?_; (with_reducible refine (line_Parse.calls kj1 t209 t211 t212 t215 t216 t217 _ (by first | (with_reducible exact hG) | exact GG.below hG (by repeat (first | (with_reducible first | exact HB.out | apply below_alloc | apply pw_below_drewN | apply below_drew1 | refine below_set ?_ GE200.out) | exact HB.out))) A17.out).mono ?_); rintro e w40 ⟨v213, rfl, ho0, hb⟩; refine ⟨_, rfl, ?_⟩; have n0_ := Aside0.mk (Kd.N_elder' (by (with_reducible repeat (first | apply Kd.N_alloc | apply Kd.N_drewN | apply Kd.N_drew)); exact HO207.out) (Kd.N_base (Kd.S_N (Kd.S_bound ho0))) hb); have n1_ := Aside0.mk (Kd.N_lower (Kd.N_mono (ok' := fun k_ => some k_ ≠ (.slice Ao38 t205.length co38 : Value).ownBlock ∧ k_ ≠ gb200) (Kd.S_N (Kd.S_bound ho0)) (fun k_ hk_ => ⟨(Kd.fresh' (Kd.N_lt (by (with_reducible repeat (first | apply Kd.N_alloc | apply Kd.N_drewN | apply Kd.N_drew)); exact HO207.out)) k_ hk_.2.1), (Kd.freshB (g := gb200) (o := .cells #[.string a0_0, .slice A0_1 l0_1.length c0_1, .string a0_2] 24 (0, 0)) (by (with_reducible repeat (first | refine blk_drewN ?_ _ | refine blk_drew ?_ | refine blk_alloc ?_ _)); exact BK200.out) k_ hk_.2.1)⟩)) (below_size (by repeat (first | (with_reducible first | exact HB.out | apply below_alloc | apply pw_below_drewN | apply below_drew1 | refine below_set ?_ GE200.out) | exact HB.out)))); have n2_ := Aside0.mk (blk_below (g := gb200) (o := .cells #[.string a0_0, .slice A0_1 l0_1.length c0_1, .string a0_2] 24 (0, 0)) (by (with_reducible repeat (first | refine blk_drewN ?_ _ | refine blk_drew ?_ | refine blk_alloc ?_ _)); exact BK200.out) hb); have n3_ := Aside0.mk (below_step (by repeat (first | (with_reducible first | exact HB.out | apply below_alloc | apply pw_below_drewN | apply below_drew1 | refine below_set ?_ GE200.out) | exact HB.out)) hb); clear HO207; clear BK200; clear HB; have HO207 := n0_; have HO214 := n1_; have BK200 := n2_; have HB := n3_; clear n0_ n1_ n2_ n3_; (try clear hb); (try clear hb2); (try clear hk); (try clear hi); (try clear ho0)) | ((with_reducible refine gate_dst (N := 5) rfl ?_); refine box_event ?hg (N := 5) ?hd (cs := #[.string (⟨#[]⟩ : ByteArray), .slice none 0 0, .string (⟨#[]⟩ : ByteArray)]) (t := 32) ?hr ?_; (case hd => rfl); (case hg => rfl); (case hr => first | (go_simp; done) | (go_simp; rfl)); intro gb218 hg w41 hbox hb; have n0_ := Aside0.mk (Kd.N_below (Kd.N_elderB (by (with_reducible repeat (first | apply Kd.N_alloc | apply Kd.N_drewN | apply Kd.N_drew)); exact HO207.out) gb218 (Nat.le_of_eq hg.symm)) hb); have n1_ := Aside0.mk (Kd.N_below (Kd.N_elderB (by (with_reducible repeat (first | apply Kd.N_alloc | apply Kd.N_drewN | apply Kd.N_drew)); exact HO214.out) gb218 (Nat.le_of_eq hg.symm)) hb); have n2_ := Aside0.mk (blk_below (g := gb200) (o := .cells #[.string a0_0, .slice A0_1 l0_1.length c0_1, .string a0_2] 24 (0, 0)) (by (with_reducible repeat (first | refine blk_drewN ?_ _ | refine blk_drew ?_ | refine blk_alloc ?_ _)); exact BK200.out) hb); have n3_ := Aside0.mk (below_step (by repeat (first | (with_reducible first | exact HB.out | apply below_alloc | apply pw_below_drewN | apply below_drew1 | refine below_set ?_ GE200.out) | exact HB.out)) hb); have n4_ := Aside0.mk (hbox); have n5_ := Aside0.mk ((by rw [hg]; exact (below_size (by repeat (first | (with_reducible first | exact HB.out | apply below_alloc | apply pw_below_drewN | apply below_drew1 | refine below_set ?_ GE200.out) | exact HB.out))) : w.heap.size ≤ gb218)); have n6_ := Aside0.mk ((by rw [hg]; exact (below_size (by repeat (first | (with_reducible first | exact HB.out | apply below_alloc | apply pw_below_drewN | apply below_drew1 | refine below_set ?_ GE200.out) | exact HB.out))) : w.heap.size ≤ gb218)); have n7_ := Aside0.mk ((by rw [hg]; exact Nat.ne_of_lt (blk_lt (g := gb200) (o := .cells #[.string a0_0, .slice A0_1 l0_1.length c0_1, .string a0_2] 24 (0, 0)) (by (with_reducible repeat (first | refine blk_drewN ?_ _ | refine blk_drew ?_ | refine blk_alloc ?_ _)); exact BK200.out)) : gb200 ≠ gb218)); have n8_ := Aside0.mk ((by rw [hg]; exact Nat.ne_of_gt (blk_lt (g := gb200) (o := .cells #[.string a0_0, .slice A0_1 l0_1.length c0_1, .string a0_2] 24 (0, 0)) (by (with_reducible repeat (first | refine blk_drewN ?_ _ | refine blk_drew ?_ | refine blk_alloc ?_ _)); exact BK200.out)) : gb218 ≠ gb200)); clear HO207; clear HO214; clear BK200; clear HB; have HO207 := n0_; have HO214 := n1_; have BK200 := n2_; have HB := n3_; have BK218 := n4_; have GW218 := n5_; have GE218 := n6_; have NB200_218 := n7_; have NB218_200 := n8_; clear n0_ n1_ n2_ n3_ n4_ n5_ n6_ n7_ n8_; clear hb hbox hg; have hnb42 := NB218_200.out; have hnc42 := NB200_218.out; have hcz43_0 : w41.cell? ⟨gb218, 0, none⟩ = some (.string (⟨#[]⟩ : ByteArray)) := (blk_cell BK218.out 0).trans rfl; have hcz43_1 : w41.cell? ⟨gb218, 1, none⟩ = some (.slice none 0 0) := (blk_cell BK218.out 1).trans rfl; have hcz43_2 : w41.cell? ⟨gb218, 2, none⟩ = some (.string (⟨#[]⟩ : ByteArray)) := (blk_cell BK218.out 2).trans rfl; have hfz43_0 := blk_frozen BK218.out 0; have hfz43_1 := blk_frozen BK218.out 1; have hfz43_2 := blk_frozen BK218.out 2; obtain ⟨Ao44, co44, eo44⟩ := Kd.N_slice HO214.out; subst eo44))
              have n0_ : Aside0 (Kd.N k53 53 (((w41.setCell ⟨gb218, 0, none⟩ (.string t211)).setCell ⟨gb218, 1, none⟩ (.slice Ao44 t212.length co44)).setCell ⟨gb218, 2, none⟩ (.string t215)) w.heap.size (fun k_ => some k_ ≠ (.slice Ao44 t212.length co44 : Value).ownBlock ∧ k_ ≠ gb200 ∧ k_ ≠ gb218) (.slice Ao38 t205.length co38) t205) := ⟨by (with_reducible repeat (first | apply Kd.N_alloc | apply Kd.N_drewN | apply Kd.N_drew)); exact Kd.N_mono (Kd.N_far (p := ⟨gb218, 2, none⟩) (Kd.N_far (p := ⟨gb218, 1, none⟩) (Kd.N_far (p := ⟨gb218, 0, none⟩) (Kd.N_mono HO207.out (fun k_ hk => (⟨hk, hk.2⟩ : _ ∧ k_ ≠ gb218))) (fun _ hk => hk.2) (.string t211)) (fun _ hk => hk.2) (.slice Ao44 t212.length co44)) (fun _ hk => hk.2) (.string t215)) (fun _ hk => ⟨hk.1.1.2, ⟨hk.1.1.1, hk.1.2⟩⟩)⟩
              have n1_ : Aside0 (Kd.N k53 53 (((w41.setCell ⟨gb218, 0, none⟩ (.string t211)).setCell ⟨gb218, 1, none⟩ (.slice Ao44 t212.length co44)).setCell ⟨gb218, 2, none⟩ (.string t215)) w.heap.size (fun k_ => some k_ ≠ (.slice Ao38 t205.length co38 : Value).ownBlock ∧ k_ ≠ gb200 ∧ k_ ≠ gb218) (.slice Ao44 t212.length co44) t212) := ⟨by (with_reducible repeat (first | apply Kd.N_alloc | apply Kd.N_drewN | apply Kd.N_drew)); exact Kd.N_mono (Kd.N_far (p := ⟨gb218, 2, none⟩) (Kd.N_far (p := ⟨gb218, 1, none⟩) (Kd.N_far (p := ⟨gb218, 0, none⟩) (Kd.N_mono HO214.out (fun k_ hk => (⟨hk, hk.2⟩ : _ ∧ k_ ≠ gb218))) (fun _ hk => hk.2) (.string t211)) (fun _ hk => hk.2) (.slice Ao44 t212.length co44)) (fun _ hk => hk.2) (.string t215)) (fun _ hk => ⟨hk.1.1.1, ⟨hk.1.1.2, hk.1.2⟩⟩)⟩
              have n2_ : Aside0 ((((w41.setCell ⟨gb218, 0, none⟩ (.string t211)).setCell ⟨gb218, 1, none⟩ (.slice Ao44 t212.length co44)).setCell ⟨gb218, 2, none⟩ (.string t215)).heap[gb200]? = some (.cells #[.string a0_0, .slice A0_1 l0_1.length c0_1, .string a0_2] 24 (0, 0))) := ⟨by (with_reducible repeat (first | refine blk_drewN ?_ _ | refine blk_drew ?_ | refine blk_alloc ?_ _)); refine blk_far ?_ NB200_218.out _; (with_reducible repeat (first | refine blk_drewN ?_ _ | refine blk_drew ?_ | refine blk_alloc ?_ _)); refine blk_far ?_ NB200_218.out _; (with_reducible repeat (first | refine blk_drewN ?_ _ | refine blk_drew ?_ | refine blk_alloc ?_ _)); refine blk_far ?_ NB200_218.out _; (with_reducible repeat (first | refine blk_drewN ?_ _ | refine blk_drew ?_ | refine blk_alloc ?_ _)); exact BK200.out⟩
              have n3_ : Aside0 ((((w41.setCell ⟨gb218, 0, none⟩ (.string t211)).setCell ⟨gb218, 1, none⟩ (.slice Ao44 t212.length co44)).setCell ⟨gb218, 2, none⟩ (.string t215)).heap[gb218]? = some (.cells #[.string t211, .slice Ao44 t212.length co44, .string t215] 32 (0, 0))) := ⟨by (with_reducible repeat (first | refine blk_drewN ?_ _ | refine blk_drew ?_ | refine blk_alloc ?_ _)); refine blk_put (cs := #[.string t211, .slice Ao44 t212.length co44, .string (⟨#[]⟩ : ByteArray)]) ?_ 2 _ rfl; (with_reducible repeat (first | refine blk_drewN ?_ _ | refine blk_drew ?_ | refine blk_alloc ?_ _)); refine blk_put (cs := #[.string t211, .slice none 0 0, .string (⟨#[]⟩ : ByteArray)]) ?_ 1 _ rfl; (with_reducible repeat (first | refine blk_drewN ?_ _ | refine blk_drew ?_ | refine blk_alloc ?_ _)); refine blk_put (cs := #[.string (⟨#[]⟩ : ByteArray), .slice none 0 0, .string (⟨#[]⟩ : ByteArray)]) ?_ 0 _ rfl; (with_reducible repeat (first | refine blk_drewN ?_ _ | refine blk_drew ?_ | refine blk_alloc ?_ _)); exact BK218.out⟩
              have n4_ : Aside0 (Below w.heap.size w (((w41.setCell ⟨gb218, 0, none⟩ (.string t211)).setCell ⟨gb218, 1, none⟩ (.slice Ao44 t212.length co44)).setCell ⟨gb218, 2, none⟩ (.string t215))) := ⟨by repeat (first | (with_reducible first | exact HB.out | apply below_alloc | apply pw_below_drewN | apply below_drew1 | refine below_set ?_ GE200.out | refine below_set ?_ GE218.out) | exact HB.out)⟩
              (try clear HO207)
              (try clear HO214)
              (try clear BK200)
              (try clear BK218)
              (try clear HB)
              generalize (((w41.setCell ⟨gb218, 0, none⟩ (.string t211)).setCell ⟨gb218, 1, none⟩ (.slice Ao44 t212.length co44)).setCell ⟨gb218, 2, none⟩ (.string t215)) = w45 at n0_ n1_ n2_ n3_ n4_ ⊢
              have HO207 := n0_
              have HO214 := n1_
              have BK200 := n2_
              have BK218 := n3_
              have HB := n4_
              clear n0_ n1_ n2_ n3_ n4_
              have n0_ := Aside0.mk (Kd.N_drew HO207.out)
              have n1_ := Aside0.mk (Kd.N_drew HO214.out)
              have n2_ := Aside0.mk (blk_drew BK200.out)
              have n3_ := Aside0.mk (blk_drew BK218.out)
              have n4_ := Aside0.mk (below_drew1 HB.out)
              clear HO207
              clear HO214
              clear BK200
              clear BK218
              clear HB
              have HO207 := n0_
              have HO214 := n1_
              have BK200 := n2_
              have BK218 := n3_
              have HB := n4_
              clear n0_ n1_ n2_ n3_ n4_
              refine start_ (n := 13) (S := fun w' => True) (ds := []) #[false, false, false, false, false, false, false, false, false, false, false, false, false] (by kernel_rfl) rfl rfl trivial (fun hHeld => ?_); refine with_tabW trystlaw10_LineBack.tab7 trystlaw10_LineBack.bits7 (fun HT_ HW_ => ?_)
              generalize w45.drew = w46 at HO207 HO214 BK200 BK218 HB hHeld ⊢
              refine pure_ (i := 0) (N := some 32) (v := ?_) (a' := ?_) #[true, false, false, false, false, false, false, false, false, false, false, false, false] rfl rfl (any_of HT_.out (by kernel_rfl)) (fun _ _ _ h => h) (Or.inl ⟨by rfl, ?_⟩) ?_ ?_
              rotate_left
              · intro w'
                go_simp
                with_reducible rfl
              rotate_left
              · simp only [Act.put, List.setIfInBounds_toArray, List.set_cons_zero, List.set_cons_succ, i64_w, i32_w]
                rfl
              refine pure_ (i := 1) (N := some 33) (v := ?_) (a' := ?_) #[true, true, false, false, false, false, false, false, false, false, false, false, false] rfl rfl (any_of HT_.out (by kernel_rfl)) (fun _ _ _ h => h) (Or.inl ⟨by rfl, ?_⟩) ?_ ?_
              rotate_left
              · intro w'
                go_simp
                with_reducible rfl
              rotate_left
              · simp only [Act.put, List.setIfInBounds_toArray, List.set_cons_zero, List.set_cons_succ, i64_w, i32_w]
                rfl
              refine pure_ (i := 2) (N := some 34) (v := ?_) (a' := ?_) #[true, true, true, false, false, false, false, false, false, false, false, false, false] rfl rfl (any_of HT_.out (by kernel_rfl)) (fun _ _ _ h => h) (Or.inl ⟨by rfl, ?_⟩) ?_ ?_
              rotate_left
              · intro w'
                go_simp
                with_reducible rfl
              rotate_left
              · simp only [Act.put, List.setIfInBounds_toArray, List.set_cons_zero, List.set_cons_succ, i64_w, i32_w]
                rfl
              refine pure_ (i := 3) (N := some 35) (v := ?_) (a' := ?_) #[true, true, true, true, false, false, false, false, false, false, false, false, false] rfl rfl (any_of HT_.out (by kernel_rfl)) (fun _ _ _ h => h) (Or.inl ⟨by rfl, ?_⟩) ?_ ?_
              rotate_left
              · intro w'
                go_simp
                with_reducible rfl
              rotate_left
              · simp only [Act.put, List.setIfInBounds_toArray, List.set_cons_zero, List.set_cons_succ, i64_w, i32_w]
                rfl
              refine pure_ (i := 4) (N := some 36) (v := ?_) (a' := ?_) #[true, true, true, true, true, false, false, false, false, false, false, false, false] rfl rfl (any_of HT_.out (by kernel_rfl)) (fun _ _ _ h => h) (Or.inl ⟨by rfl, ?_⟩) ?_ ?_
              rotate_left
              · intro w'
                go_simp
                with_reducible rfl
              rotate_left
              · simp only [Act.put, List.setIfInBounds_toArray, List.set_cons_zero, List.set_cons_succ, i64_w, i32_w]
                rfl
              refine pure_ (i := 5) (N := some 37) (v := ?_) (a' := ?_) #[true, true, true, true, true, true, false, false, false, false, false, false, false] rfl rfl (any_of HT_.out (by kernel_rfl)) (fun _ _ _ h => h) (Or.inl ⟨by rfl, ?_⟩) ?_ ?_
              rotate_left
              · intro w'
                go_simp
                with_reducible rfl
              rotate_left
              · simp only [Act.put, List.setIfInBounds_toArray, List.set_cons_zero, List.set_cons_succ, i64_w, i32_w]
                rfl
              refine pure_ (i := 6) (N := some 38) (v := ?_) (a' := ?_) #[true, true, true, true, true, true, true, false, false, false, false, false, false] rfl rfl (any_of HT_.out (by kernel_rfl)) (fun _ _ _ h => h) (Or.inl ⟨by rfl, ?_⟩) ?_ ?_
              rotate_left
              · intro w'
                go_simp
                with_reducible rfl
              rotate_left
              · simp only [Act.put, List.setIfInBounds_toArray, List.set_cons_zero, List.set_cons_succ, i64_w, i32_w]
                rfl
              refine pure_ (i := 7) (N := some 39) (v := undef) (a' := ?_) #[true, true, true, true, true, true, true, true, false, false, false, false, false] rfl rfl (any_of HT_.out (by kernel_rfl)) (fun _ _ _ h => h) (Or.inr ⟨by rfl, rfl⟩) ?_ ?_
              rotate_left
              · simp only [Act.put, List.setIfInBounds_toArray, List.set_cons_zero, List.set_cons_succ, i64_w, i32_w]
                rfl
              refine pure_ (i := 8) (N := some 40) (v := undef) (a' := ?_) #[true, true, true, true, true, true, true, true, true, false, false, false, false] rfl rfl (any_of HT_.out (by kernel_rfl)) (fun _ _ _ h => h) (Or.inr ⟨by rfl, rfl⟩) ?_ ?_
              rotate_left
              · simp only [Act.put, List.setIfInBounds_toArray, List.set_cons_zero, List.set_cons_succ, i64_w, i32_w]
                rfl
              refine pure_ (i := 9) (N := some 41) (v := undef) (a' := ?_) #[true, true, true, true, true, true, true, true, true, true, false, false, false] rfl rfl (any_of HT_.out (by kernel_rfl)) (fun _ _ _ h => h) (Or.inr ⟨by rfl, rfl⟩) ?_ ?_
              rotate_left
              · simp only [Act.put, List.setIfInBounds_toArray, List.set_cons_zero, List.set_cons_succ, i64_w, i32_w]
                rfl
              refine pure_ (i := 10) (N := some 42) (v := undef) (a' := ?_) #[true, true, true, true, true, true, true, true, true, true, true, false, false] rfl rfl (any_of HT_.out (by kernel_rfl)) (fun _ _ _ h => h) (Or.inr ⟨by rfl, rfl⟩) ?_ ?_
              rotate_left
              · simp only [Act.put, List.setIfInBounds_toArray, List.set_cons_zero, List.set_cons_succ, i64_w, i32_w]
                rfl
              refine pure_ (i := 11) (N := some 43) (v := ?_) (a' := ?_) #[true, true, true, true, true, true, true, true, true, true, true, true, false] rfl rfl (any_of HT_.out (by kernel_rfl)) (fun _ _ _ h => h) (Or.inl ⟨by rfl, ?_⟩) ?_ ?_
              rotate_left
              · intro w'
                go_simp
                with_reducible rfl
              rotate_left
              · simp only [Act.put, List.setIfInBounds_toArray, List.set_cons_zero, List.set_cons_succ, i64_w, i32_w]
                rfl
              refine pure_ (i := 12) (N := some 2) (v := ?_) (a' := ?_) #[true, true, true, true, true, true, true, true, true, true, true, true, true] rfl rfl (any_of HT_.out (by kernel_rfl)) (fun _ _ _ h => h) (Or.inl ⟨by rfl, ?_⟩) ?_ ?_
              rotate_left
              · intro w'
                go_simp
                with_reducible rfl
              rotate_left
              · simp only [Act.put, List.setIfInBounds_toArray, List.set_cons_zero, List.set_cons_succ, i64_w, i32_w]
                rfl
              refine done_ (done_of HT_.out (by kernel_rfl)) ?_
              try go_wp2
              go_ret
              exact ⟨by first | rfl | (simp [errW_none, errW_some] <;> rfl) | (simp [*, errW_none, errW_some] <;> rfl), by repeat (first | (with_reducible first | exact HB.out | apply below_alloc | apply pw_below_drewN | apply below_drew1 | refine below_set ?_ GE200.out | refine below_set ?_ GE218.out) | exact HB.out)⟩
          · rw [if_neg c18] at H
            have c18b0 : (t217 == 0) = false := beq_eq_false_iff_ne.mpr c18
            have c18b1 : (t217 != 0) = true := bne_iff_ne.mpr c18
            obtain rfl := Option.some.inj H
            have hcz47_0 : wc.cell? ⟨gb200, 0, none⟩ = some (.string a0_0) := (blk_cell BK200.out 0).trans rfl
            have hcz47_1 : wc.cell? ⟨gb200, 1, none⟩ = some (.slice A0_1 l0_1.length c0_1) := (blk_cell BK200.out 1).trans rfl
            have hcz47_2 : wc.cell? ⟨gb200, 2, none⟩ = some (.string a0_2) := (blk_cell BK200.out 2).trans rfl
            have hfz47_0 := blk_frozen BK200.out 0
            have hfz47_1 := blk_frozen BK200.out 1
            have hfz47_2 := blk_frozen BK200.out 2
            try go_wp2_with (first | ((with_reducible refine gate_callee (f := 9) rfl ?_); refine goesL_ (some 18) rfl rfl Tryz.func9 (by kernel_rfl) rfl #[.agg #[.string a0_0, .slice A0_1 l0_1.length c0_1, .string a0_2]] rfl (by (try simp only [List.map_toArray, List.map_cons, List.map_nil]); first | done | rfl | (simp only [List.length_drop, List.length_take]; rfl)) ?_; (with_reducible refine (trystlaw10_Theirs.calls kj1 a0_0 _ _ l0_1 a0_2 t204 t205 t208 _ (by first | (with_reducible exact hG) | exact GG.below hG (by repeat (first | (with_reducible first | exact HB.out | apply below_alloc | apply pw_below_drewN | apply below_drew1 | refine below_set ?_ GE200.out) | exact HB.out))) ?side1 ?side2 A14.out).mono ?_); (case side1 => repeat (first | exact (Kd.C_below HR0_1.out HB.out) | (with_reducible refine Kd.C_alloc ?_ _) | (with_reducible refine Kd.C_drewN ?_ _) | (with_reducible refine Kd.C_drew ?_))); (case side2 => exact HC0_1.out); rintro e w48 ⟨v206, rfl, ho0, hb⟩; refine ⟨_, rfl, ?_⟩; have n0_ := Aside0.mk (Kd.N_lower (Kd.N_mono (ok' := fun k_ => k_ ≠ gb200) (Kd.S_N (Kd.S_bound ho0)) (fun k_ hk_ => (Kd.freshB (g := gb200) (o := .cells #[.string a0_0, .slice A0_1 l0_1.length c0_1, .string a0_2] 24 (0, 0)) (by (with_reducible repeat (first | refine blk_drewN ?_ _ | refine blk_drew ?_ | refine blk_alloc ?_ _)); exact BK200.out) k_ hk_.2.1))) (below_size (by repeat (first | (with_reducible first | exact HB.out | apply below_alloc | apply pw_below_drewN | apply below_drew1 | refine below_set ?_ GE200.out) | exact HB.out)))); have n1_ := Aside0.mk (blk_below (g := gb200) (o := .cells #[.string a0_0, .slice A0_1 l0_1.length c0_1, .string a0_2] 24 (0, 0)) (by (with_reducible repeat (first | refine blk_drewN ?_ _ | refine blk_drew ?_ | refine blk_alloc ?_ _)); exact BK200.out) hb); have n2_ := Aside0.mk (below_step (by repeat (first | (with_reducible first | exact HB.out | apply below_alloc | apply pw_below_drewN | apply below_drew1 | refine below_set ?_ GE200.out) | exact HB.out)) hb); clear BK200; clear HB; have HO207 := n0_; have BK200 := n1_; have HB := n2_; clear n0_ n1_ n2_; (try clear hb); (try clear hb2); (try clear hk); (try clear hi); (try clear ho0); obtain ⟨Ao49, co49, eo49⟩ := Kd.N_slice HO207.out; subst eo49) | ((with_reducible refine gate_callee (f := 8) rfl ?_); refine goesL_ (some 19) rfl rfl Tryz.func8 (by kernel_rfl) rfl #[.agg #[.string t204, .slice Ao49 t205.length co49, .string t208]] rfl (by (try simp only [List.map_toArray, List.map_cons, List.map_nil]); first | done | rfl | (simp only [List.length_drop, List.length_take]; rfl)) ?_; (with_reducible refine (line_Print.calls kj1 t204 _ _ t205 t208 t209 t210 _ (by first | (with_reducible exact hG) | exact GG.below hG (by repeat (first | (with_reducible first | exact HB.out | apply below_alloc | apply pw_below_drewN | apply below_drew1 | refine below_set ?_ GE200.out) | exact HB.out))) ?side1 ?side2 A15.out).mono ?_); (case side1 => repeat (first | exact (Kd.N_reads' HO207.out).2.2 | (with_reducible refine Kd.C_alloc ?_ _) | (with_reducible refine Kd.C_drewN ?_ _) | (with_reducible refine Kd.C_drew ?_))); (case side2 => exact (Kd.N_reads' HO207.out).2.1); rintro e w50 ⟨rfl, hb⟩; refine ⟨_, rfl, ?_⟩; have n0_ := Aside0.mk (Kd.N_below (by (with_reducible repeat (first | apply Kd.N_alloc | apply Kd.N_drewN | apply Kd.N_drew)); exact HO207.out) hb); have n1_ := Aside0.mk (blk_below (g := gb200) (o := .cells #[.string a0_0, .slice A0_1 l0_1.length c0_1, .string a0_2] 24 (0, 0)) (by (with_reducible repeat (first | refine blk_drewN ?_ _ | refine blk_drew ?_ | refine blk_alloc ?_ _)); exact BK200.out) hb); have n2_ := Aside0.mk (below_step (by repeat (first | (with_reducible first | exact HB.out | apply below_alloc | apply pw_below_drewN | apply below_drew1 | refine below_set ?_ GE200.out) | exact HB.out)) hb); clear HO207; clear BK200; clear HB; have HO207 := n0_; have BK200 := n1_; have HB := n2_; clear n0_ n1_ n2_; (try clear hb); (try clear hb2); (try clear hk); (try clear hi)) | ((with_reducible refine gate_callee (f := 15) rfl ?_); refine goesL_ (some 28) rfl rfl Tryz.func15 (by kernel_rfl) rfl #[.string t209] rfl (by (try simp only [List.map_toArray, List.map_cons, List.map_nil]); first | done | rfl | (simp only [List.length_drop, List.length_take]; rfl)) ?_; (with_reducible refine (line_Parse.calls kj1 t209 t211 t212 t215 t216 t217 _ (by first | (with_reducible exact hG) | exact GG.below hG (by repeat (first | (with_reducible first | exact HB.out | apply below_alloc | apply pw_below_drewN | apply below_drew1 | refine below_set ?_ GE200.out) | exact HB.out))) A17.out).mono ?_); rintro e w51 ⟨v213, rfl, ho0, hb⟩; refine ⟨_, rfl, ?_⟩; have n0_ := Aside0.mk (Kd.N_elder' (by (with_reducible repeat (first | apply Kd.N_alloc | apply Kd.N_drewN | apply Kd.N_drew)); exact HO207.out) (Kd.N_base (Kd.S_N (Kd.S_bound ho0))) hb); have n1_ := Aside0.mk (Kd.N_lower (Kd.N_mono (ok' := fun k_ => some k_ ≠ (.slice Ao49 t205.length co49 : Value).ownBlock ∧ k_ ≠ gb200) (Kd.S_N (Kd.S_bound ho0)) (fun k_ hk_ => ⟨(Kd.fresh' (Kd.N_lt (by (with_reducible repeat (first | apply Kd.N_alloc | apply Kd.N_drewN | apply Kd.N_drew)); exact HO207.out)) k_ hk_.2.1), (Kd.freshB (g := gb200) (o := .cells #[.string a0_0, .slice A0_1 l0_1.length c0_1, .string a0_2] 24 (0, 0)) (by (with_reducible repeat (first | refine blk_drewN ?_ _ | refine blk_drew ?_ | refine blk_alloc ?_ _)); exact BK200.out) k_ hk_.2.1)⟩)) (below_size (by repeat (first | (with_reducible first | exact HB.out | apply below_alloc | apply pw_below_drewN | apply below_drew1 | refine below_set ?_ GE200.out) | exact HB.out)))); have n2_ := Aside0.mk (blk_below (g := gb200) (o := .cells #[.string a0_0, .slice A0_1 l0_1.length c0_1, .string a0_2] 24 (0, 0)) (by (with_reducible repeat (first | refine blk_drewN ?_ _ | refine blk_drew ?_ | refine blk_alloc ?_ _)); exact BK200.out) hb); have n3_ := Aside0.mk (below_step (by repeat (first | (with_reducible first | exact HB.out | apply below_alloc | apply pw_below_drewN | apply below_drew1 | refine below_set ?_ GE200.out) | exact HB.out)) hb); clear HO207; clear BK200; clear HB; have HO207 := n0_; have HO214 := n1_; have BK200 := n2_; have HB := n3_; clear n0_ n1_ n2_ n3_; (try clear hb); (try clear hb2); (try clear hk); (try clear hi); (try clear ho0)) | ((with_reducible refine gate_dst (N := 5) rfl ?_); refine box_event ?hg (N := 5) ?hd (cs := #[.string (⟨#[]⟩ : ByteArray), .slice none 0 0, .string (⟨#[]⟩ : ByteArray)]) (t := 32) ?hr ?_; (case hd => rfl); (case hg => rfl); (case hr => first | (go_simp; done) | (go_simp; rfl)); intro gb218 hg w52 hbox hb; have n0_ := Aside0.mk (Kd.N_below (Kd.N_elderB (by (with_reducible repeat (first | apply Kd.N_alloc | apply Kd.N_drewN | apply Kd.N_drew)); exact HO207.out) gb218 (Nat.le_of_eq hg.symm)) hb); have n1_ := Aside0.mk (Kd.N_below (Kd.N_elderB (by (with_reducible repeat (first | apply Kd.N_alloc | apply Kd.N_drewN | apply Kd.N_drew)); exact HO214.out) gb218 (Nat.le_of_eq hg.symm)) hb); have n2_ := Aside0.mk (blk_below (g := gb200) (o := .cells #[.string a0_0, .slice A0_1 l0_1.length c0_1, .string a0_2] 24 (0, 0)) (by (with_reducible repeat (first | refine blk_drewN ?_ _ | refine blk_drew ?_ | refine blk_alloc ?_ _)); exact BK200.out) hb); have n3_ := Aside0.mk (below_step (by repeat (first | (with_reducible first | exact HB.out | apply below_alloc | apply pw_below_drewN | apply below_drew1 | refine below_set ?_ GE200.out) | exact HB.out)) hb); have n4_ := Aside0.mk (hbox); have n5_ := Aside0.mk ((by rw [hg]; exact (below_size (by repeat (first | (with_reducible first | exact HB.out | apply below_alloc | apply pw_below_drewN | apply below_drew1 | refine below_set ?_ GE200.out) | exact HB.out))) : w.heap.size ≤ gb218)); have n6_ := Aside0.mk ((by rw [hg]; exact (below_size (by repeat (first | (with_reducible first | exact HB.out | apply below_alloc | apply pw_below_drewN | apply below_drew1 | refine below_set ?_ GE200.out) | exact HB.out))) : w.heap.size ≤ gb218)); have n7_ := Aside0.mk ((by rw [hg]; exact Nat.ne_of_lt (blk_lt (g := gb200) (o := .cells #[.string a0_0, .slice A0_1 l0_1.length c0_1, .string a0_2] 24 (0, 0)) (by (with_reducible repeat (first | refine blk_drewN ?_ _ | refine blk_drew ?_ | refine blk_alloc ?_ _)); exact BK200.out)) : gb200 ≠ gb218)); have n8_ := Aside0.mk ((by rw [hg]; exact Nat.ne_of_gt (blk_lt (g := gb200) (o := .cells #[.string a0_0, .slice A0_1 l0_1.length c0_1, .string a0_2] 24 (0, 0)) (by (with_reducible repeat (first | refine blk_drewN ?_ _ | refine blk_drew ?_ | refine blk_alloc ?_ _)); exact BK200.out)) : gb218 ≠ gb200)); clear HO207; clear HO214; clear BK200; clear HB; have HO207 := n0_; have HO214 := n1_; have BK200 := n2_; have HB := n3_; have BK218 := n4_; have GW218 := n5_; have GE218 := n6_; have NB200_218 := n7_; have NB218_200 := n8_; clear n0_ n1_ n2_ n3_ n4_ n5_ n6_ n7_ n8_; clear hb hbox hg; have hnb53 := NB218_200.out; have hnc53 := NB200_218.out; have hcz54_0 : w52.cell? ⟨gb218, 0, none⟩ = some (.string (⟨#[]⟩ : ByteArray)) := (blk_cell BK218.out 0).trans rfl; have hcz54_1 : w52.cell? ⟨gb218, 1, none⟩ = some (.slice none 0 0) := (blk_cell BK218.out 1).trans rfl; have hcz54_2 : w52.cell? ⟨gb218, 2, none⟩ = some (.string (⟨#[]⟩ : ByteArray)) := (blk_cell BK218.out 2).trans rfl; have hfz54_0 := blk_frozen BK218.out 0; have hfz54_1 := blk_frozen BK218.out 1; have hfz54_2 := blk_frozen BK218.out 2; obtain ⟨Ao55, co55, eo55⟩ := Kd.N_slice HO214.out; subst eo55))
            have n0_ : Aside0 (Kd.N k53 53 (((w52.setCell ⟨gb218, 0, none⟩ (.string t211)).setCell ⟨gb218, 1, none⟩ (.slice Ao55 t212.length co55)).setCell ⟨gb218, 2, none⟩ (.string t215)) w.heap.size (fun k_ => some k_ ≠ (.slice Ao55 t212.length co55 : Value).ownBlock ∧ k_ ≠ gb200 ∧ k_ ≠ gb218) (.slice Ao49 t205.length co49) t205) := ⟨by (with_reducible repeat (first | apply Kd.N_alloc | apply Kd.N_drewN | apply Kd.N_drew)); exact Kd.N_mono (Kd.N_far (p := ⟨gb218, 2, none⟩) (Kd.N_far (p := ⟨gb218, 1, none⟩) (Kd.N_far (p := ⟨gb218, 0, none⟩) (Kd.N_mono HO207.out (fun k_ hk => (⟨hk, hk.2⟩ : _ ∧ k_ ≠ gb218))) (fun _ hk => hk.2) (.string t211)) (fun _ hk => hk.2) (.slice Ao55 t212.length co55)) (fun _ hk => hk.2) (.string t215)) (fun _ hk => ⟨hk.1.1.2, ⟨hk.1.1.1, hk.1.2⟩⟩)⟩
            have n1_ : Aside0 (Kd.N k53 53 (((w52.setCell ⟨gb218, 0, none⟩ (.string t211)).setCell ⟨gb218, 1, none⟩ (.slice Ao55 t212.length co55)).setCell ⟨gb218, 2, none⟩ (.string t215)) w.heap.size (fun k_ => some k_ ≠ (.slice Ao49 t205.length co49 : Value).ownBlock ∧ k_ ≠ gb200 ∧ k_ ≠ gb218) (.slice Ao55 t212.length co55) t212) := ⟨by (with_reducible repeat (first | apply Kd.N_alloc | apply Kd.N_drewN | apply Kd.N_drew)); exact Kd.N_mono (Kd.N_far (p := ⟨gb218, 2, none⟩) (Kd.N_far (p := ⟨gb218, 1, none⟩) (Kd.N_far (p := ⟨gb218, 0, none⟩) (Kd.N_mono HO214.out (fun k_ hk => (⟨hk, hk.2⟩ : _ ∧ k_ ≠ gb218))) (fun _ hk => hk.2) (.string t211)) (fun _ hk => hk.2) (.slice Ao55 t212.length co55)) (fun _ hk => hk.2) (.string t215)) (fun _ hk => ⟨hk.1.1.1, ⟨hk.1.1.2, hk.1.2⟩⟩)⟩
            have n2_ : Aside0 ((((w52.setCell ⟨gb218, 0, none⟩ (.string t211)).setCell ⟨gb218, 1, none⟩ (.slice Ao55 t212.length co55)).setCell ⟨gb218, 2, none⟩ (.string t215)).heap[gb200]? = some (.cells #[.string a0_0, .slice A0_1 l0_1.length c0_1, .string a0_2] 24 (0, 0))) := ⟨by (with_reducible repeat (first | refine blk_drewN ?_ _ | refine blk_drew ?_ | refine blk_alloc ?_ _)); refine blk_far ?_ NB200_218.out _; (with_reducible repeat (first | refine blk_drewN ?_ _ | refine blk_drew ?_ | refine blk_alloc ?_ _)); refine blk_far ?_ NB200_218.out _; (with_reducible repeat (first | refine blk_drewN ?_ _ | refine blk_drew ?_ | refine blk_alloc ?_ _)); refine blk_far ?_ NB200_218.out _; (with_reducible repeat (first | refine blk_drewN ?_ _ | refine blk_drew ?_ | refine blk_alloc ?_ _)); exact BK200.out⟩
            have n3_ : Aside0 ((((w52.setCell ⟨gb218, 0, none⟩ (.string t211)).setCell ⟨gb218, 1, none⟩ (.slice Ao55 t212.length co55)).setCell ⟨gb218, 2, none⟩ (.string t215)).heap[gb218]? = some (.cells #[.string t211, .slice Ao55 t212.length co55, .string t215] 32 (0, 0))) := ⟨by (with_reducible repeat (first | refine blk_drewN ?_ _ | refine blk_drew ?_ | refine blk_alloc ?_ _)); refine blk_put (cs := #[.string t211, .slice Ao55 t212.length co55, .string (⟨#[]⟩ : ByteArray)]) ?_ 2 _ rfl; (with_reducible repeat (first | refine blk_drewN ?_ _ | refine blk_drew ?_ | refine blk_alloc ?_ _)); refine blk_put (cs := #[.string t211, .slice none 0 0, .string (⟨#[]⟩ : ByteArray)]) ?_ 1 _ rfl; (with_reducible repeat (first | refine blk_drewN ?_ _ | refine blk_drew ?_ | refine blk_alloc ?_ _)); refine blk_put (cs := #[.string (⟨#[]⟩ : ByteArray), .slice none 0 0, .string (⟨#[]⟩ : ByteArray)]) ?_ 0 _ rfl; (with_reducible repeat (first | refine blk_drewN ?_ _ | refine blk_drew ?_ | refine blk_alloc ?_ _)); exact BK218.out⟩
            have n4_ : Aside0 (Below w.heap.size w (((w52.setCell ⟨gb218, 0, none⟩ (.string t211)).setCell ⟨gb218, 1, none⟩ (.slice Ao55 t212.length co55)).setCell ⟨gb218, 2, none⟩ (.string t215))) := ⟨by repeat (first | (with_reducible first | exact HB.out | apply below_alloc | apply pw_below_drewN | apply below_drew1 | refine below_set ?_ GE200.out | refine below_set ?_ GE218.out) | exact HB.out)⟩
            (try clear HO207)
            (try clear HO214)
            (try clear BK200)
            (try clear BK218)
            (try clear HB)
            generalize (((w52.setCell ⟨gb218, 0, none⟩ (.string t211)).setCell ⟨gb218, 1, none⟩ (.slice Ao55 t212.length co55)).setCell ⟨gb218, 2, none⟩ (.string t215)) = w56 at n0_ n1_ n2_ n3_ n4_ ⊢
            have HO207 := n0_
            have HO214 := n1_
            have BK200 := n2_
            have BK218 := n3_
            have HB := n4_
            clear n0_ n1_ n2_ n3_ n4_
            have n0_ := Aside0.mk (Kd.N_drew HO207.out)
            have n1_ := Aside0.mk (Kd.N_drew HO214.out)
            have n2_ := Aside0.mk (blk_drew BK200.out)
            have n3_ := Aside0.mk (blk_drew BK218.out)
            have n4_ := Aside0.mk (below_drew1 HB.out)
            clear HO207
            clear HO214
            clear BK200
            clear BK218
            clear HB
            have HO207 := n0_
            have HO214 := n1_
            have BK200 := n2_
            have BK218 := n3_
            have HB := n4_
            clear n0_ n1_ n2_ n3_ n4_
            refine start_ (n := 13) (S := fun w' => True) (ds := []) #[false, false, false, false, false, false, false, false, false, false, false, false, false] (by kernel_rfl) rfl rfl trivial (fun hHeld => ?_); refine with_tabW trystlaw10_LineBack.tab7 trystlaw10_LineBack.bits7 (fun HT_ HW_ => ?_)
            generalize w56.drew = w57 at HO207 HO214 BK200 BK218 HB hHeld ⊢
            refine pure_ (i := 0) (N := some 32) (v := ?_) (a' := ?_) #[true, false, false, false, false, false, false, false, false, false, false, false, false] rfl rfl (any_of HT_.out (by kernel_rfl)) (fun _ _ _ h => h) (Or.inl ⟨by rfl, ?_⟩) ?_ ?_
            rotate_left
            · intro w'
              go_simp
              with_reducible rfl
            rotate_left
            · simp only [Act.put, List.setIfInBounds_toArray, List.set_cons_zero, List.set_cons_succ, i64_w, i32_w]
              rfl
            refine pure_ (i := 1) (N := some 33) (v := ?_) (a' := ?_) #[true, true, false, false, false, false, false, false, false, false, false, false, false] rfl rfl (any_of HT_.out (by kernel_rfl)) (fun _ _ _ h => h) (Or.inl ⟨by rfl, ?_⟩) ?_ ?_
            rotate_left
            · intro w'
              go_simp
              with_reducible rfl
            rotate_left
            · simp only [Act.put, List.setIfInBounds_toArray, List.set_cons_zero, List.set_cons_succ, i64_w, i32_w]
              rfl
            refine pure_ (i := 2) (N := some 34) (v := ?_) (a' := ?_) #[true, true, true, false, false, false, false, false, false, false, false, false, false] rfl rfl (any_of HT_.out (by kernel_rfl)) (fun _ _ _ h => h) (Or.inl ⟨by rfl, ?_⟩) ?_ ?_
            rotate_left
            · intro w'
              go_simp
              with_reducible rfl
            rotate_left
            · simp only [Act.put, List.setIfInBounds_toArray, List.set_cons_zero, List.set_cons_succ, i64_w, i32_w]
              rfl
            refine pure_ (i := 3) (N := some 35) (v := undef) (a' := ?_) #[true, true, true, true, false, false, false, false, false, false, false, false, false] rfl rfl (any_of HT_.out (by kernel_rfl)) (fun _ _ _ h => h) (Or.inr ⟨by rfl, rfl⟩) ?_ ?_
            rotate_left
            · simp only [Act.put, List.setIfInBounds_toArray, List.set_cons_zero, List.set_cons_succ, i64_w, i32_w]
              rfl
            refine pure_ (i := 4) (N := some 36) (v := undef) (a' := ?_) #[true, true, true, true, true, false, false, false, false, false, false, false, false] rfl rfl (any_of HT_.out (by kernel_rfl)) (fun _ _ _ h => h) (Or.inr ⟨by rfl, rfl⟩) ?_ ?_
            rotate_left
            · simp only [Act.put, List.setIfInBounds_toArray, List.set_cons_zero, List.set_cons_succ, i64_w, i32_w]
              rfl
            refine pure_ (i := 5) (N := some 37) (v := ?_) (a' := ?_) #[true, true, true, true, true, true, false, false, false, false, false, false, false] rfl rfl (any_of HT_.out (by kernel_rfl)) (fun _ _ _ h => h) (Or.inl ⟨by rfl, ?_⟩) ?_ ?_
            rotate_left
            · intro w'
              go_simp
              with_reducible rfl
            rotate_left
            · simp only [Act.put, List.setIfInBounds_toArray, List.set_cons_zero, List.set_cons_succ, i64_w, i32_w]
              rfl
            refine pure_ (i := 6) (N := some 38) (v := ?_) (a' := ?_) #[true, true, true, true, true, true, true, false, false, false, false, false, false] rfl rfl (any_of HT_.out (by kernel_rfl)) (fun _ _ _ h => h) (Or.inl ⟨by rfl, ?_⟩) ?_ ?_
            rotate_left
            · intro w'
              go_simp
              with_reducible rfl
            rotate_left
            · simp only [Act.put, List.setIfInBounds_toArray, List.set_cons_zero, List.set_cons_succ, i64_w, i32_w]
              rfl
            refine pure_ (i := 7) (N := some 39) (v := undef) (a' := ?_) #[true, true, true, true, true, true, true, true, false, false, false, false, false] rfl rfl (any_of HT_.out (by kernel_rfl)) (fun _ _ _ h => h) (Or.inr ⟨by rfl, rfl⟩) ?_ ?_
            rotate_left
            · simp only [Act.put, List.setIfInBounds_toArray, List.set_cons_zero, List.set_cons_succ, i64_w, i32_w]
              rfl
            refine pure_ (i := 8) (N := some 40) (v := undef) (a' := ?_) #[true, true, true, true, true, true, true, true, true, false, false, false, false] rfl rfl (any_of HT_.out (by kernel_rfl)) (fun _ _ _ h => h) (Or.inr ⟨by rfl, rfl⟩) ?_ ?_
            rotate_left
            · simp only [Act.put, List.setIfInBounds_toArray, List.set_cons_zero, List.set_cons_succ, i64_w, i32_w]
              rfl
            refine pure_ (i := 9) (N := some 41) (v := undef) (a' := ?_) #[true, true, true, true, true, true, true, true, true, true, false, false, false] rfl rfl (any_of HT_.out (by kernel_rfl)) (fun _ _ _ h => h) (Or.inr ⟨by rfl, rfl⟩) ?_ ?_
            rotate_left
            · simp only [Act.put, List.setIfInBounds_toArray, List.set_cons_zero, List.set_cons_succ, i64_w, i32_w]
              rfl
            refine pure_ (i := 10) (N := some 42) (v := undef) (a' := ?_) #[true, true, true, true, true, true, true, true, true, true, true, false, false] rfl rfl (any_of HT_.out (by kernel_rfl)) (fun _ _ _ h => h) (Or.inr ⟨by rfl, rfl⟩) ?_ ?_
            rotate_left
            · simp only [Act.put, List.setIfInBounds_toArray, List.set_cons_zero, List.set_cons_succ, i64_w, i32_w]
              rfl
            refine pure_ (i := 11) (N := some 43) (v := ?_) (a' := ?_) #[true, true, true, true, true, true, true, true, true, true, true, true, false] rfl rfl (any_of HT_.out (by kernel_rfl)) (fun _ _ _ h => h) (Or.inl ⟨by rfl, ?_⟩) ?_ ?_
            rotate_left
            · intro w'
              go_simp
              with_reducible rfl
            rotate_left
            · simp only [Act.put, List.setIfInBounds_toArray, List.set_cons_zero, List.set_cons_succ, i64_w, i32_w]
              rfl
            refine pure_ (i := 12) (N := some 2) (v := ?_) (a' := ?_) #[true, true, true, true, true, true, true, true, true, true, true, true, true] rfl rfl (any_of HT_.out (by kernel_rfl)) (fun _ _ _ h => h) (Or.inl ⟨by rfl, ?_⟩) ?_ ?_
            rotate_left
            · intro w'
              go_simp
              with_reducible rfl
            rotate_left
            · simp only [Act.put, List.setIfInBounds_toArray, List.set_cons_zero, List.set_cons_succ, i64_w, i32_w]
              rfl
            refine done_ (done_of HT_.out (by kernel_rfl)) ?_
            try go_wp2
            go_ret
            exact ⟨by first | rfl | (simp [errW_none, errW_some] <;> rfl) | (simp [*, errW_none, errW_some] <;> rfl), by repeat (first | (with_reducible first | exact HB.out | apply below_alloc | apply pw_below_drewN | apply below_drew1 | refine below_set ?_ GE200.out | refine below_set ?_ GE218.out) | exact HB.out)⟩
        · rw [if_neg c16] at H
          have c16b0 : (t210 == 0) = false := beq_eq_false_iff_ne.mpr c16
          have c16b1 : (t210 != 0) = true := bne_iff_ne.mpr c16
          obtain rfl := Option.some.inj H
          have hcz58_0 : wc.cell? ⟨gb200, 0, none⟩ = some (.string a0_0) := (blk_cell BK200.out 0).trans rfl
          have hcz58_1 : wc.cell? ⟨gb200, 1, none⟩ = some (.slice A0_1 l0_1.length c0_1) := (blk_cell BK200.out 1).trans rfl
          have hcz58_2 : wc.cell? ⟨gb200, 2, none⟩ = some (.string a0_2) := (blk_cell BK200.out 2).trans rfl
          have hfz58_0 := blk_frozen BK200.out 0
          have hfz58_1 := blk_frozen BK200.out 1
          have hfz58_2 := blk_frozen BK200.out 2
          go_wp2_with (first | ((with_reducible refine gate_callee (f := 9) rfl ?_); refine goesL_ (some 18) rfl rfl Tryz.func9 (by kernel_rfl) rfl #[.agg #[.string a0_0, .slice A0_1 l0_1.length c0_1, .string a0_2]] rfl (by (try simp only [List.map_toArray, List.map_cons, List.map_nil]); first | done | rfl | (simp only [List.length_drop, List.length_take]; rfl)) ?_; (with_reducible refine (trystlaw10_Theirs.calls kj1 a0_0 _ _ l0_1 a0_2 t204 t205 t208 _ (by first | (with_reducible exact hG) | exact GG.below hG (by repeat (first | (with_reducible first | exact HB.out | apply below_alloc | apply pw_below_drewN | apply below_drew1 | refine below_set ?_ GE200.out) | exact HB.out))) ?side1 ?side2 A14.out).mono ?_); (case side1 => repeat (first | exact (Kd.C_below HR0_1.out HB.out) | (with_reducible refine Kd.C_alloc ?_ _) | (with_reducible refine Kd.C_drewN ?_ _) | (with_reducible refine Kd.C_drew ?_))); (case side2 => exact HC0_1.out); rintro e w59 ⟨v206, rfl, ho0, hb⟩; refine ⟨_, rfl, ?_⟩; have n0_ := Aside0.mk (Kd.N_lower (Kd.N_mono (ok' := fun k_ => k_ ≠ gb200) (Kd.S_N (Kd.S_bound ho0)) (fun k_ hk_ => (Kd.freshB (g := gb200) (o := .cells #[.string a0_0, .slice A0_1 l0_1.length c0_1, .string a0_2] 24 (0, 0)) (by (with_reducible repeat (first | refine blk_drewN ?_ _ | refine blk_drew ?_ | refine blk_alloc ?_ _)); exact BK200.out) k_ hk_.2.1))) (below_size (by repeat (first | (with_reducible first | exact HB.out | apply below_alloc | apply pw_below_drewN | apply below_drew1 | refine below_set ?_ GE200.out) | exact HB.out)))); have n1_ := Aside0.mk (blk_below (g := gb200) (o := .cells #[.string a0_0, .slice A0_1 l0_1.length c0_1, .string a0_2] 24 (0, 0)) (by (with_reducible repeat (first | refine blk_drewN ?_ _ | refine blk_drew ?_ | refine blk_alloc ?_ _)); exact BK200.out) hb); have n2_ := Aside0.mk (below_step (by repeat (first | (with_reducible first | exact HB.out | apply below_alloc | apply pw_below_drewN | apply below_drew1 | refine below_set ?_ GE200.out) | exact HB.out)) hb); clear BK200; clear HB; have HO207 := n0_; have BK200 := n1_; have HB := n2_; clear n0_ n1_ n2_; (try clear hb); (try clear hb2); (try clear hk); (try clear hi); (try clear ho0); obtain ⟨Ao60, co60, eo60⟩ := Kd.N_slice HO207.out; subst eo60) | ((with_reducible refine gate_callee (f := 8) rfl ?_); refine goesL_ (some 19) rfl rfl Tryz.func8 (by kernel_rfl) rfl #[.agg #[.string t204, .slice Ao60 t205.length co60, .string t208]] rfl (by (try simp only [List.map_toArray, List.map_cons, List.map_nil]); first | done | rfl | (simp only [List.length_drop, List.length_take]; rfl)) ?_; (with_reducible refine (line_Print.calls kj1 t204 _ _ t205 t208 t209 t210 _ (by first | (with_reducible exact hG) | exact GG.below hG (by repeat (first | (with_reducible first | exact HB.out | apply below_alloc | apply pw_below_drewN | apply below_drew1 | refine below_set ?_ GE200.out) | exact HB.out))) ?side1 ?side2 A15.out).mono ?_); (case side1 => repeat (first | exact (Kd.N_reads' HO207.out).2.2 | (with_reducible refine Kd.C_alloc ?_ _) | (with_reducible refine Kd.C_drewN ?_ _) | (with_reducible refine Kd.C_drew ?_))); (case side2 => exact (Kd.N_reads' HO207.out).2.1); rintro e w61 ⟨rfl, hb⟩; refine ⟨_, rfl, ?_⟩; have n0_ := Aside0.mk (Kd.N_below (by (with_reducible repeat (first | apply Kd.N_alloc | apply Kd.N_drewN | apply Kd.N_drew)); exact HO207.out) hb); have n1_ := Aside0.mk (blk_below (g := gb200) (o := .cells #[.string a0_0, .slice A0_1 l0_1.length c0_1, .string a0_2] 24 (0, 0)) (by (with_reducible repeat (first | refine blk_drewN ?_ _ | refine blk_drew ?_ | refine blk_alloc ?_ _)); exact BK200.out) hb); have n2_ := Aside0.mk (below_step (by repeat (first | (with_reducible first | exact HB.out | apply below_alloc | apply pw_below_drewN | apply below_drew1 | refine below_set ?_ GE200.out) | exact HB.out)) hb); clear HO207; clear BK200; clear HB; have HO207 := n0_; have BK200 := n1_; have HB := n2_; clear n0_ n1_ n2_; (try clear hb); (try clear hb2); (try clear hk); (try clear hi)))
          go_ret
          exact ⟨by first | rfl | (simp [errW_none, errW_some] <;> rfl) | (simp [*, errW_none, errW_some] <;> rfl), by repeat (first | (with_reducible first | exact HB.out | apply below_alloc | apply pw_below_drewN | apply below_drew1 | refine below_set ?_ GE200.out) | exact HB.out)⟩
end Go.Proofs.YtknmbalhbecdhaaGreatDoor.Print
end
section
set_option linter.unusedVariables false
set_option linter.unusedSimpArgs false
set_option linter.unusedSectionVars false
namespace Go.Proofs.YtknmbalhbecdhaaGreatDoor.Pure
open Go.RowKit Go.Proofs.YtknmbalhbecdhaaGreatDoor.Print Go.Proofs.YtknmbalhbecdhaaGreatDoorW.PrintWords Go.Proofs.YtknmbalhbecdhaaGreatDoorW.PrintLast Go.Proofs.YtknmbalhbecdhaaGreatDoorW.PrintMore
def ofP (x : LP) : RP := ⟨x.f0, x.f1⟩
theorem ofP_toP : ∀ l : List RP, (l.map toP).map ofP = l
  | [] => rfl
  | p :: t => by rw [List.map_cons, List.map_cons, ofP_toP t]; rfl
theorem ours_ev (nm v : ByteArray) (l : List LP) (hl : l.length < 3518437208883) :
    ∀ (d i : Nat) (acc : List RP), i + d = l.length → acc.length = i → Ev (fun k => trystlaw10_Ours.l0 k (l.length : Int) (i : Int) nm l v nm acc v) (nm, acc ++ (l.drop i).map ofP, v) := by
  intro d
  induction d with
  | zero =>
    intro i acc hi ha
    rw [List.drop_eq_nil_of_le (by omega), List.map_nil, List.append_nil]
    exact Ev.step (f := fun _ => some (nm, acc, v)) (fun k => by simp only [trystlaw10_Ours.l0]; rw [if_neg (by omega)]) (Ev.now _)
  | succ d ih =>
    intro i acc hi ha
    have hil : i < l.length := by omega
    have := ih (i + 1) (acc ++ [ofP l[i]]) (by omega) (by simp [ha])
    rw [List.drop_eq_getElem_cons hil, List.map_cons, List.append_cons]
    refine Ev.step (fun k => ?_) this
    simp only [trystlaw10_Ours.l0]
    rw [if_pos (by omega), if_pos (by omega), if_pos (by omega), rdP l i hil, if_pos (by omega), wrapS i _ hil (by omega)]
    rfl
theorem ours (nm v : ByteArray) (l : List LP) (hl : l.length < 3518437208883) : Ev (fun k => trystlaw10_Ours.f k nm l v) (nm, l.map ofP, v) := by
  have := ours_ev nm v l hl l.length 0 [] (by omega) rfl
  rw [List.nil_append, List.drop_zero] at this
  exact this
theorem emptyL : (⟨#[]⟩ : ByteArray).toList = [] := by rw [Lib.toList_data]
theorem lineBack_pure (a : ByteArray) (x : List RP) (v : ByteArray) (hn : a.size ≤ 140737488351232) (hv : v.size ≤ 140737488351232) (hl : x.length < 3518437208883) (hx : ∀ p ∈ x, p.f1.length < 8796093022208) (hs : ∀ p ∈ x, ParB' (toP p)) :
    ∃ k, trystlaw10_LineBack.f k a x v = some true := by
  have hno : Ev (fun k => trystlaw10_LineBack.j0 k true a x v) true :=
    Ev.step (f := fun k => (trystlaw10_awake.f k).bind fun t => some t) (fun k => by simp only [trystlaw10_LineBack.j0]; rfl) (Ev.bind awake10 (Ev.now _))
  obtain ⟨b, hb, hb2⟩ := few_line a v x hn hv hl hx hs
  have hsm : ∀ p ∈ x.map toP, ParB' p := fun p hp => by obtain ⟨q, hq, rfl⟩ := List.mem_map.1 hp; exact hs q hq
  refine Ev.rounds (r := true) ?_
  refine Ev.bind awake10 ?_
  refine Ev.congr (f := fun k => (trystlaw10_Few.f k a x v).bind fun t => trystlaw10_LineBack.j0 k (!t) a x v) (fun k => by rw [if_pos rfl]) ?_
  refine Ev.bind hb ?_
  cases b with
  | false => exact hno
  | true =>
    have hb3 := hb2 rfl
    refine Ev.step (fun k => by simp only [trystlaw10_LineBack.j0]; rw [if_neg (by simp)]) ?_
    refine Ev.bind (theirs a v x hl hx) ?_
    refine Ev.bind (printL a v (x.map toP) hn hv hsm (fun h => by have := (hb3 h).1; omega)) ?_
    unfold printR
    cases hf : formR a (x.map toP) v with
    | false =>
      rw [if_neg (by simp)]
      exact Ev.congr (f := fun _ => some true) (fun k => by rw [if_neg (by decide)]; show some ((⟨#[]⟩ : ByteArray).toList == []) = some true; rw [emptyL]; rfl) (Ev.now _)
    | true =>
      rw [if_pos rfl]
      unfold lineR
      by_cases h2 : 2000 < (lineT a (x.map toP) v).length
      · rw [if_pos h2]
        exact Ev.congr (f := fun _ => some true) (fun k => by rw [if_neg (by decide)]; show some ((⟨#[]⟩ : ByteArray).toList == []) = some true; rw [emptyL]; rfl) (Ev.now _)
      · rw [if_neg h2]
        refine Ev.congr (fun k => by rw [if_pos rfl]) ?_
        refine Ev.bind (parse_line a v (x.map toP) hf (by omega)) ?_
        refine Ev.congr (fun k => by show (if (0 : Int) = 0 then (if (0 : Int) = 0 then _ else _) else _) = _; rw [if_pos rfl, if_pos rfl]) ?_
        refine Ev.bind (ours a v (x.map toP) (by rw [List.length_map]; exact hl)) ?_
        rw [ofP_toP]
        have hsm := same10 a v a v x x (by omega) (fun p hp => by have := hx p hp; omega)
        have he : eqL a (x.map toP) v a (x.map toP) v = true := by unfold eqL; rw [eqPs_self, decide_eq_true rfl, decide_eq_true rfl]; rfl
        rw [he] at hsm
        exact Ev.bind hsm (Ev.now _)
end Go.Proofs.YtknmbalhbecdhaaGreatDoor.Pure
end
section
set_option linter.unusedVariables false
namespace Go.Proofs.YtknmbalhbecdhaaGreatDoor.Tabs
open Go Go.RowKit Go.Lib Go.Proofs.YtknmbalhbecdhaaGreatDoor.Args
theorem tabsLineB {W : World} (h : laidMetH Tryz.prog Rows.lineBackRow.laid W) : Print.GG W := by
  rw [MakeChecks.laidMetH_plain _ _ _ (by kernel_rfl)] at h
  exact gg_of_laid h
theorem walkLineB (v0 : Value) (z0 : RLine) (w : World) (hG : Print.GG w) (w0 : IsLine w v0 z0) :
    Calls Tryz.prog 4 #[v0] w fun e w' => e = .returned (.bool true) ∧ Below w.heap.size w w' := by
  obtain ⟨b0, A0, c0, rfl, l0, h0⟩ := w0
  obtain ⟨k, hk⟩ := Pure.lineBack_pure z0.1 z0.2.1 z0.2.2 b0.1 b0.2.2 (by have := b0.2.1.1; omega) (fun p hp => by have := (b0.2.1.2 p hp).2.1; omega) (fun p hp => ⟨(b0.2.1.2 p hp).1, (b0.2.1.2 p hp).2.2⟩)
  exact Print.trystlaw10_LineBack.calls k z0.1 A0 c0 z0.2.1 z0.2.2 true w hG h0 l0 hk
end Go.Proofs.YtknmbalhbecdhaaGreatDoor.Tabs
end
