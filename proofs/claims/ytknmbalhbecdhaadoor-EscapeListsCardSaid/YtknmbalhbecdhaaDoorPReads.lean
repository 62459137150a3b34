/- Plain: the law EscapeReads of the printed functions. -/
import Derived.Test.YtknmbalhbecdhaaDoorPVal
import Derived.Lib.IndexLaws
import Derived.Lib.SmallJoins
set_option linter.unusedVariables false
set_option linter.unusedSimpArgs false
set_option linter.unusedSectionVars false
namespace Go.Proofs.YtknmbalhbecdhaaDoor.Pure
open Go.RowKit Go.Proofs.YtknmbalhbecdhaaDoor.Print Go.Proofs.YtknmbalhbecdhaaDoorW.PrintWords Go.Proofs.YtknmbalhbecdhaaDoorW.PrintLast Go.Proofs.YtknmbalhbecdhaaDoorW.PrintMore

theorem nil_of (s : ByteArray) (h : s.size = 0) : s.data.toList = [] := by
  apply List.length_eq_zero_iff.1; rw [Array.length_toList]; exact h
theorem ext_one (s : ByteArray) : (s.extract 1 s.size).data.toList = s.data.toList.drop 1 := by
  rw [ByteArray.data_extract, Array.toList_extract, List.extract_eq_take_drop]
  exact List.take_of_length_le (by rw [List.length_drop, Array.length_toList]; exact Nat.le_refl _)
/-! ### the reference's Value, unquoted -/
theorem l1_end (k : Nat) (s : ByteArray) : trystref08_Value.l1 (k + 1) s (s.size : Int) ((s.size : Nat) : Int) = trystref08_Value.j3 k s := by
  simp only [trystref08_Value.l1]
  rw [if_neg (by omega)]
def qB (c : UInt8) : Bool := c == 34 || c == 58 || c == 59 || c == 44
theorem l1_go (k : Nat) (s : ByteArray) (i : Nat) (hi : i < s.size) (hs : s.size ≤ 140737488351232) (c : UInt8) (hb : bt s (i : Int) = (c.toNat : Int)) :
    trystref08_Value.l1 (k + 1) s (s.size : Int) (i : Int) = if qB c = true then some (⟨#[]⟩, 7) else trystref08_Value.l1 k s (s.size : Int) ((i + 1 : Nat) : Int) := by
  simp only [trystref08_Value.l1, hb]
  rw [if_pos (by omega), if_pos (by omega), if_pos (by omega), wrap_one i (by omega)]
  by_cases h1 : c = 34
  · rw [if_pos (show (c.toNat : Int) = 34 from is_nat c 34 (by omega) h1), if_pos (by rw [h1]; rfl)]
  rw [if_neg (show ¬ (c.toNat : Int) = 34 from ne_nat c 34 (by omega) h1)]
  by_cases h2 : c = 58
  · rw [if_pos (show (c.toNat : Int) = 58 from is_nat c 58 (by omega) h2), if_pos (by rw [h2]; rfl)]
  rw [if_neg (show ¬ (c.toNat : Int) = 58 from ne_nat c 58 (by omega) h2)]
  by_cases h3 : c = 59
  · rw [if_pos (show (c.toNat : Int) = 59 from is_nat c 59 (by omega) h3), if_pos (by rw [h3]; rfl)]
  rw [if_neg (show ¬ (c.toNat : Int) = 59 from ne_nat c 59 (by omega) h3)]
  by_cases h4 : c = 44
  · rw [if_pos (show (c.toNat : Int) = 44 from is_nat c 44 (by omega) h4), if_pos (by rw [h4]; rfl)]
  rw [if_neg (show ¬ (c.toNat : Int) = 44 from ne_nat c 44 (by omega) h4), if_neg (by simp [qB, h1, h2, h3, h4])]
def openR (s : ByteArray) : ByteArray × Int := if s.data.toList.any qB = true then (⟨#[]⟩, 7) else (⟨(carL s.data.toList).toArray⟩, 0)
theorem l1_ev (s : ByteArray) (hs : s.size ≤ 140737488351232) : ∀ (n i : Nat), s.size - i ≤ n → i ≤ s.size →
    Ev (fun k => trystref08_Value.l1 k s (s.size : Int) (i : Int)) (if (s.data.toList.drop i).any qB = true then (⟨#[]⟩, 7) else (⟨(carL s.data.toList).toArray⟩, 0))
  | 0, i, h, hi => by
    obtain rfl : i = s.size := by omega
    rw [List.drop_of_length_le (by simp)]
    exact Ev.step (fun k => l1_end k s) (j3_ev s hs)
  | n + 1, i, h, hi => by
    by_cases hlt : i < s.size
    case neg =>
      obtain rfl : i = s.size := by omega
      rw [List.drop_of_length_le (by simp)]
      exact Ev.step (fun k => l1_end k s) (j3_ev s hs)
    rw [drop_at s i hlt]
    have hb := bt_nat s i
    have ih := l1_ev s hs n (i + 1) (by omega) (by omega)
    generalize s.data.toList.getD i 0 = c at *
    refine Ev.step (fun k => l1_go k s i hlt hs c hb) ?_
    rw [List.any_cons]
    cases hq : qB c
    · simpa using ih
    · exact Ev.now _
theorem contains_any (l : List UInt8) : Lib.containsAny l [34, 58, 59, 44] = l.any qB := by
  unfold Lib.containsAny
  induction l with
  | nil => rfl
  | cons b t ih =>
    have hge := Lib.indexAny_ge [34, 58, 59, 44] t
    have hq : ([34, 58, 59, 44] : List UInt8).contains b = qB b := by
      simp [qB, List.contains_cons, Bool.or_assoc]; rfl
    rw [List.any_cons, ← ih, Lib.indexAny, hq]
    cases hb : qB b
    · simp only [Bool.false_eq_true, if_false, Bool.false_or]
      by_cases h1 : Lib.indexAny t [34, 58, 59, 44] = -1
      · rw [h1]; rfl
      · have : (Lib.indexAny t [34, 58, 59, 44] == -1) = false := beq_eq_false_iff_ne.2 h1
        rw [this]
        have h0 : 0 ≤ Lib.indexAny t [34, 58, 59, 44] := by omega
        simp [h0]; omega
    · simp
/-! ### quoted -/
theorem wrap_sub (m c : Nat) (h : m ≤ 140737488351232) (hc : c ≤ m) : wrap64 ((m : Int) - (c : Int)) = ((m - c : Nat) : Int) := by unfold wrap64; omega
theorem l0_hit (k : Nat) (s : ByteArray) (i : Nat) (hi : i + 1 < s.size) (hs : s.size ≤ 140737488351232) (c : UInt8) (hb : bt s (i : Int) = (c.toNat : Int)) :
    trystref08_Value.l0 (k + 1) s (i : Int) = if c = 34 then some (⟨#[]⟩, 7) else trystref08_Value.l0 k s ((i + 1 : Nat) : Int) := by
  have hw : wrap64 ((s.size : Int) - 1) = ((s.size - 1 : Nat) : Int) := wrap_sub s.size 1 hs (by omega)
  simp only [trystref08_Value.l0, hb, hw]
  rw [if_pos (by omega), if_pos (by omega), if_pos (by omega), wrap_one i (by omega)]
  by_cases h1 : c = 34
  · rw [if_pos (show (c.toNat : Int) = 34 from is_nat c 34 (by omega) h1), if_pos h1]
  · rw [if_neg (show ¬ (c.toNat : Int) = 34 from ne_nat c 34 (by omega) h1), if_neg h1]
theorem l0_one (k : Nat) (s : ByteArray) (h : s.size = 1) : trystref08_Value.l0 (k + 1) s 1 = some (⟨#[]⟩, 7) := by
  have hw : wrap64 ((s.size : Int) - 1) = ((s.size - 1 : Nat) : Int) := wrap_sub s.size 1 (by omega) (by omega)
  simp only [trystref08_Value.l0, hw]
  rw [if_neg (by omega), if_pos (by omega)]
theorem q_end (k : Nat) (s : ByteArray) (i : Nat) (hi : i + 1 = s.size) (h2 : 2 ≤ s.size) (hs : s.size ≤ 140737488351232) (c : UInt8) (hb : bt s (i : Int) = (c.toNat : Int)) :
    trystref08_Value.l0 (k + 1) s (i : Int) = if c = 34 then trystref08_Value.j3 k (s.extract 1 i) else some (⟨#[]⟩, 7) := by
  have hw : wrap64 ((s.size : Int) - 1) = (i : Int) := by rw [show (1 : Int) = ((1 : Nat) : Int) from rfl, wrap_sub s.size 1 (by omega) (by omega)]; omega
  simp only [trystref08_Value.l0, hw, hb]
  rw [if_neg (by omega), if_neg (by omega), if_pos (by omega), if_pos (by omega)]
  by_cases h1 : c = 34
  · rw [if_pos (show (c.toNat : Int) = 34 from is_nat c 34 (by omega) h1), if_pos h1, if_pos (by omega), if_pos (by omega)]
    rfl
  · rw [if_neg (show ¬ (c.toNat : Int) = 34 from ne_nat c 34 (by omega) h1), if_neg h1]
theorem l0_ev (s : ByteArray) (hs : s.size ≤ 140737488351232) (h2 : 2 ≤ s.size) : ∀ (n i : Nat), s.size - i ≤ n → i + 1 ≤ s.size →
    Ev (fun k => trystref08_Value.l0 k s (i : Int)) (if Lib.indexByte (s.data.toList.drop i) 34 = ((s.size - 1 - i : Nat) : Int) then (⟨(carL (s.extract 1 (s.size - 1)).data.toList).toArray⟩, 0) else (⟨#[]⟩, 7))
  | 0, i, h, hi => by omega
  | n + 1, i, h, hi => by
    rw [drop_at s i (by omega)]
    have hb := bt_nat s i
    by_cases hlt : i + 1 < s.size
    case neg =>
      have he : i = s.size - 1 := by omega
      rw [List.drop_of_length_le (by simp; omega)]
      generalize s.data.toList.getD i 0 = c at *
      refine Ev.step (fun k => q_end k s i (by omega) h2 hs c hb) ?_
      have e1 : Lib.indexByte [c] 34 = if c = 34 then 0 else -1 := by
        simp [Lib.indexByte]
      rw [e1]
      by_cases h1 : c = 34
      · rw [if_pos h1, if_pos (by omega)]
        simp only [if_pos h1]
        rw [← he]
        exact j3_ev _ (by rw [ByteArray.size_extract]; omega)
      · rw [if_neg h1, if_neg (by omega)]
        simp only [if_neg h1]
        exact Ev.now _
    have ih := l0_ev s hs h2 n (i + 1) (by omega) (by omega)
    generalize s.data.toList.getD i 0 = c at *
    have hge := Lib.indexByte_ge (s.data.toList.drop (i + 1)) 34
    refine Ev.step (fun k => l0_hit k s i hlt hs c hb) ?_
    by_cases h1 : c = 34
    · have e1 : Lib.indexByte (c :: s.data.toList.drop (i + 1)) 34 = 0 := by rw [Lib.indexByte, h1]; rfl
      rw [e1, if_neg (by omega)]
      simp only [if_pos h1]
      exact Ev.now _
    · have e0 : (c == 34) = false := beq_eq_false_iff_ne.2 h1
      have e1 : Lib.indexByte (c :: s.data.toList.drop (i + 1)) 34 = ((s.size - 1 - i : Nat) : Int) ↔ Lib.indexByte (s.data.toList.drop (i + 1)) 34 = ((s.size - 1 - (i + 1) : Nat) : Int) := by
        rw [Lib.indexByte, e0]
        simp only [Bool.false_eq_true, if_false]
        by_cases hm : Lib.indexByte (s.data.toList.drop (i + 1)) 34 = -1
        · rw [hm]; simp only [beq_self_eq_true, if_true]; omega
        · have : (Lib.indexByte (s.data.toList.drop (i + 1)) 34 == -1) = false := beq_eq_false_iff_ne.2 hm
          rw [this]; simp only [Bool.false_eq_true, if_false]; omega
      simp only [if_neg h1, e1]
      exact ih
/-- What is read of a parameter's value. -/
def valB (s : ByteArray) : ByteArray × Int :=
  if s.data.toList.getD 0 0 = 34 then
    (if s.size < 2 then (⟨#[]⟩, 7) else if Lib.indexByte (s.data.toList.drop 1) 34 = ((s.size - 2 : Nat) : Int) then (⟨(carL (s.extract 1 (s.size - 1)).data.toList).toArray⟩, 0) else (⟨#[]⟩, 7))
  else openR s
def valA (s : ByteArray) : ByteArray × Int := if cleanR false s.data.toList = 0 then valB s else (⟨#[]⟩, cleanR false s.data.toList)
theorem ref_value (s : ByteArray) (hs : s.size ≤ 140737488351232) : Ev (fun k => trystref08_Value.f k s) (valA s) := by
  refine Ev.bind (refClean s false hs) ?_
  unfold valA
  by_cases h0 : cleanR false s.data.toList = 0
  case neg => simp only [if_neg h0]; exact Ev.now _
  simp only [if_pos h0]
  have hb := bt_nat s 0
  have hopen : Ev (fun k => trystref08_Value.l1 k s (s.size : Int) 0) (openR s) := by
    have := l1_ev s hs s.size 0 (by omega) (by omega)
    exact this
  by_cases hz : 0 < s.size
  case neg =>
    simp only [if_neg (show ¬ (s.size : Int) > 0 by omega)]
    have : s.data.toList = [] := nil_of s (by omega)
    have e : valB s = openR s := by unfold valB; rw [this, if_neg (by decide)]
    rw [e]
    exact Ev.step (f := fun k => trystref08_Value.l1 k s (s.size : Int) 0) (fun k => by simp only [trystref08_Value.j0]; rw [if_neg (by simp)]) hopen
  simp only [if_pos (show (s.size : Int) > 0 by omega), if_pos (show (0 : Int) < (s.size : Int) by omega)]
  unfold valB
  have hb' : bt s 0 = ((s.data.toList.getD 0 0).toNat : Int) := hb
  rw [hb']
  have hl := l0_ev s hs
  by_cases h34 : s.data.toList.getD 0 0 = 34
  · have e : (((s.data.toList.getD 0 0).toNat : Int) == 34) = true := by rw [h34]; rfl
    rw [if_pos h34, e]
    refine Ev.step (f := fun k => trystref08_Value.l0 k s 1) (fun k => by simp only [trystref08_Value.j0, if_true]) ?_
    by_cases h2 : s.size < 2
    · rw [if_pos h2]
      exact Ev.step (fun k => l0_one k s (by omega)) (Ev.now _)
    · rw [if_neg h2]
      have := hl (by omega) s.size 1 (by omega) (by omega)
      rw [show s.size - 1 - 1 = s.size - 2 by omega] at this
      exact this
  · have e : (((s.data.toList.getD 0 0).toNat : Int) == 34) = false := beq_eq_false_iff_ne.2 (show ¬ ((s.data.toList.getD 0 0).toNat : Int) = 34 from ne_nat _ 34 (by omega) h34)
    rw [if_neg h34, e]
    exact Ev.step (f := fun k => trystref08_Value.l1 k s (s.size : Int) 0) (fun k => by simp only [trystref08_Value.j0]; rw [if_neg (by simp)]) hopen
theorem has_prefix (s : ByteArray) : strings_HasPrefix.f s ⟨#[34]⟩ = some (decide (s.data.toList.getD 0 0 = 34)) := by
  have h1 : ((⟨#[34]⟩ : ByteArray).size : Int) = 1 := rfl
  simp only [strings_HasPrefix.f, stringslite_HasPrefix.f, h1]
  by_cases hz : 1 ≤ s.size
  · rw [if_pos (by omega), if_pos (by omega), if_pos (by omega)]
    simp only [Option.bind_some]
    congr 1
    have e : (s.extract 0 (1 : Int).toNat).toList = [s.data.toList.getD 0 0] := by
      rw [Lib.toList_data, show (1 : Int).toNat = 1 from rfl, Lib.extract_from_zero]
      have := drop_at s 0 (by omega)
      rw [List.drop_zero] at this
      rw [this]; rfl
    rw [e, Lib.toList_data]
    by_cases h : s.data.toList.getD 0 0 = 34
    · rw [h]; rfl
    · rw [decide_eq_false h]; exact beq_eq_false_iff_ne.2 (by intro e; exact h (List.head_eq_of_cons_eq e))
  · rw [if_neg (by omega)]
    have : s.data.toList = [] := nil_of s (by omega)
    rw [this]; rfl
theorem esc_value (s : ByteArray) (hs : s.size < 4294967281) : Ev (fun k => escape_Value.f k s) (valA s) := by
  refine Ev.bind (escClean s false (by omega)) ?_
  unfold valA
  by_cases h0 : cleanR false s.data.toList = 0
  case neg => simp only [if_neg h0]; exact Ev.now _
  simp only [if_pos h0, has_prefix, Option.bind_some]
  unfold valB
  by_cases h34 : s.data.toList.getD 0 0 = 34
  · have hz : 1 ≤ s.size := by
      rcases Nat.eq_zero_or_pos s.size with h | h
      · have : s.data.toList = [] := nil_of s (by omega)
        rw [this] at h34; exact absurd h34 (by decide)
      · omega
    rw [if_pos h34]
    simp only [decide_eq_true h34, if_true]
    by_cases h2 : s.size < 2
    · simp only [if_pos h2, if_pos (show (s.size : Int) < 2 by omega)]; exact Ev.now _
    · have e1 : (s.extract 1 s.size).data.toList = s.data.toList.drop 1 := ext_one s
      have e2 : wrap64 ((s.size : Int) - 2) = ((s.size - 2 : Nat) : Int) := wrap_sub s.size 2 (by omega) (by omega)
      have e3 : wrap64 ((s.size : Int) - 1) = ((s.size - 1 : Nat) : Int) := wrap_sub s.size 1 (by omega) (by omega)
      have e4 : (34 : Int).toNat.toUInt8 = 34 := rfl
      simp only [if_neg h2, if_neg (show ¬ (s.size : Int) < 2 by omega), if_pos (show (1 : Int) ≤ (s.size : Int) by omega), strings_IndexByte.f, Option.bind_some, e1, e2, e3, e4]
      by_cases h3 : Lib.indexByte (s.data.toList.drop 1) 34 = ((s.size - 2 : Nat) : Int)
      · simp only [if_pos h3]
        rw [if_pos (by omega), if_pos (by omega)]
        have e5 : escape_caret.f (s.extract 1 (s.size - 1)) = some ⟨(carL (s.extract 1 (s.size - 1)).data.toList).toArray⟩ := by
          unfold escape_caret.f; rw [if_pos (by rw [ByteArray.size_extract]; omega)]
        simp only [Int.toNat_natCast, e5, Option.bind_some]
        exact Ev.now _
      · simp only [if_neg h3]; exact Ev.now _
  · rw [if_neg h34]
    simp only [decide_eq_false h34, Bool.false_eq_true, if_false]
    have ec : strings_ContainsAny.f s ⟨#[34, 58, 59, 44]⟩ = some (s.data.toList.any qB) := by
      unfold strings_ContainsAny.f
      rw [if_pos ⟨hs, by decide, by decide, by decide⟩, ← contains_any]
    simp only [ec, Option.bind_some]
    unfold openR
    cases s.data.toList.any qB
    · simp only [Bool.false_eq_true, if_false]
      have e5 : escape_caret.f s = some ⟨(carL s.data.toList).toArray⟩ := by
        unfold escape_caret.f; rw [if_pos (by omega)]
      simp only [e5, Option.bind_some]
      exact Ev.now _
    · simp only [if_true]; exact Ev.now _
end Go.Proofs.YtknmbalhbecdhaaDoor.Pure
