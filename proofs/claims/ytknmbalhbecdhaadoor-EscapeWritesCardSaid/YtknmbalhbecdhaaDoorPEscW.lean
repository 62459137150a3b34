/- Plain: the reference's Text and Param, and the law EscapeWrites. -/
import Derived.Test.YtknmbalhbecdhaaDoorPEscS
import Derived.Test.YtknmbalhbecdhaaDoorPrint4
import Derived.Test.YtknmbalhbecdhaaDoorPrint5
import Derived.Lib.LazyBuf
set_option linter.unusedVariables false
set_option linter.unusedSimpArgs false
set_option linter.unusedSectionVars false
namespace Go.Proofs.YtknmbalhbecdhaaDoor.Pure
open Go.RowKit Go.Proofs.YtknmbalhbecdhaaDoor.Print Go.Proofs.YtknmbalhbecdhaaDoorW.PrintWords Go.Proofs.YtknmbalhbecdhaaDoorW.PrintLast Go.Proofs.YtknmbalhbecdhaaDoorW.PrintMore

def wI (L : List UInt8) : List Int := L.map fun b => (b.toNat : Int)
theorem str_wI (L : List UInt8) : strOfNums (wI L) = ⟨L.toArray⟩ := by simp only [wI]; exact Go.Lib.Lz.strOfNums_map L
theorem wI_len (L : List UInt8) : (wI L).length = L.length := by simp [wI]
theorem wI_app (L M : List UInt8) : wI L ++ wI M = wI (L ++ M) := by simp [wI]
theorem is_natW (c : UInt8) (n : Nat) (hn : n < 256) (h : c = n.toUInt8) : (c.toNat : Int) = (n : Int) := by subst h; simp; omega
theorem escT_consW (c : UInt8) (t : List UInt8) : escT (c :: t) = escB c ++ escT t := by simp [escT]
theorem tx_step (k : Nat) (s : ByteArray) (A : List UInt8) (i : Nat) (hi : i < s.size) (hs : s.size ≤ 100000) (hA : A.length ≤ 1000000) (c : UInt8) (hb : bt s (i : Int) = (c.toNat : Int)) :
    trystref08_Text.l0 (k + 1) s (wI A) (s.size : Int) (i : Int) = trystref08_Text.l0 k s (wI (A ++ escB c)) (s.size : Int) ((i + 1 : Nat) : Int) := by
  have e2 : ([92, 110] : List Int) = wI [92, 110] := rfl
  have e1 : ((92 : Int) :: wI [c]) = wI [92, c] := rfl
  have e0 : ([(c.toNat : Int)] : List Int) = wI [c] := rfl
  simp only [trystref08_Text.l0, hb, Option.bind_some, e2, e1, e0, wI_app, wI_len]
  rw [if_pos (by omega), if_pos (by omega), if_pos (by omega), wrap_one i (by omega)]
  unfold escB
  by_cases h10 : c = 10
  · rw [if_pos (show (c.toNat : Int) = 10 from is_natW c 10 (by omega) h10), if_pos h10, if_pos (by simp; omega)]
  rw [if_neg (show ¬ (c.toNat : Int) = 10 from ne_nat c 10 (by omega) h10), if_neg h10]
  by_cases h92 : c = 92
  · rw [if_pos (show (c.toNat : Int) = 92 from is_natW c 92 (by omega) h92), if_pos (show c = 92 ∨ c = 59 ∨ c = 44 from .inl h92), if_pos (by simp; omega)]
  rw [if_neg (show ¬ (c.toNat : Int) = 92 from ne_nat c 92 (by omega) h92)]
  by_cases h59 : c = 59
  · rw [if_pos (show (c.toNat : Int) = 59 from is_natW c 59 (by omega) h59), if_pos (show c = 92 ∨ c = 59 ∨ c = 44 from .inr (.inl h59)), if_pos (by simp; omega)]
  rw [if_neg (show ¬ (c.toNat : Int) = 59 from ne_nat c 59 (by omega) h59)]
  by_cases h44 : c = 44
  · rw [if_pos (show (c.toNat : Int) = 44 from is_natW c 44 (by omega) h44), if_pos (show c = 92 ∨ c = 59 ∨ c = 44 from .inr (.inr h44)), if_pos (by simp; omega)]
  rw [if_neg (show ¬ (c.toNat : Int) = 44 from ne_nat c 44 (by omega) h44), if_neg (show ¬ (c = 92 ∨ c = 59 ∨ c = 44) by simp [h92, h59, h44]), if_pos (by omega)]
theorem tx_ev (s : ByteArray) (hs : s.size ≤ 100000) : ∀ (n i : Nat) (A : List UInt8), s.size - i ≤ n → i ≤ s.size → A.length ≤ 2 * i →
    Ev (fun k => trystref08_Text.l0 k s (wI A) (s.size : Int) (i : Int)) (⟨(A ++ escT (s.data.toList.drop i)).toArray⟩, 0)
  | 0, i, A, hn, hi, hA => by
    obtain rfl : i = s.size := by omega
    rw [List.drop_of_length_le (by simp), show escT [] = [] from rfl, List.append_nil]
    exact Ev.step (f := fun _ => some (⟨A.toArray⟩, 0)) (fun k => by simp only [trystref08_Text.l0]; rw [if_neg (by omega), str_wI]) (Ev.now _)
  | n + 1, i, A, hn, hi, hA => by
    by_cases hlt : i < s.size
    case neg => exact tx_ev s hs n i A (by omega) hi hA
    have hb := bt_nat s i
    rw [drop_at s i hlt, escT_consW]
    generalize s.data.toList.getD i 0 = c at *
    have hle := escB_le c
    refine Ev.step (fun k => tx_step k s A i hlt hs (by omega) c hb) ?_
    have ih := tx_ev s hs n (i + 1) (A ++ escB c) (by omega) (by omega) (by rw [List.length_append]; omega)
    rw [List.append_assoc] at ih
    exact ih
theorem ref_text (s : ByteArray) (hs : s.size ≤ 100000) : Ev (fun k => trystref08_Text.f k s) (textW s) := by
  refine Ev.bind (refClean s true (by omega)) ?_
  unfold textW
  by_cases h0 : cleanR true s.data.toList = 0
  · simp only [if_pos h0]
    have := tx_ev s hs s.size 0 [] (by omega) (by omega) (by simp)
    rw [List.drop_zero, List.nil_append] at this
    exact this
  · simp only [if_neg h0]; exact Ev.now _
theorem pa_step (k : Nat) (s : ByteArray) (A : List UInt8) (f : Bool) (i : Nat) (hi : i < s.size) (hs : s.size ≤ 100000) (hA : A.length ≤ 1000000) (c : UInt8) (hb : bt s (i : Int) = (c.toNat : Int)) :
    trystref08_Param.l0 (k + 1) s (wI A) f (s.size : Int) (i : Int) = trystref08_Param.l0 k s (wI (A ++ parB c)) (f || quoB c) (s.size : Int) ((i + 1 : Nat) : Int) := by
  have e3 : ([94, 94] : List Int) = wI [94, 94] := rfl
  have e2 : ([94, 110] : List Int) = wI [94, 110] := rfl
  have e1 : ([94, 39] : List Int) = wI [94, 39] := rfl
  have e0 : ([(c.toNat : Int)] : List Int) = wI [c] := rfl
  simp only [trystref08_Param.l0, hb, Option.bind_some, e3, e2, e1, e0, wI_app, wI_len]
  rw [if_pos (by omega), if_pos (by omega), if_pos (by omega), wrap_one i (by omega)]
  unfold parB
  by_cases h94 : c = 94
  · rw [if_pos (show (c.toNat : Int) = 94 from is_natW c 94 (by omega) h94), if_pos h94, if_pos (by simp; omega), h94, show quoB 94 = false from rfl, Bool.or_false]
  rw [if_neg (show ¬ (c.toNat : Int) = 94 from ne_nat c 94 (by omega) h94), if_neg h94]
  by_cases h10 : c = 10
  · rw [if_pos (show (c.toNat : Int) = 10 from is_natW c 10 (by omega) h10), if_pos h10, if_pos (by simp; omega), h10, show quoB 10 = false from rfl, Bool.or_false]
  rw [if_neg (show ¬ (c.toNat : Int) = 10 from ne_nat c 10 (by omega) h10), if_neg h10]
  by_cases h34 : c = 34
  · rw [if_pos (show (c.toNat : Int) = 34 from is_natW c 34 (by omega) h34), if_pos h34, if_pos (by simp; omega), h34, show quoB 34 = false from rfl, Bool.or_false]
  rw [if_neg (show ¬ (c.toNat : Int) = 34 from ne_nat c 34 (by omega) h34), if_neg h34]
  cases f
  · rw [if_neg (by simp), Bool.false_or]
    unfold quoB
    by_cases h58 : c = 58
    · rw [if_pos (show (c.toNat : Int) = 58 from is_natW c 58 (by omega) h58), if_pos (by omega), h58]; rfl
    rw [if_neg (show ¬ (c.toNat : Int) = 58 from ne_nat c 58 (by omega) h58)]
    by_cases h59 : c = 59
    · rw [if_pos (show (c.toNat : Int) = 59 from is_natW c 59 (by omega) h59), if_pos (by omega), h59]; rfl
    rw [if_neg (show ¬ (c.toNat : Int) = 59 from ne_nat c 59 (by omega) h59), if_pos (by omega), beq_eq_false_iff_ne.2 h58, beq_eq_false_iff_ne.2 h59, Bool.false_or, Bool.false_or]
    congr 1
    by_cases h44 : c = 44
    · rw [h44]; rfl
    · rw [beq_eq_false_iff_ne.2 h44, beq_eq_false_iff_ne.2 (show ¬ (c.toNat : Int) = 44 from ne_nat c 44 (by omega) h44)]
  · rw [if_pos rfl, if_pos (by omega), Bool.true_or]
def endP (A : List UInt8) (f : Bool) : List UInt8 := if f = true then [34] ++ A ++ [34] else A
theorem ba_sizeW (l : List UInt8) : (⟨l.toArray⟩ : ByteArray).size = l.length := by show l.toArray.size = _; rw [List.size_toArray]
theorem ba_appW (a b : List UInt8) : (⟨a.toArray⟩ : ByteArray) ++ ⟨b.toArray⟩ = ⟨(a ++ b).toArray⟩ := by
  apply ByteArray.ext
  rw [ByteArray.data_append]
  simp
theorem pa_end (k : Nat) (s : ByteArray) (A : List UInt8) (f : Bool) (hA : A.length ≤ 1000000) : trystref08_Param.l0 (k + 1) s (wI A) f (s.size : Int) ((s.size : Nat) : Int) = some (⟨(endP A f).toArray⟩, 0) := by
  have e : (⟨#[34]⟩ : ByteArray) = ⟨[(34 : UInt8)].toArray⟩ := rfl
  simp only [trystref08_Param.l0, str_wI, e, ba_appW, ba_sizeW]
  rw [if_neg (by omega)]
  unfold endP
  cases f
  · rw [if_neg (by simp), if_neg (by simp)]
  · rw [if_pos rfl, if_pos (by omega), if_pos (by simp; omega), if_pos rfl]
theorem pa_ev (s : ByteArray) (hs : s.size ≤ 100000) : ∀ (n i : Nat) (A : List UInt8) (f : Bool), s.size - i ≤ n → i ≤ s.size → A.length ≤ 2 * i →
    Ev (fun k => trystref08_Param.l0 k s (wI A) f (s.size : Int) (i : Int)) (⟨(endP (A ++ parT (s.data.toList.drop i)) (f || (s.data.toList.drop i).any quoB)).toArray⟩, 0)
  | 0, i, A, f, hn, hi, hA => by
    obtain rfl : i = s.size := by omega
    rw [List.drop_of_length_le (by simp), show parT [] = [] from rfl, List.append_nil, List.any_nil, Bool.or_false]
    exact Ev.step (f := fun _ => some (⟨(endP A f).toArray⟩, 0)) (fun k => pa_end k s A f (by omega)) (Ev.now _)
  | n + 1, i, A, f, hn, hi, hA => by
    by_cases hlt : i < s.size
    case neg => exact pa_ev s hs n i A f (by omega) hi hA
    have hb := bt_nat s i
    rw [drop_at s i hlt, parT_cons, List.any_cons]
    generalize s.data.toList.getD i 0 = c at *
    have hle := parB_le c
    refine Ev.step (fun k => pa_step k s A f i hlt hs (by omega) c hb) ?_
    have ih := pa_ev s hs n (i + 1) (A ++ parB c) (f || quoB c) (by omega) (by omega) (by rw [List.length_append]; omega)
    rw [List.append_assoc, Bool.or_assoc] at ih
    exact ih
theorem ref_param (s : ByteArray) (hs : s.size ≤ 100000) : Ev (fun k => trystref08_Param.f k s) (paramW s) := by
  refine Ev.bind (refClean s true (by omega)) ?_
  unfold paramW
  by_cases h0 : cleanR true s.data.toList = 0
  · simp only [if_pos h0]
    have := pa_ev s hs s.size 0 [] false (by omega) (by omega) (by simp)
    rw [List.drop_zero, List.nil_append, Bool.false_or] at this
    exact this
  · simp only [if_neg h0]; exact Ev.now _
theorem writes9_pure : trystlaw09_EscapeWrites.Pure := by
  intro s hs
  refine Ev.rounds (r := true) ?_
  refine Ev.bind awake9 ?_
  simp only [if_true]
  by_cases hb : s.size > 5000
  · rw [decide_eq_true (show (s.size : Int) > 5000 by omega)]
    refine Ev.step (f := fun k => (trystlaw09_awake.f k).bind fun t => some t) (fun k => by simp only [trystlaw09_EscapeWrites.j0, if_true]) ?_
    exact Ev.bind awake9 (Ev.now _)
  · rw [decide_eq_false (show ¬ (s.size : Int) > 5000 by omega)]
    refine Ev.step (f := fun k => (escape_Text.f k s).bind fun bt168 => ((trystref08_Text.f k s).bind fun bt170 => ((escape_Param.f k s).bind fun bt172 => ((trystref08_Param.f k s).bind fun bt174 => (if bt168.1.toList = bt170.1.toList then (if bt168.2 = bt170.2 then (if bt172.1.toList = bt174.1.toList then (some (bt172.2 == bt174.2)) else (some false)) else (some false)) else (some false)))))) (fun k => ?_) ?_
    · simp only [trystlaw09_EscapeWrites.j0]; rw [if_neg (by simp)]
    · refine Ev.bind (esc_text s (by omega)) ?_
      refine Ev.bind (ref_text s (by omega)) ?_
      refine Ev.bind (esc_param s (by omega)) ?_
      refine Ev.bind (ref_param s (by omega)) ?_
      simp only [if_true, beq_self_eq_true]; exact Ev.now _
end Go.Proofs.YtknmbalhbecdhaaDoor.Pure
