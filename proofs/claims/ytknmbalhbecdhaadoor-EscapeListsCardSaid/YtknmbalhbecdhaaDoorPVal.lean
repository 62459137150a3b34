/- Plain: the reference's Value is the program's, and the law's own words on what is read. -/
import Derived.Test.YtknmbalhbecdhaaDoorPEsc
import Derived.Test.YtknmbalhbecdhaaDoorPrint8
set_option linter.unusedVariables false
set_option linter.unusedSimpArgs false
set_option linter.unusedSectionVars false
namespace Go.Proofs.YtknmbalhbecdhaaDoor.Pure
open Go.RowKit Go.Proofs.YtknmbalhbecdhaaDoor.Print Go.Proofs.YtknmbalhbecdhaaDoorW.PrintWords Go.Proofs.YtknmbalhbecdhaaDoorW.PrintLast Go.Proofs.YtknmbalhbecdhaaDoorW.PrintMore

theorem carL_cons (x : UInt8) (t : List UInt8) (h : x ≠ 94) : carL (x :: t) = x :: carL t := by cases t <;> simp [carL, h]
theorem carL_car (y : UInt8) (t : List UInt8) : carL (94 :: y :: t) = if y = 110 then 10 :: carL t else if y = 39 then 34 :: carL t else if y = 94 then 94 :: carL t else 94 :: carL (y :: t) := by simp [carL]
theorem va_end (k : Nat) (s : ByteArray) (L : List UInt8) : trystref08_Value.l2 (k + 1) s (nI L) (s.size : Nat) = some (⟨L.toArray⟩, 0) := by
  simp only [trystref08_Value.l2, str_nI]
  rw [if_neg (by omega)]
section
variable {s : ByteArray} {i : Nat} {c : UInt8} (hi : i < s.size) (hs : s.size ≤ 140737488351232) (hb : bt s (i : Int) = (c.toNat : Int))
include hi hs hb
theorem va_plain (k : Nat) (L : List UInt8) (hc : c ≠ 94) : trystref08_Value.l2 (k + 1) s (nI L) i = trystref08_Value.j5 k s (nI L) i c.toNat false := by
  simp only [trystref08_Value.l2, str_nI, hb]
  rw [if_pos (by omega), if_pos (by omega), if_neg (show ¬ (c.toNat : Int) = 94 from ne_nat c 94 (by omega) hc)]
theorem va_car (k : Nat) (L : List UInt8) (hc : c = 94) : trystref08_Value.l2 (k + 1) s (nI L) i = trystref08_Value.j5 k s (nI L) i c.toNat (decide (i + 1 < s.size)) := by
  simp only [trystref08_Value.l2, str_nI, hb]
  have e : decide (((i + 1 : Nat) : Int) < (s.size : Int)) = decide (i + 1 < s.size) := by congr 1; simp only [eq_iff_iff]; omega
  rw [if_pos (by omega), if_pos (by omega), if_pos (show (c.toNat : Int) = 94 from is_nat c 94 (by omega) hc), wrap_one i (by omega), e]
theorem va_put (k : Nat) (L : List UInt8) (hl : (nI L).length < 140737488355328) : trystref08_Value.j5 (k + 1) s (nI L) i c.toNat false = trystref08_Value.l2 k s (nI (L ++ [c])) ((i + 1 : Nat) : Int) := by
  simp only [trystref08_Value.j5, nI_snoc]
  rw [if_neg (by simp), if_pos hl, wrap_one i (by omega)]
end
section
variable {s : ByteArray} {i : Nat} {y : UInt8} (hi : i + 1 < s.size) (hs : s.size ≤ 140737488351232) (hb : bt s ((i + 1 : Nat) : Int) = (y.toNat : Int))
include hi hs hb
theorem va_look (k : Nat) (L : List UInt8) (c : UInt8) : trystref08_Value.j5 (k + 1) s (nI L) i c.toNat true = trystref08_Value.j6 k s (nI L) i ((if y = 110 then (10 : UInt8) else c).toNat : Nat) y.toNat := by
  simp only [trystref08_Value.j5, if_true, wrap_one i (show i ≤ 140737488355327 by omega), hb]
  rw [if_pos (by omega), if_pos (by omega)]
  by_cases h : y = 110
  · rw [if_pos (show (y.toNat : Int) = 110 from is_nat y 110 (by omega) h), if_pos h]
    have e : (((10 : UInt8).toNat : Nat) : Int) = 10 := rfl
    rw [e]
  · rw [if_neg (show ¬ (y.toNat : Int) = 110 from ne_nat y 110 (by omega) h), if_neg h]
theorem vw_two : wrap64 (((i + 1 : Nat) : Int) + 1) = ((i + 2 : Nat) : Int) := wrap_one (i + 1) (by omega)
theorem va_39 (k : Nat) (L : List UInt8) (x : UInt8) (hl : (nI L).length < 140737488355328) (h : y = 39) : trystref08_Value.j6 (k + 1) s (nI L) i x.toNat y.toNat = trystref08_Value.l2 k s (nI (L ++ [34])) ((i + 2 : Nat) : Int) := by
  have e : (y.toNat : Int) = 39 := is_nat y 39 (by omega) h
  have e3 : nI L ++ [34] = nI (L ++ [34]) := nI_snoc L 34
  simp only [trystref08_Value.j6, wrap_one i (show i ≤ 140737488355327 by omega), vw_two hi hs hb, e3]
  rw [if_pos e, if_neg (by omega), if_pos hl]
theorem va_110 (k : Nat) (L : List UInt8) (x : UInt8) (hl : (nI L).length < 140737488355328) (h : y = 110 ∨ y = 94) : trystref08_Value.j6 (k + 1) s (nI L) i x.toNat y.toNat = trystref08_Value.l2 k s (nI (L ++ [x])) ((i + 2 : Nat) : Int) := by
  simp only [trystref08_Value.j6, wrap_one i (show i ≤ 140737488355327 by omega), vw_two hi hs hb, nI_snoc]
  rcases h with h | h
  · have e : (y.toNat : Int) = 110 := is_nat y 110 (by omega) h
    rw [if_neg (by omega), if_pos e, if_pos hl]
  · have e : (y.toNat : Int) = 94 := is_nat y 94 (by omega) h
    rw [if_neg (by omega), if_neg (by omega), if_pos e, if_pos hl]
theorem va_no (k : Nat) (L : List UInt8) (x : UInt8) (hl : (nI L).length < 140737488355328) (h1 : y ≠ 39) (h2 : y ≠ 110) (h3 : y ≠ 94) : trystref08_Value.j6 (k + 1) s (nI L) i x.toNat y.toNat = trystref08_Value.l2 k s (nI (L ++ [x])) ((i + 1 : Nat) : Int) := by
  simp only [trystref08_Value.j6, wrap_one i (show i ≤ 140737488355327 by omega), vw_two hi hs hb, nI_snoc]
  rw [if_neg (show ¬ (y.toNat : Int) = 39 from ne_nat y 39 (by omega) h1), if_neg (show ¬ (y.toNat : Int) = 110 from ne_nat y 110 (by omega) h2), if_neg (show ¬ (y.toNat : Int) = 94 from ne_nat y 94 (by omega) h3), if_pos hl]
end
theorem car_ev (s : ByteArray) (hs : s.size ≤ 140737488351232) : ∀ (n i : Nat) (L : List UInt8), s.size - i ≤ n → i ≤ s.size → L.length ≤ i →
    Ev (fun k => trystref08_Value.l2 k s (nI L) i) (⟨(L ++ carL (s.data.toList.drop i)).toArray⟩, 0)
  | 0, i, L, h, hi, hL => by
    obtain rfl : i = s.size := by omega
    rw [List.drop_of_length_le (by simp)]
    refine Ev.step (fun k => va_end k s L) ?_
    simp only [carL, List.append_nil]; exact Ev.now _
  | n + 1, i, L, h, hi, hL => by
    by_cases hlt : i < s.size
    case neg =>
      obtain rfl : i = s.size := by omega
      rw [List.drop_of_length_le (by simp)]
      refine Ev.step (fun k => va_end k s L) ?_
      simp only [carL, List.append_nil]; exact Ev.now _
    rw [drop_at s i hlt]
    have hb := bt_nat s i
    have ihp := fun c => car_ev s hs n (i + 1) (L ++ [c]) (by omega) (by omega) (by simp; omega)
    generalize s.data.toList.getD i 0 = c at *
    have hl : (nI L).length < 140737488355328 := by rw [nI_len]; omega
    by_cases h94 : c = 94
    case neg =>
      refine Ev.step (fun k => va_plain hlt hs hb k L h94) (Ev.step (fun k => va_put hlt hs hb k L hl) ?_)
      rw [carL_cons _ _ h94]
      have := ihp c
      rwa [List.append_assoc] at this
    by_cases hl2 : i + 1 < s.size
    case neg =>
      refine Ev.step (fun k => va_car hlt hs hb k L h94) ?_
      rw [decide_eq_false hl2]
      refine Ev.step (fun k => va_put hlt hs hb k L hl) ?_
      have := ihp c
      rw [List.drop_of_length_le (by simp; omega)] at this ⊢
      rw [h94] at this ⊢
      simpa [carL] using this
    refine Ev.step (fun k => va_car hlt hs hb k L h94) ?_
    rw [decide_eq_true hl2]
    rw [drop_at s (i + 1) hl2] at ihp ⊢
    have hb2 := bt_nat s (i + 1)
    have ihd := fun x => car_ev s hs n (i + 2) (L ++ [x]) (by omega) (by omega) (by simp; omega)
    generalize s.data.toList.getD (i + 1) 0 = y at *
    refine Ev.step (fun k => va_look hl2 hs hb2 k L c) ?_
    rw [h94, carL_car]
    by_cases h110 : y = 110
    · rw [if_pos h110, if_pos h110]
      refine Ev.step (fun k => va_110 hl2 hs hb2 k L 10 hl (.inl h110)) ?_
      have := ihd 10
      rwa [List.append_assoc] at this
    rw [if_neg h110, if_neg h110]
    by_cases h39 : y = 39
    · rw [if_pos h39]
      refine Ev.step (fun k => va_39 hl2 hs hb2 k L 94 hl h39) ?_
      have := ihd 34
      rwa [List.append_assoc] at this
    rw [if_neg h39]
    by_cases hy : y = 94
    · rw [if_pos hy]
      refine Ev.step (fun k => va_110 hl2 hs hb2 k L 94 hl (.inr hy)) ?_
      have := ihd 94
      rwa [List.append_assoc] at this
    rw [if_neg hy]
    refine Ev.step (fun k => va_no hl2 hs hb2 k L 94 hl h39 h110 hy) ?_
    have := ihp 94
    rwa [List.append_assoc] at this
theorem j3_ev (s : ByteArray) (hs : s.size ≤ 140737488351232) : Ev (fun k => trystref08_Value.j3 k s) (⟨(carL s.data.toList).toArray⟩, 0) :=
  Ev.step (f := fun k => trystref08_Value.l2 k s (nI []) ((0 : Nat) : Int)) (fun k => by simp only [trystref08_Value.j3]; rfl) (by simpa using car_ev s hs s.size 0 [] (by omega) (by omega) (by simp))
end Go.Proofs.YtknmbalhbecdhaaDoor.Pure
