/- Plain: the law EscapeBack holds of the printed functions. -/
import Derived.Test.YtknmbalhbecdhaaDoorPEscS
import Derived.Test.YtknmbalhbecdhaaDoorPUtf2
import Derived.Test.YtknmbalhbecdhaaDoorPValS
import Derived.Test.YtknmbalhbecdhaaDoorPrint6
set_option linter.unusedVariables false
set_option linter.unusedSimpArgs false
set_option linter.unusedSectionVars false
namespace Go.Proofs.YtknmbalhbecdhaaDoor.Pure
open Go.RowKit Go.Proofs.YtknmbalhbecdhaaDoor.Print Go.Proofs.YtknmbalhbecdhaaDoorW.PrintWords Go.Proofs.YtknmbalhbecdhaaDoorW.PrintLast Go.Proofs.YtknmbalhbecdhaaDoorW.PrintMore

theorem ba_backB (s : ByteArray) : (⟨s.data.toList.toArray⟩ : ByteArray) = s := by cases s; simp
theorem ba_sizeB (l : List UInt8) : (⟨l.toArray⟩ : ByteArray).size = l.length := by show l.toArray.size = _; rw [List.size_toArray]
theorem clean_true {l : List UInt8} (h : cleanR true l = 0) : Lib.validD l = true ∧ l.all (okB true) = true := by
  unfold cleanR at h
  by_cases h1 : Lib.validD l = true
  · rw [if_pos h1] at h
    by_cases h2 : l.all (okB true) = true
    · exact ⟨h1, h2⟩
    · rw [if_neg h2] at h; exact absurd h (by decide)
  · rw [if_neg h1] at h; exact absurd h (by decide)
theorem clean_of {f : Bool} {l : List UInt8} (h1 : Lib.validD l = true) (h2 : l.all (okB f) = true) : cleanR f l = 0 := by
  unfold cleanR; rw [if_pos h1, if_pos h2]
/-! ### texts -/
theorem items_text (s : ByteArray) (h : cleanR true s.data.toList = 0) : itemsA ⟨(escT s.data.toList).toArray⟩ = ([s], 0) := by
  obtain ⟨h1, h2⟩ := clean_true h
  have hv := esc_valid _ s.data.toList [] (Nat.le_refl _) h1
  rw [List.append_nil] at hv
  have hg := go_escT s.data.toList [] []
  rw [List.append_nil, List.nil_append] at hg
  have hc : cleanR false (⟨(escT s.data.toList).toArray⟩ : ByteArray).data.toList = 0 := clean_of (by show Lib.validD (escT s.data.toList) = true; rw [hv]; rfl) (escT_ok _ h2)
  unfold itemsA itemsR
  rw [if_pos hc]
  have hd : (⟨(escT s.data.toList).toArray⟩ : ByteArray).data.toList = escT s.data.toList := rfl
  rw [hd, hg]
  show (strs [s.data.toList], (0 : Int)) = _
  unfold strs
  simp only [List.map_cons, List.map_nil]
/-! ### parameters -/
theorem parB_high (c : UInt8) (h : 128 ≤ c.toNat) : parB c = [c] := by
  have n1 : c ≠ 94 := by rintro rfl; exact absurd h (by decide)
  have n2 : c ≠ 10 := by rintro rfl; exact absurd h (by decide)
  have n3 : c ≠ 34 := by rintro rfl; exact absurd h (by decide)
  unfold parB; rw [if_neg n1, if_neg n2, if_neg n3]
theorem parB_low (c : UInt8) (h : c.toNat < 128) (s : List UInt8) : Lib.validD (parB c ++ s) = Lib.validD s := by
  unfold parB
  split
  · show Lib.validD (94 :: 94 :: s) = _
    rw [Lib.validD_cons _ _ (by decide), Lib.validD_cons _ _ (by decide)]
  split
  · show Lib.validD (94 :: 110 :: s) = _
    rw [Lib.validD_cons _ _ (by decide), Lib.validD_cons _ _ (by decide)]
  split
  · show Lib.validD (94 :: 39 :: s) = _
    rw [Lib.validD_cons _ _ (by decide), Lib.validD_cons _ _ (by decide)]
  · exact Lib.validD_cons _ _ h
theorem par_valid : ∀ (n : Nat) (l s : List UInt8), l.length ≤ n → Lib.validD l = true → Lib.validD (parT l ++ s) = Lib.validD s
  | _, [], s, _, _ => rfl
  | 0, a :: t, s, hn, _ => by simp at hn
  | n + 1, x :: l, s, hn, h => by
    rcases valid_head (x :: l) (by simp) h with ⟨a, t, e, ha, hv⟩ | ⟨a, b, t, e, ha, hv⟩ | ⟨a, b, c, t, e, ha, hv⟩ | ⟨a, b, c, d, t, e, ha, hv⟩
    · have hl := congrArg List.length e
      simp only [List.length_cons] at hl hn
      rw [e, parT_cons, List.append_assoc, parB_low a ha]
      exact par_valid n t s (by omega) hv
    · have hl := congrArg List.length e
      simp only [List.length_cons] at hl hn
      rw [e, parT_cons, parT_cons, parB_high a (by have := ha.1; omega), parB_high b (by have := ha.2; omega)]
      show Lib.validD (a :: b :: (parT t ++ s)) = _
      rw [valid_2 _ _ _ ha]
      exact par_valid n t s (by omega) hv
    · have hl := congrArg List.length e
      simp only [List.length_cons] at hl hn
      obtain ⟨h1, h2, h3⟩ := ha
      rw [e, parT_cons, parT_cons, parT_cons, parB_high a (by omega), parB_high b (by omega), parB_high c (by omega)]
      show Lib.validD (a :: b :: c :: (parT t ++ s)) = _
      rw [valid_3 _ _ _ _ ⟨h1, h2, h3⟩]
      exact par_valid n t s (by omega) hv
    · have hl := congrArg List.length e
      simp only [List.length_cons] at hl hn
      obtain ⟨h1, h2, h3⟩ := ha
      rw [e, parT_cons, parT_cons, parT_cons, parT_cons, parB_high a (by omega), parB_high b (by omega), parB_high c (by omega), parB_high d (by omega)]
      show Lib.validD (a :: b :: c :: d :: (parT t ++ s)) = _
      rw [valid_4 _ _ _ _ _ ⟨h1, h2, h3⟩]
      exact par_valid n t s (by omega) hv
theorem parB_ok (c : UInt8) (h : okB true c = true) : (parB c).all (okB false) = true := by
  unfold parB
  by_cases h94 : c = 94
  · rw [if_pos h94]; rfl
  rw [if_neg h94]
  by_cases h10 : c = 10
  · rw [if_pos h10]; rfl
  rw [if_neg h10]
  by_cases h34 : c = 34
  · rw [if_pos h34]; rfl
  rw [if_neg h34]
  have h10b : (c == 10) = false := beq_eq_false_iff_ne.2 h10
  have hc : okB false c = true := by
    unfold okB at h ⊢
    rw [h10b] at h ⊢
    simpa using h
  simp [hc]
theorem parT_ok (l : List UInt8) (h : l.all (okB true) = true) : (parT l).all (okB false) = true := by
  induction l with
  | nil => rfl
  | cons c t ih =>
    rw [List.all_cons, Bool.and_eq_true] at h
    rw [parT_cons, List.all_append, parB_ok c h.1, ih h.2]; rfl
theorem car_par : ∀ (l : List UInt8), carL (parT l) = l
  | [] => rfl
  | c :: t => by
    rw [parT_cons]
    unfold parB
    by_cases h94 : c = 94
    · rw [if_pos h94, h94]
      show carL (94 :: 94 :: parT t) = _
      simp [carL, car_par t]
    rw [if_neg h94]
    by_cases h10 : c = 10
    · rw [if_pos h10, h10]
      show carL (94 :: 110 :: parT t) = _
      simp [carL, car_par t]
    rw [if_neg h10]
    by_cases h34 : c = 34
    · rw [if_pos h34, h34]
      show carL (94 :: 39 :: parT t) = _
      simp [carL, car_par t]
    rw [if_neg h34]
    show carL (c :: parT t) = _
    have : carL (c :: parT t) = c :: carL (parT t) := by cases parT t <;> simp [carL, h94]
    rw [this, car_par t]
theorem par_any : ∀ (l : List UInt8), (parT l).any qB = l.any quoB
  | [] => rfl
  | c :: t => by
    rw [parT_cons, List.any_append, par_any t, List.any_cons]
    congr 1
    unfold parB
    by_cases h94 : c = 94
    · rw [if_pos h94, h94]; rfl
    rw [if_neg h94]
    by_cases h10 : c = 10
    · rw [if_pos h10, h10]; rfl
    rw [if_neg h10]
    by_cases h34 : c = 34
    · rw [if_pos h34, h34]; rfl
    rw [if_neg h34, List.any_cons, List.any_nil, Bool.or_false]
    unfold qB quoB
    rw [beq_eq_false_iff_ne.2 h34, Bool.false_or]
theorem par_34 : ∀ (l : List UInt8), (parT l).any (· == 34) = false
  | [] => rfl
  | c :: t => by
    rw [parT_cons, List.any_append, par_34 t, Bool.or_false]
    unfold parB
    by_cases h94 : c = 94
    · rw [if_pos h94]; rfl
    rw [if_neg h94]
    by_cases h10 : c = 10
    · rw [if_pos h10]; rfl
    rw [if_neg h10]
    by_cases h34 : c = 34
    · rw [if_pos h34]; rfl
    rw [if_neg h34, List.any_cons, List.any_nil, Bool.or_false]
    exact beq_eq_false_iff_ne.2 h34
theorem head_34 (l : List UInt8) (h : l.any (· == 34) = false) : l.getD 0 0 ≠ 34 := by
  cases l with
  | nil => decide
  | cons a t =>
    rw [List.any_cons, Bool.or_eq_false_iff] at h
    exact beq_eq_false_iff_ne.1 h.1
theorem idx_34 : ∀ (l : List UInt8), l.any (· == 34) = false → Lib.indexByte (l ++ [34]) 34 = (l.length : Int)
  | [], _ => rfl
  | c :: t, h => by
    rw [List.any_cons, Bool.or_eq_false_iff] at h
    have ih := idx_34 t h.2
    show Lib.indexByte (c :: (t ++ [34])) 34 = _
    unfold Lib.indexByte
    rw [h.1, ih]
    have hn : (((t.length : Nat) : Int) == -1) = false := beq_eq_false_iff_ne.2 (by omega)
    rw [hn]
    simp
theorem value_par (s : ByteArray) (h : cleanR true s.data.toList = 0) : valA (parW s) = (s, 0) := by
  obtain ⟨h1, h2⟩ := clean_true h
  have hd : (parW s).data.toList = parL s.data.toList := rfl
  have hv := fun t => par_valid s.data.toList.length s.data.toList t (Nat.le_refl _) h1
  have hok := parT_ok s.data.toList h2
  have hcar := car_par s.data.toList
  have hany := par_any s.data.toList
  have h34 := par_34 s.data.toList
  have hback := ba_backB s
  have hsz : (parW s).size = (parL s.data.toList).length := ba_sizeB _
  unfold valA
  by_cases hq : s.data.toList.any quoB = true
  · have hL : parL s.data.toList = 34 :: (parT s.data.toList ++ [34]) := by unfold parL; rw [if_pos hq]; rfl
    have hc : cleanR false (parW s).data.toList = 0 := by
      rw [hd, hL]
      refine clean_of ?_ ?_
      · rw [Lib.validD_cons _ _ (by decide), hv [34]]; rfl
      · rw [List.all_cons, List.all_append, hok]; rfl
    rw [if_pos hc]
    unfold valB
    have hlen : (parW s).size = (parT s.data.toList).length + 2 := by rw [hsz, hL]; simp
    have hex : ((parW s).extract 1 ((parW s).size - 1)).data.toList = parT s.data.toList := by
      rw [ByteArray.data_extract, Array.toList_extract, List.extract_eq_take_drop, hd, hL, hlen]
      simp
    rw [if_pos (by rw [hd, hL]; rfl), if_neg (by omega), if_pos (by rw [hd, hL]; show Lib.indexByte (parT s.data.toList ++ [34]) 34 = _; rw [idx_34 _ h34, hlen]; rfl), hex, hcar, hback]
  · have hL : parL s.data.toList = parT s.data.toList := by unfold parL; rw [if_neg hq]
    have hc : cleanR false (parW s).data.toList = 0 := by
      rw [hd, hL]
      refine clean_of ?_ hok
      have := hv []
      rw [List.append_nil] at this
      rw [this]; rfl
    rw [if_pos hc]
    unfold valB openR
    rw [if_neg (by rw [hd, hL]; exact head_34 _ h34), hd, hL, hany, if_neg hq, hcar, hback]
theorem back9_pure : trystlaw09_EscapeBack.Pure := by
  intro s hs
  refine Ev.rounds (r := true) ?_
  refine Ev.bind awake9 ?_
  simp only [if_true]
  by_cases hb : s.size > 5000
  · rw [decide_eq_true (show (s.size : Int) > 5000 by omega)]
    refine Ev.step (f := fun k => (trystlaw09_awake.f k).bind fun t => some t) (fun k => by simp only [trystlaw09_EscapeBack.j0, if_true]) ?_
    exact Ev.bind awake9 (Ev.now _)
  · rw [decide_eq_false (show ¬ (s.size : Int) > 5000 by omega)]
    refine Ev.step (f := fun k => (escape_Text.f k s).bind fun bt191 => ((escape_Param.f k s).bind fun bt193 => (if bt191.2 = 0 then ((escape_Plain.f k bt191.1).bind fun bt195 => ((escape_Value.f k bt193.1).bind fun bt197 => (if bt193.2 = 0 then (if bt195.2 = 0 then (if bt197.2 = 0 then (if bt195.1.toList = s.toList then (some (bt197.1.toList == s.toList)) else (some false)) else (some false)) else (some false)) else (some false)))) else (if bt193.2 = bt191.2 then (if bt191.1.toList = ([] : List UInt8) then (some (bt193.1.toList == ([] : List UInt8))) else (some false)) else (some false))))) (fun k => ?_) ?_
    · simp only [trystlaw09_EscapeBack.j0]; rw [if_neg (by simp)]
    · refine Ev.bind (esc_text s (by omega)) ?_
      refine Ev.bind (esc_param s (by omega)) ?_
      unfold textW paramW
      by_cases h0 : cleanR true s.data.toList = 0
      · simp only [if_pos h0, if_true]
        have hl := escT_le s.data.toList
        have hl2 := parT_le s.data.toList
        have e : s.data.toList.length = s.size := by simp
        have hp : (parW s).size ≤ 20000 := by
          have : (parW s).size = (parL s.data.toList).length := ba_sizeB _
          rw [this]
          unfold parL
          split
          · simp only [List.length_append, List.length_cons, List.length_nil]; omega
          · omega
        refine Ev.bind (plain_ev _ (by rw [ba_sizeB]; omega)) ?_
        refine Ev.bind (esc_value (parW s) (by omega)) ?_
        rw [items_text s h0, value_par s h0]
        have hpl : plainA ([s], 0) = (s, 0) := rfl
        rw [hpl]
        simp only [if_true, beq_self_eq_true]
        exact Ev.now _
      · simp only [if_neg h0, if_true, Lib.toList_data]
        exact Ev.now _
end Go.Proofs.YtknmbalhbecdhaaDoor.Pure
