/- Plain: a valid text is code points one behind the other; a marked-up text stays valid, and is read back. -/
import Derived.Test.YtknmbalhbecdhaaDoorPItemS
import Derived.Test.YtknmbalhbecdhaaDoorText
set_option linter.unusedVariables false
set_option linter.unusedSimpArgs false
namespace Go.Proofs.YtknmbalhbecdhaaDoor.Pure
open Go.RowKit Go.Proofs.YtknmbalhbecdhaaDoor.Print Go.Proofs.YtknmbalhbecdhaaDoorW.PrintWords Go.Proofs.YtknmbalhbecdhaaDoorW.PrintLast Go.Proofs.YtknmbalhbecdhaaDoorW.PrintMore

theorem nx_eq (l : List UInt8) (hne : l ≠ []) : nx l = refN l.length (l.getD 0 0).toNat (l.getD 1 0).toNat (l.getD 2 0).toNat (l.getD 3 0).toNat := by
  have : 0 < l.length := List.length_pos_iff.2 hne
  rw [refN_eq _ _ _ _ _ (by omega) (lt256 _ _) (lt256 _ _) (lt256 _ _) (lt256 _ _)]
  unfold nx
  rw [Lib.decodeL_N]
theorem validD_nx (l : List UInt8) (hne : l ≠ []) : Lib.validD l = if nx l = 0 then false else Lib.validD (l.drop (nx l)) := by
  rw [Lib.validD_step l hne]
  by_cases h : (Lib.decodeL l).1 = 65533 ∧ (Lib.decodeL l).2 = 1
  · rw [if_pos h, if_pos ((nx_bad l hne).2 h)]
  · rw [if_neg h, nx_good l h, if_neg (by have := decL_pos l hne; omega)]
def U2 (a b : UInt8) : Prop := (194 ≤ a.toNat ∧ a.toNat < 224) ∧ 128 ≤ b.toNat ∧ b.toNat < 192
def U3 (a b c : UInt8) : Prop := (224 ≤ a.toNat ∧ a.toNat < 240) ∧ ((128 ≤ b.toNat ∧ b.toNat < 192) ∧ 128 ≤ c.toNat ∧ c.toNat < 192) ∧ ¬ (a.toNat = 224 ∧ b.toNat < 160 ∨ a.toNat = 237 ∧ 159 < b.toNat)
def U4 (a b c d : UInt8) : Prop := (240 ≤ a.toNat ∧ a.toNat < 245) ∧ ((128 ≤ b.toNat ∧ b.toNat < 192) ∧ (128 ≤ c.toNat ∧ c.toNat < 192) ∧ 128 ≤ d.toNat ∧ d.toNat < 192) ∧ ¬ (a.toNat = 240 ∧ b.toNat < 144 ∨ a.toNat = 244 ∧ 143 < b.toNat)
theorem valid_2 (a b : UInt8) (t : List UInt8) (h : U2 a b) : Lib.validD (a :: b :: t) = Lib.validD t := by
  obtain ⟨h1, h2⟩ := h
  have e : nx (a :: b :: t) = 2 := by
    rw [nx_eq _ (by simp)]
    simp only [List.getD_cons_zero, List.getD_cons_succ, List.length_cons]
    unfold refN
    rw [if_neg (by omega), if_pos h1, if_neg (by omega), if_pos h2]
  rw [validD_nx _ (by simp), e]; rfl
theorem valid_3 (a b c : UInt8) (t : List UInt8) (h : U3 a b c) : Lib.validD (a :: b :: c :: t) = Lib.validD t := by
  obtain ⟨h1, h2, h3⟩ := h
  have e : nx (a :: b :: c :: t) = 3 := by
    rw [nx_eq _ (by simp)]
    simp only [List.getD_cons_zero, List.getD_cons_succ, List.length_cons]
    unfold refN
    rw [if_neg (by omega), if_neg (by omega), if_pos h1, if_neg (by omega), if_pos h2, if_neg h3]
  rw [validD_nx _ (by simp), e]; rfl
theorem valid_4 (a b c d : UInt8) (t : List UInt8) (h : U4 a b c d) : Lib.validD (a :: b :: c :: d :: t) = Lib.validD t := by
  obtain ⟨h1, h2, h3⟩ := h
  have e : nx (a :: b :: c :: d :: t) = 4 := by
    rw [nx_eq _ (by simp)]
    simp only [List.getD_cons_zero, List.getD_cons_succ, List.length_cons]
    unfold refN
    rw [if_neg (by omega), if_neg (by omega), if_neg (by omega), if_pos h1, if_neg (by omega), if_pos h2, if_neg h3]
  rw [validD_nx _ (by simp), e]; rfl
/-- The code points at the head of a valid text. -/
theorem valid_head (l : List UInt8) (hne : l ≠ []) (h : Lib.validD l = true) :
    (∃ a t, l = a :: t ∧ a.toNat < 128 ∧ Lib.validD t = true) ∨ (∃ a b t, l = a :: b :: t ∧ U2 a b ∧ Lib.validD t = true) ∨
    (∃ a b c t, l = a :: b :: c :: t ∧ U3 a b c ∧ Lib.validD t = true) ∨ (∃ a b c d t, l = a :: b :: c :: d :: t ∧ U4 a b c d ∧ Lib.validD t = true) := by
  have hv := validD_nx l hne
  rw [h] at hv
  have hn : nx l ≠ 0 := by intro e; rw [if_pos e] at hv; cases hv
  rw [if_neg hn, nx_eq l hne] at hv
  rw [nx_eq l hne] at hn
  unfold refN at hn hv
  cases l with
  | nil => exact absurd rfl hne
  | cons a l1 =>
    simp only [List.getD_cons_zero, List.getD_cons_succ, List.length_cons] at hn hv
    by_cases c1 : a.toNat < 128
    · rw [if_pos c1] at hv; exact .inl ⟨a, l1, rfl, c1, hv.symm⟩
    rw [if_neg c1] at hn hv
    by_cases c2 : 194 ≤ a.toNat ∧ a.toNat < 224
    · rw [if_pos c2] at hn hv
      cases l1 with
      | nil => simp at hn
      | cons b t =>
        simp only [List.getD_cons_zero, List.getD_cons_succ, List.length_cons] at hn hv
        rw [if_neg (by omega)] at hn hv
        by_cases c3 : 128 ≤ b.toNat ∧ b.toNat < 192
        · rw [if_pos c3] at hv; exact .inr (.inl ⟨a, b, t, rfl, ⟨c2, c3⟩, hv.symm⟩)
        · rw [if_neg c3] at hn; exact absurd rfl hn
    rw [if_neg c2] at hn hv
    by_cases c3 : 224 ≤ a.toNat ∧ a.toNat < 240
    · rw [if_pos c3] at hn hv
      rcases l1 with _ | ⟨b, _ | ⟨c, t⟩⟩
      · simp at hn
      · simp at hn
      · simp only [List.getD_cons_zero, List.getD_cons_succ, List.length_cons] at hn hv
        rw [if_neg (by omega)] at hn hv
        split at hn
        · rename_i c4
          rw [if_pos c4] at hv
          split at hn
          · exact absurd rfl hn
          · rename_i c5
            rw [if_neg c5] at hv
            exact .inr (.inr (.inl ⟨a, b, c, t, rfl, ⟨c3, c4, c5⟩, hv.symm⟩))
        · exact absurd rfl hn
    rw [if_neg c3] at hn hv
    by_cases c4 : 240 ≤ a.toNat ∧ a.toNat < 245
    · rw [if_pos c4] at hn hv
      rcases l1 with _ | ⟨b, _ | ⟨c, _ | ⟨d, t⟩⟩⟩
      · simp at hn
      · simp at hn
      · simp at hn
      · simp only [List.getD_cons_zero, List.getD_cons_succ, List.length_cons] at hn hv
        rw [if_neg (by omega)] at hn hv
        split at hn
        · rename_i c5
          rw [if_pos c5] at hv
          split at hn
          · exact absurd rfl hn
          · rename_i c6
            rw [if_neg c6] at hv
            exact .inr (.inr (.inr ⟨a, b, c, d, t, rfl, ⟨c4, c5, c6⟩, hv.symm⟩))
        · exact absurd rfl hn
    rw [if_neg c4] at hn
    exact absurd rfl hn
theorem escB_high (c : UInt8) (h : 128 ≤ c.toNat) : escB c = [c] := by
  have n1 : c ≠ 10 := by rintro rfl; exact absurd h (by decide)
  have n2 : ¬ (c = 92 ∨ c = 59 ∨ c = 44) := by rintro (rfl | rfl | rfl) <;> exact absurd h (by decide)
  unfold escB; rw [if_neg n1, if_neg n2]
theorem escT_cons (c : UInt8) (t : List UInt8) : escT (c :: t) = escB c ++ escT t := by simp [escT]
theorem escB_low (c : UInt8) (h : c.toNat < 128) (s : List UInt8) : Lib.validD (escB c ++ s) = Lib.validD s := by
  unfold escB
  split
  · show Lib.validD (92 :: 110 :: s) = _
    rw [Lib.validD_cons _ _ (by decide), Lib.validD_cons _ _ (by decide)]
  · split
    · show Lib.validD (92 :: c :: s) = _
      rw [Lib.validD_cons _ _ (by decide), Lib.validD_cons _ _ h]
    · exact Lib.validD_cons _ _ h
theorem esc_valid : ∀ (n : Nat) (l s : List UInt8), l.length ≤ n → Lib.validD l = true → Lib.validD (escT l ++ s) = Lib.validD s
  | _, [], s, _, _ => rfl
  | 0, a :: t, s, hn, _ => by simp at hn
  | n + 1, x :: l, s, hn, h => by
    rcases valid_head (x :: l) (by simp) h with ⟨a, t, e, ha, hv⟩ | ⟨a, b, t, e, ha, hv⟩ | ⟨a, b, c, t, e, ha, hv⟩ | ⟨a, b, c, d, t, e, ha, hv⟩
    · have hl := congrArg List.length e
      simp only [List.length_cons] at hl hn
      rw [e, escT_cons, List.append_assoc, escB_low a ha]
      exact esc_valid n t s (by omega) hv
    · have hl := congrArg List.length e
      simp only [List.length_cons] at hl hn
      rw [e, escT_cons, escT_cons, escB_high a (by have := ha.1; omega), escB_high b (by have := ha.2; omega)]
      show Lib.validD (a :: b :: (escT t ++ s)) = _
      rw [valid_2 _ _ _ ha]
      exact esc_valid n t s (by omega) hv
    · have hl := congrArg List.length e
      simp only [List.length_cons] at hl hn
      obtain ⟨h1, h2, h3⟩ := ha
      rw [e, escT_cons, escT_cons, escT_cons, escB_high a (by omega), escB_high b (by omega), escB_high c (by omega)]
      show Lib.validD (a :: b :: c :: (escT t ++ s)) = _
      rw [valid_3 _ _ _ _ ⟨h1, h2, h3⟩]
      exact esc_valid n t s (by omega) hv
    · have hl := congrArg List.length e
      simp only [List.length_cons] at hl hn
      obtain ⟨h1, h2, h3⟩ := ha
      rw [e, escT_cons, escT_cons, escT_cons, escT_cons, escB_high a (by omega), escB_high b (by omega), escB_high c (by omega), escB_high d (by omega)]
      show Lib.validD (a :: b :: c :: d :: (escT t ++ s)) = _
      rw [valid_4 _ _ _ _ _ ⟨h1, h2, h3⟩]
      exact esc_valid n t s (by omega) hv
theorem go_escB (c : UInt8) (s cur : List UInt8) : itemsGo (escB c ++ s) cur = itemsGo s (cur ++ [c]) := by
  unfold escB
  by_cases h10 : c = 10
  · subst h10
    rw [if_pos rfl]
    show itemsGo (92 :: 110 :: s) cur = _
    rw [go_back]; rfl
  rw [if_neg h10]
  by_cases h : c = 92 ∨ c = 59 ∨ c = 44
  · rw [if_pos h]
    show itemsGo (92 :: c :: s) cur = _
    rw [go_back]
    have : signL c = some c := by rcases h with rfl | rfl | rfl <;> rfl
    rw [this]
  · rw [if_neg h]
    simp only [not_or] at h
    exact go_plain c s cur h.2.2 h.2.1 h.1
theorem go_escT : ∀ (l s cur : List UInt8), itemsGo (escT l ++ s) cur = itemsGo s (cur ++ l)
  | [], s, cur => by simp [escT]
  | c :: t, s, cur => by
    rw [escT_cons, List.append_assoc, go_escB, go_escT t s]
    simp
theorem join_cc (x y : List UInt8) (t : List (List UInt8)) : Lib.join (x :: y :: t) [44] = x ++ 44 :: Lib.join (y :: t) [44] := by
  simp [Lib.join, List.intercalate]
theorem go_join : ∀ (x : List UInt8) (t : List (List UInt8)) , itemsGo (Lib.join ((x :: t).map escT) [44]) [] = some (x :: t)
  | x, [] => by
    have := go_escT x [] []
    simp only [List.map_cons, List.map_nil, Lib.join_one]
    rw [List.append_nil] at this
    rw [this]; rfl
  | x, y :: t => by
    have h := go_join y t
    simp only [List.map_cons] at h ⊢
    rw [join_cc, go_escT, go_comma, h]; rfl
theorem join_valid : ∀ (x : List UInt8) (t : List (List UInt8)), (∀ y ∈ x :: t, Lib.validD y = true) → Lib.validD (Lib.join ((x :: t).map escT) [44]) = true
  | x, [], h => by
    have := esc_valid _ x [] (Nat.le_refl _) (h x (by simp))
    simp only [List.map_cons, List.map_nil, Lib.join_one]
    rw [List.append_nil] at this
    rw [this]; rfl
  | x, y :: t, h => by
    have ih := join_valid y t (fun z hz => h z (List.mem_cons_of_mem _ hz))
    simp only [List.map_cons] at ih ⊢
    rw [join_cc, esc_valid _ x _ (Nat.le_refl _) (h x (by simp)), Lib.validD_cons _ _ (by decide), ih]
theorem escB_ok (c : UInt8) (h : okB true c = true) : (escB c).all (okB false) = true := by
  unfold escB
  by_cases h10 : c = 10
  · subst h10; rfl
  rw [if_neg h10]
  have hc : okB false c = true := by
    unfold okB at h ⊢
    have e10 : (c == 10) = false := by simp [h10]
    rw [e10] at h ⊢
    simpa using h
  split
  · rename_i h
    rcases h with rfl | rfl | rfl <;> rfl
  · simp [hc]
theorem escT_ok (l : List UInt8) (h : l.all (okB true) = true) : (escT l).all (okB false) = true := by
  induction l with
  | nil => rfl
  | cons c t ih =>
    rw [List.all_cons, Bool.and_eq_true] at h
    rw [escT_cons, List.all_append, escB_ok c h.1, ih h.2]; rfl
theorem join_ok : ∀ (x : List UInt8) (t : List (List UInt8)), (∀ y ∈ x :: t, y.all (okB true) = true) → (Lib.join ((x :: t).map escT) [44]).all (okB false) = true
  | x, [], h => by
    simp only [List.map_cons, List.map_nil, Lib.join_one]
    exact escT_ok x (h x (by simp))
  | x, y :: t, h => by
    have ih := join_ok y t (fun z hz => h z (List.mem_cons_of_mem _ hz))
    simp only [List.map_cons] at ih ⊢
    rw [join_cc, List.all_append, escT_ok x (h x (by simp)), List.all_cons, ih]; rfl
theorem join_len (m : Nat) : ∀ (t : List (List UInt8)), (∀ y ∈ t, y.length ≤ m) → (Lib.join (t.map escT) [44]).length ≤ t.length * (2 * m + 1)
  | [], h => by simp [Lib.join_nil]
  | [x], h => by
    simp only [List.map_cons, List.map_nil, Lib.join_one]
    have := escT_le x; have := h x (by simp); simp only [List.length_cons, List.length_nil]; omega
  | x :: y :: t, h => by
    have ih := join_len m (y :: t) (fun z hz => h z (List.mem_cons_of_mem _ hz))
    simp only [List.map_cons] at ih ⊢
    rw [join_cc]
    have h1 := escT_le x; have h2 := h x (by simp)
    simp only [List.length_append, List.length_cons] at ih ⊢
    rw [Nat.add_mul _ 1]
    generalize (t.length + 1) * (2 * m + 1) = q at *
    omega
end Go.Proofs.YtknmbalhbecdhaaDoor.Pure
