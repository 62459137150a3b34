/- Plain: a text of folded lines, cut into its lines. -/
import Derived.Test.YtknmbalhbecdhaaDoorPUnfR
set_option linter.unusedVariables false
set_option linter.unusedSimpArgs false
set_option linter.unusedSectionVars false
namespace Go.Proofs.YtknmbalhbecdhaaDoor.Pure
open Go.RowKit Go.Proofs.YtknmbalhbecdhaaDoor.Print Go.Proofs.YtknmbalhbecdhaaDoorW.PrintWords Go.Proofs.YtknmbalhbecdhaaDoorW.PrintLast Go.Proofs.YtknmbalhbecdhaaDoorW.PrintMore

theorem nl_cons {c : UInt8} {t : List UInt8} (h : (c :: t).any nlB = false) : c ≠ 13 ∧ c ≠ 10 ∧ t.any nlB = false := by
  rw [List.any_cons, Bool.or_eq_false_iff] at h
  refine ⟨?_, ?_, h.2⟩
  · intro e; rw [e] at h; exact absurd h.1 (by decide)
  · intro e; rw [e] at h; exact absurd h.1 (by decide)
theorem nl_append {a b : List UInt8} (h : (a ++ b).any nlB = false) : a.any nlB = false ∧ b.any nlB = false := by
  rw [List.any_append, Bool.or_eq_false_iff] at h; exact h
theorem nl_app {a b : List UInt8} (ha : a.any nlB = false) (hb : b.any nlB = false) : (a ++ b).any nlB = false := by
  rw [List.any_append, ha, hb]; rfl
theorem nl_take {l : List UInt8} (k : Nat) (h : l.any nlB = false) : (l.take k).any nlB = false ∧ (l.drop k).any nlB = false :=
  nl_append (by rw [List.take_append_drop]; exact h)
theorem split_lf : ∀ (p r : List UInt8), p.any nlB = false → splitNL (p ++ 10 :: r) = some (p, r)
  | [], r, _ => rfl
  | c :: t, r, h => by
    obtain ⟨_, h10, ht⟩ := nl_cons h
    rw [List.cons_append, splitNL, if_neg h10, split_lf t r ht]; rfl
theorem split_crlf : ∀ (p r : List UInt8), p.any nlB = false → splitNL (p ++ 13 :: 10 :: r) = some (p ++ [13], r)
  | [], r, _ => rfl
  | c :: t, r, h => by
    obtain ⟨_, h10, ht⟩ := nl_cons h
    rw [List.cons_append, splitNL, if_neg h10, split_crlf t r ht]; rfl
theorem no13 : ∀ (p : List UInt8), p.any nlB = false → p.any (· == 13) = false
  | [], _ => rfl
  | c :: t, h => by
    obtain ⟨h13, _, ht⟩ := nl_cons h
    rw [List.any_cons, no13 t ht, beq_eq_false_iff_ne.2 h13]; rfl
theorem trim_cr (p : List UInt8) : trimCR (p ++ [13]) = p := by unfold trimCR; simp
theorem trim_no (p : List UInt8) (h : p.any nlB = false) : trimCR p = p := by
  unfold trimCR
  rw [if_neg]
  intro e
  have hm := List.mem_of_getLast? e
  have h2 := no13 p h
  rw [List.any_eq_false] at h2
  exact h2 13 hm (by decide)
def Eol (e : List UInt8) : Prop := e = [13, 10] ∨ e = [10]
theorem cut_step (e p r : List UInt8) (he : Eol e) (hp : p.any nlB = false) (m n : Nat) (acc : List S78) : cutG (m + 1) (p ++ e ++ r) acc n = goOn m p r acc n := by
  rcases he with rfl | rfl
  · rw [show p ++ [13, 10] ++ r = p ++ 13 :: 10 :: r by simp, cutG_some m n _ (p ++ [13]) r acc (by simp) (split_crlf p r hp), trim_cr]
  · rw [show p ++ [10] ++ r = p ++ 10 :: r by simp, cutG_some m n _ p r acc (by simp) (split_lf p r hp), trim_no p hp]
theorem notbad (p : List UInt8) (hne : p ≠ []) (hp : p.any nlB = false) : badP p = false := by
  unfold badP
  rw [no13 p hp, Bool.or_false]
  cases p with
  | nil => exact absurd rfl hne
  | cons a t => rfl
theorem go_first (m n : Nat) (p r : List UInt8) (acc : List S78) (hne : p ≠ []) (hp : p.any nlB = false) (hg : goesP p = false) : goOn m p r acc n = cutG m r (acc ++ [⟨⟨p.toArray⟩, (n : Int)⟩]) (n + 1) := by
  unfold goOn
  rw [notbad p hne hp, hg]
  simp only [Bool.false_eq_true, if_false]
theorem addLast_snoc (acc : List S78) (p q : List UInt8) (n0 : Int) : addLast (acc ++ [⟨⟨p.toArray⟩, n0⟩]) q = acc ++ [⟨⟨(p ++ q).toArray⟩, n0⟩] := by
  have hl : (acc ++ [(⟨⟨p.toArray⟩, n0⟩ : S78)]).length - 1 = acc.length := by simp
  have hr : rd_T78 (acc ++ [(⟨⟨p.toArray⟩, n0⟩ : S78)]) ((acc.length : Nat) : Int) = ⟨⟨p.toArray⟩, n0⟩ := by
    unfold rd_T78
    rw [Int.toNat_natCast, List.getD_eq_getElem?_getD]
    simp
  unfold addLast
  rw [hl, hr, List.set_append_right _ _ (Nat.le_refl _), Nat.sub_self, List.set_cons_zero]
  have e : (⟨p.toArray⟩ : ByteArray) ++ ⟨q.toArray⟩ = ⟨(p ++ q).toArray⟩ := by
    apply ByteArray.ext
    rw [ByteArray.data_append]
    simp
  show acc ++ [(⟨(⟨p.toArray⟩ : ByteArray) ++ ⟨q.toArray⟩, n0⟩ : S78)] = _
  rw [e]
theorem go_more (m n : Nat) (b : UInt8) (hb : b = 32 ∨ b = 9) (p q r : List UInt8) (acc : List S78) (n0 : Int) (hq : q.any nlB = false) : goOn m (b :: q) r (acc ++ [⟨⟨p.toArray⟩, n0⟩]) n = cutG m r (acc ++ [⟨⟨(p ++ q).toArray⟩, n0⟩]) (n + 1) := by
  have hg : goesP (b :: q) = true := by rcases hb with rfl | rfl <;> rfl
  have hbq : (b :: q).any nlB = false := by
    rw [List.any_cons, hq, Bool.or_false]
    rcases hb with rfl | rfl <;> decide
  unfold goOn
  rw [notbad _ (by simp) hbq, hg]
  simp only [Bool.false_eq_true, if_false, if_true]
  rw [if_neg (by simp), show (b :: q).drop 1 = q from rfl, addLast_snoc]
theorem cutG_fuel : ∀ (m m' n : Nat) (l : List UInt8) (acc : List S78), l.length ≤ m → l.length ≤ m' → cutG m l acc n = cutG m' l acc n
  | 0, m', n, l, acc, h, h' => by
    obtain rfl : l = [] := List.length_eq_zero_iff.1 (by omega)
    cases m' with
    | zero => rfl
    | succ j => rw [cutG, cutG, if_pos rfl]
  | m + 1, 0, n, l, acc, h, h' => by
    obtain rfl : l = [] := List.length_eq_zero_iff.1 (by omega)
    rw [cutG, cutG, if_pos rfl]
  | m + 1, m' + 1, n, l, acc, h, h' => by
    by_cases hne : l = []
    · rw [cutG, cutG, if_pos hne, if_pos hne]
    cases hs : splitNL l with
    | none => rw [cutG_none _ _ _ _ hne hs, cutG_none _ _ _ _ hne hs]
    | some qr =>
      obtain ⟨q, r⟩ := qr
      have hq := split_len hs
      rw [cutG_some _ _ _ q r _ hne hs, cutG_some _ _ _ q r _ hne hs]
      unfold goOn
      rw [cutG_fuel m m' (n + 1) r _ (by omega) (by omega), cutG_fuel m m' (n + 1) r (acc ++ _) (by omega) (by omega)]
def cutT (l : List UInt8) (acc : List S78) (n : Nat) : List S78 × Int := cutG l.length l acc n
theorem cutT_nil (acc : List S78) (n : Nat) : cutT [] acc n = (acc, 0) := rfl
theorem cutT_first (e p r : List UInt8) (he : Eol e) (acc : List S78) (n : Nat) (hne : p ≠ []) (hp : p.any nlB = false) (hg : goesP p = false) : cutT (p ++ e ++ r) acc n = cutT r (acc ++ [⟨⟨p.toArray⟩, (n : Int)⟩]) (n + 1) := by
  have hl : 0 < p.length := List.length_pos_iff.2 hne
  unfold cutT
  obtain ⟨m, hm⟩ : ∃ m, (p ++ e ++ r).length = m + 1 := ⟨(p ++ e ++ r).length - 1, by simp only [List.length_append]; omega⟩
  rw [hm, cut_step e p r he hp, go_first m n p r acc hne hp hg]
  exact cutG_fuel _ _ _ _ _ (by simp only [List.length_append] at hm; omega) (Nat.le_refl _)
theorem cutT_more (e q r : List UInt8) (he : Eol e) (b : UInt8) (hb : b = 32 ∨ b = 9) (acc : List S78) (p : List UInt8) (n0 : Int) (n : Nat) (hq : q.any nlB = false) : cutT ((b :: q) ++ e ++ r) (acc ++ [⟨⟨p.toArray⟩, n0⟩]) n = cutT r (acc ++ [⟨⟨(p ++ q).toArray⟩, n0⟩]) (n + 1) := by
  have hbq : (b :: q).any nlB = false := by
    rw [List.any_cons, hq, Bool.or_false]
    rcases hb with rfl | rfl <;> decide
  unfold cutT
  obtain ⟨m, hm⟩ : ∃ m, ((b :: q) ++ e ++ r).length = m + 1 := ⟨((b :: q) ++ e ++ r).length - 1, by simp only [List.length_append, List.length_cons]; omega⟩
  rw [hm, cut_step e _ r he hbq, go_more m n b hb p q r acc n0 hq]
  exact cutG_fuel _ _ _ _ _ (by simp only [List.length_append, List.length_cons] at hm; omega) (Nat.le_refl _)
/-! ### a folded line -/
def contT (l : List UInt8) : List UInt8 := if l = [] then [] else 32 :: oneT l 74
theorem oneT_cont (l : List UInt8) (r : Nat) (hne : l ≠ []) (hr : 4 ≤ r) : oneT l r = l.take (takeT l r) ++ [13, 10] ++ contT (l.drop (takeT l r)) := by
  rw [oneT_step l r hne hr]
  unfold contT
  by_cases h : l.drop (takeT l r) = []
  · rw [if_pos h, if_pos h, h, oneT_nil]; simp
  · rw [if_neg h, if_neg h]; simp
theorem cutT_cont (r : List UInt8) (acc : List S78) (n0 : Int) : ∀ (k : Nat) (l p : List UInt8) (n : Nat), l.length ≤ k → l.any nlB = false → ∃ n', cutT (contT l ++ r) (acc ++ [⟨⟨p.toArray⟩, n0⟩]) n = cutT r (acc ++ [⟨⟨(p ++ l).toArray⟩, n0⟩]) n'
  | 0, l, p, n, hk, hl => by
    obtain rfl : l = [] := List.length_eq_zero_iff.1 (by omega)
    exact ⟨n, by rw [List.append_nil]; rfl⟩
  | k + 1, l, p, n, hk, hl => by
    by_cases hne : l = []
    · subst hne; exact ⟨n, by rw [List.append_nil]; rfl⟩
    have h1 := takeT_pos l 74 hne (by omega)
    have hc : contT l ++ r = (32 :: l.take (takeT l 74)) ++ [13, 10] ++ (contT (l.drop (takeT l 74)) ++ r) := by
      rw [contT, if_neg hne, oneT_cont l 74 hne (by omega)]; simp
    obtain ⟨ha, hb⟩ := nl_take (takeT l 74) hl
    rw [hc, cutT_more [13, 10] _ _ (.inl rfl) 32 (.inl rfl) acc p n0 n ha]
    have hlen : 0 < l.length := List.length_pos_iff.2 hne
    obtain ⟨n', h⟩ := cutT_cont r acc n0 k (l.drop (takeT l 74)) (p ++ l.take (takeT l 74)) (n + 1) (by rw [List.length_drop]; omega) hb
    exact ⟨n', by rw [h, List.append_assoc, List.take_append_drop]⟩
theorem goesP_take (l : List UInt8) (k : Nat) (hk : 1 ≤ k) : goesP (l.take k) = goesP l := by
  unfold goesP
  have : (l.take k).getD 0 0 = l.getD 0 0 := by
    cases l with
    | nil => simp
    | cons a t =>
      obtain ⟨j, rfl⟩ : ∃ j, k = j + 1 := ⟨k - 1, by omega⟩
      rfl
  rw [this]
theorem cutT_line (l r : List UInt8) (acc : List S78) (n : Nat) (hne : l ≠ []) (hl : l.any nlB = false) (hg : goesP l = false) : ∃ n', cutT (oneT l 75 ++ r) acc n = cutT r (acc ++ [⟨⟨l.toArray⟩, (n : Int)⟩]) n' := by
  have h1 := takeT_pos l 75 hne (by omega)
  have hlen : 0 < l.length := List.length_pos_iff.2 hne
  obtain ⟨ha, hb⟩ := nl_take (takeT l 75) hl
  have hc : oneT l 75 ++ r = l.take (takeT l 75) ++ [13, 10] ++ (contT (l.drop (takeT l 75)) ++ r) := by
    rw [oneT_cont l 75 hne (by omega)]; simp
  rw [hc, cutT_first [13, 10] _ _ (.inl rfl) acc n (by intro e; have := congrArg List.length e; rw [List.length_take] at this; simp only [List.length_nil] at this; omega) ha (by rw [goesP_take l _ h1]; exact hg)]
  obtain ⟨n', h⟩ := cutT_cont r acc (n : Int) _ (l.drop (takeT l 75)) (l.take (takeT l 75)) (n + 1) (Nat.le_refl _) hb
  exact ⟨n', by rw [h, List.take_append_drop]⟩
end Go.Proofs.YtknmbalhbecdhaaDoor.Pure
