/- Plain: what all laws of fold take. -/
import Derived.Test.YtknmbalhbecdhaaDoorPUtf0
import Derived.Test.YtknmbalhbecdhaaDoorFoldFold
import Derived.Test.YtknmbalhbecdhaaDoorPrint7
import Derived.Test.YtknmbalhbecdhaaDoorPrint2
import Derived.Lib.IndexAny
set_option linter.unusedVariables false
set_option linter.unusedSimpArgs false
set_option linter.unusedSectionVars false
namespace Go.Proofs.YtknmbalhbecdhaaDoor.Pure
open Go.RowKit Go.Proofs.YtknmbalhbecdhaaDoor.Print Go.Proofs.YtknmbalhbecdhaaDoorW.PrintWords Go.Proofs.YtknmbalhbecdhaaDoorW.PrintLast Go.Proofs.YtknmbalhbecdhaaDoorW.PrintMore

theorem rdAt (X : List ByteArray) (i : Nat) (h : i < X.length) : rdOf ByteArray.empty X (i : Int) = X[i] := by
  unfold rdOf
  rw [Int.toNat_natCast, List.getD_eq_getElem?_getD, List.getElem?_eq_getElem h]; rfl
theorem is_natF (c : UInt8) (n : Nat) (hn : n < 256) (h : c = n.toUInt8) : (c.toNat : Int) = (n : Int) := by subst h; simp; omega
theorem nil_ofF (s : ByteArray) (h : s.size = 0) : s.data.toList = [] := by
  apply List.length_eq_zero_iff.1; rw [Array.length_toList]; exact h
def nlB (c : UInt8) : Bool := c == 13 || c == 10
theorem contains_nl (l : List UInt8) : Lib.containsAny l [13, 10] = l.any nlB := by
  unfold Lib.containsAny
  induction l with
  | nil => rfl
  | cons b t ih =>
    have hge := Lib.indexAny_ge [13, 10] t
    have hq : ([13, 10] : List UInt8).contains b = nlB b := by
      simp [nlB, List.contains_cons, Bool.or_assoc]; rfl
    rw [List.any_cons, ← ih, Lib.indexAny, hq]
    cases hb : nlB b
    · simp only [Bool.false_eq_true, if_false, Bool.false_or]
      by_cases h1 : Lib.indexAny t [13, 10] = -1
      · rw [h1]; rfl
      · have : (Lib.indexAny t [13, 10] == -1) = false := beq_eq_false_iff_ne.2 h1
        rw [this]
        have h0 : 0 ≤ Lib.indexAny t [13, 10] := by omega
        simp [h0]; omega
    · simp
theorem extT (s : ByteArray) (p q : Nat) : (s.extract p (p + q)).data.toList = (s.data.toList.drop p).take q := by
  rw [ByteArray.data_extract, Array.toList_extract, List.extract_eq_take_drop]
  congr 1; omega
def sumF : List ByteArray → Nat
  | [] => 0
  | x :: t => x.size + 1 + sumF t
theorem sumF_mem : ∀ (l : List ByteArray) (x : ByteArray), x ∈ l → x.size ≤ sumF l
  | y :: t, x, h => by
    rcases List.mem_cons.1 h with rfl | h
    · simp only [sumF]; omega
    · have := sumF_mem t x h; simp only [sumF]; omega
theorem sumF_len : ∀ (l : List ByteArray), l.length ≤ sumF l
  | [] => Nat.le_refl _
  | y :: t => by have := sumF_len t; simp only [sumF, List.length_cons]; omega
theorem few_l0 (X : List ByteArray) (hs : ∀ x ∈ X, x.size ≤ 140737488351232) : ∀ (n i m : Nat), X.length - i ≤ n → i ≤ X.length → i ≤ m → m ≤ 30000 →
    Ev (fun k => trystlaw08_few.l0 k X (m : Int) (X.length : Int) (i : Int)) (decide (m + sumF (X.drop i) ≤ 30000))
  | 0, i, m, hn, hi, him, hm => by
    obtain rfl : i = X.length := by omega
    rw [List.drop_length]
    refine Ev.step (f := fun _ => some true) (fun k => by simp only [trystlaw08_few.l0]; rw [if_neg (by omega)]) ?_
    rw [decide_eq_true (by simp only [sumF]; omega)]; exact Ev.now _
  | n + 1, i, m, hn, hi, him, hm => by
    by_cases hlt : i < X.length
    case neg => exact few_l0 X hs n i m (by omega) hi him hm
    have hx := hs X[i] (List.getElem_mem hlt)
    rw [List.drop_eq_getElem_cons hlt, sumF]
    have e1 : wrap64 (wrap64 ((m : Int) + (X[i].size : Int)) + 1) = ((m + X[i].size + 1 : Nat) : Int) := by
      rw [show wrap64 ((m : Int) + (X[i].size : Int)) = ((m + X[i].size : Nat) : Int) by unfold wrap64; omega]
      unfold wrap64; omega
    by_cases hbig : m + X[i].size + 1 > 30000
    · rw [decide_eq_false (by omega)]
      refine Ev.step (f := fun _ => some false) (fun k => ?_) (Ev.now _)
      simp only [trystlaw08_few.l0, rdAt X i hlt, e1]
      rw [if_pos (by omega), if_pos (by omega), if_pos (by omega), if_pos (by omega)]
    · refine Ev.step (f := fun k => trystlaw08_few.l0 k X ((m + X[i].size + 1 : Nat) : Int) (X.length : Int) ((i + 1 : Nat) : Int)) (fun k => ?_) ?_
      · simp only [trystlaw08_few.l0, rdAt X i hlt, e1]
        rw [if_pos (by omega), if_pos (by omega), if_pos (by omega), if_neg (by omega), wrap_one i (by omega)]
      · have := few_l0 X hs n (i + 1) (m + X[i].size + 1) (by omega) (by omega) (by omega) (by omega)
        rw [show m + (X[i].size + 1 + sumF (X.drop (i + 1))) = m + X[i].size + 1 + sumF (X.drop (i + 1)) by omega]
        exact this
theorem few_ev (X : List ByteArray) (hs : ∀ x ∈ X, x.size ≤ 140737488351232) : Ev (fun k => trystlaw08_few.f k X) (decide (sumF X ≤ 30000)) := by
  have := few_l0 X hs X.length 0 0 (by omega) (by omega) (by omega) (by omega)
  rw [List.drop_zero, Nat.zero_add] at this
  exact this
theorem one_a : oneT [97] 75 = [97, 13, 10] := by
  have hd : (Lib.decodeL [97]).2 = 1 := rfl
  have ht : takeT [97] 75 = 1 := by
    rw [takeT_step _ _ (by simp), hd, if_neg (by omega)]; rfl
  rw [oneT_step _ _ (by simp) (by omega), ht]; rfl
theorem awake8 : trystlaw08_awake.f = some true := by
  have hb : badF (⟨#[97]⟩ : ByteArray) = false := rfl
  have hf : fold_Fold.f [(⟨#[97]⟩ : ByteArray)] = some ((⟨#[97, 13, 10]⟩ : ByteArray), 0) := by
    unfold fold_Fold.f
    rw [if_pos (by intro x hx; rw [List.mem_singleton.1 hx]; decide)]
    unfold foldA
    rw [List.any_cons, hb]
    have e : (⟨#[97]⟩ : ByteArray).data.toList = [97] := rfl
    have e2 : (⟨#[97]⟩ : ByteArray).size = 1 := rfl
    simp [foldR, e2, one_a]
  unfold trystlaw08_awake.f
  rw [hf]; simp only [Option.bind_some, if_true, Lib.toList_data]; rfl
theorem fold_f (X : List ByteArray) (h : sumF X ≤ 30000) : fold_Fold.f X = some (foldA X) := by
  unfold fold_Fold.f
  rw [if_pos (fun x hx => by have := sumF_mem X x hx; omega)]
end Go.Proofs.YtknmbalhbecdhaaDoor.Pure
