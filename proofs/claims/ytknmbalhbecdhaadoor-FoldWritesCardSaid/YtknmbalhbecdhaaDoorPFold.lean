/- Plain: the law FoldWrites holds of the printed functions. -/
import Derived.Test.YtknmbalhbecdhaaDoorPUtf
import Derived.Test.YtknmbalhbecdhaaDoorFoldFold
import Derived.Test.YtknmbalhbecdhaaDoorPrint10
import Derived.Test.YtknmbalhbecdhaaDoorPrint11
import Derived.Lib.LazyBuf
import Derived.Lib.IndexAny
set_option linter.unusedVariables false
set_option linter.unusedSimpArgs false
set_option linter.unusedSectionVars false
namespace Go.Proofs.YtknmbalhbecdhaaDoor.Pure
open Go.RowKit Go.Proofs.YtknmbalhbecdhaaDoor.Print Go.Proofs.YtknmbalhbecdhaaDoorW.PrintWords Go.Proofs.YtknmbalhbecdhaaDoorW.PrintLast Go.Proofs.YtknmbalhbecdhaaDoorW.PrintMore

/-- Bytes, as the printed functions hold a list of them. -/
def fI (L : List UInt8) : List Int := L.map fun b => (b.toNat : Int)
theorem str_fI (L : List UInt8) : strOfNums (fI L) = ⟨L.toArray⟩ := by simp only [fI]; exact Go.Lib.Lz.strOfNums_map L
theorem fI_len (L : List UInt8) : (fI L).length = L.length := by simp [fI]
theorem fI_app (L M : List UInt8) : fI L ++ fI M = fI (L ++ M) := by simp [fI]
theorem rdAt (X : List ByteArray) (i : Nat) (h : i < X.length) : rdOf ByteArray.empty X (i : Int) = X[i] := by
  unfold rdOf
  rw [Int.toNat_natCast, List.getD_eq_getElem?_getD, List.getElem?_eq_getElem h]; rfl
theorem is_natF (c : UInt8) (n : Nat) (hn : n < 256) (h : c = n.toUInt8) : (c.toNat : Int) = (n : Int) := by subst h; simp; omega
theorem nil_ofF (s : ByteArray) (h : s.size = 0) : s.data.toList = [] := by
  apply List.length_eq_zero_iff.1; rw [Array.length_toList]; exact h
def nlB (c : UInt8) : Bool := c == 13 || c == 10
theorem contains_nl (l : List UInt8) : Lib.containsAny l [13, 10] = l.any nlB := by
  unfold Lib.containsAny
  induction l with
  | nil => rfl
  | cons b t ih =>
    have hge := Lib.indexAny_ge [13, 10] t
    have hq : ([13, 10] : List UInt8).contains b = nlB b := by
      simp [nlB, List.contains_cons, Bool.or_assoc]; rfl
    rw [List.any_cons, ← ih, Lib.indexAny, hq]
    cases hb : nlB b
    · simp only [Bool.false_eq_true, if_false, Bool.false_or]
      by_cases h1 : Lib.indexAny t [13, 10] = -1
      · rw [h1]; rfl
      · have : (Lib.indexAny t [13, 10] == -1) = false := beq_eq_false_iff_ne.2 h1
        rw [this]
        have h0 : 0 ≤ Lib.indexAny t [13, 10] := by omega
        simp [h0]; omega
    · simp
/-! ### what a place holds -/
theorem mx_nx (l : List UInt8) (hne : l ≠ []) : mx 1 ((nx l : Nat) : Int) = (((Lib.decodeL l).2 : Nat) : Int) := by
  have h1 := decL_pos l hne
  unfold mx
  by_cases hb : (Lib.decodeL l).1 = 65533 ∧ (Lib.decodeL l).2 = 1
  · rw [(nx_bad l hne).2 hb, hb.2]; rfl
  · rw [nx_good l hb]; split <;> omega
theorem size_ev (s : ByteArray) (i : Nat) (hi : i < s.size) (hs : s.size ≤ 140737488351232) : Ev (fun k => trystref08_size.f k s i) (((Lib.decodeL (s.data.toList.drop i)).2 : Nat) : Int) := by
  have hne : s.data.toList.drop i ≠ [] := by
    intro e; have := congrArg List.length e; simp at this; omega
  refine Ev.bind (next_ev s i hi hs) ?_
  rw [mx_nx _ hne]
  exact Ev.now _
/-- A line's rest, where room bytes are left. -/
def restT (l : List UInt8) (r : Nat) : List UInt8 := l.take (takeT l r) ++ [13, 10] ++ (if l.drop (takeT l r) = [] then [] else [32]) ++ oneT (l.drop (takeT l r)) 74
theorem restT_nil (r : Nat) : restT [] r = [13, 10] := by
  unfold restT; rw [takeT_nil]; rfl
theorem restT_fit (l : List UInt8) (r : Nat) (hne : l ≠ []) (h : (Lib.decodeL l).2 ≤ r) : restT l r = l.take (Lib.decodeL l).2 ++ restT (l.drop (Lib.decodeL l).2) (r - (Lib.decodeL l).2) := by
  unfold restT
  rw [takeT_step l r hne, if_neg (by omega), List.drop_drop, List.take_add, List.append_assoc, List.append_assoc, List.append_assoc, List.append_assoc, List.append_assoc]
theorem restT_new (l : List UInt8) (r : Nat) (hne : l ≠ []) (h : r < (Lib.decodeL l).2) : restT l r = [13, 10, 32] ++ l.take (Lib.decodeL l).2 ++ restT (l.drop (Lib.decodeL l).2) (74 - (Lib.decodeL l).2) := by
  have h4 := dL_le4 l hne
  have e : oneT l 74 = restT l 74 := by rw [oneT_step l 74 hne (by omega)]; rfl
  have e0 : restT l r = [13, 10, 32] ++ oneT l 74 := by
    unfold restT
    rw [takeT_step l r hne, if_pos h, List.take_zero, List.drop_zero, if_neg hne]; rfl
  rw [e0, e, restT_fit l 74 hne (by omega), List.append_assoc]
theorem restT_one (l : List UInt8) (hne : l ≠ []) : oneT l 75 = restT l 75 := by rw [oneT_step l 75 hne (by omega)]; rfl
theorem bytesOf_fI (s : ByteArray) : bytesOf s = fI s.data.toList := by
  simp [bytesOf, fI, Lib.toList_data]
theorem extT (s : ByteArray) (p q : Nat) : (s.extract p (p + q)).data.toList = (s.data.toList.drop p).take q := by
  rw [ByteArray.data_extract, Array.toList_extract, List.extract_eq_take_drop]
  congr 1; omega
/-! ### a line's rounds -/
section
variable {X : List ByteArray} {s : ByteArray} {n5 n4 : Int} {p : Nat} (hp : p < s.size) (hs : s.size ≤ 100000)
include hp hs
theorem w_fit (k : Nat) (A : List UInt8) (w c : Nat) (hA : A.length + 5 * s.size ≤ 100000000) (hpc : p + c ≤ s.size) (hw : w + c ≤ 75) :
    (if (wrap64 ((w : Int) + (c : Int))) > 75 then ((some (([13, 10, 32] : List Int) : List Int)).bind fun y217 => (if (fI A).length + y217.length < 140737488355328 then ((some ((fI A) ++ y217 : List Int)).bind fun y220 => (if (0 : Int) ≤ (p : Int) then (if (p : Int) ≤ (wrap64 ((p : Int) + (c : Int))) then (if (wrap64 ((p : Int) + (c : Int))) ≤ (s.size : Int) then (if y220.length + (s.extract ((p : Int) : Int).toNat ((wrap64 ((p : Int) + (c : Int))) : Int).toNat).size < 140737488355328 then (trystref08_Fold.l3 k X (y220 ++ bytesOf (s.extract ((p : Int) : Int).toNat ((wrap64 ((p : Int) + (c : Int))) : Int).toNat)) false s (wrap64 (1 + (c : Int))) (wrap64 ((p : Int) + (c : Int))) n5 n4) else (none)) else (none)) else (none)) else (none))) else (none))) else (if (0 : Int) ≤ (p : Int) then (if (p : Int) ≤ (wrap64 ((p : Int) + (c : Int))) then (if (wrap64 ((p : Int) + (c : Int))) ≤ (s.size : Int) then (if (fI A).length + (s.extract ((p : Int) : Int).toNat ((wrap64 ((p : Int) + (c : Int))) : Int).toNat).size < 140737488355328 then (trystref08_Fold.l3 k X ((fI A) ++ bytesOf (s.extract ((p : Int) : Int).toNat ((wrap64 ((p : Int) + (c : Int))) : Int).toNat)) false s (wrap64 ((w : Int) + (c : Int))) (wrap64 ((p : Int) + (c : Int))) n5 n4) else (none)) else (none)) else (none)) else (none)))
    = trystref08_Fold.l3 k X (fI (A ++ (s.data.toList.drop p).take c)) false s ((w + c : Nat) : Int) ((p + c : Nat) : Int) n5 n4 := by
  rw [wrap_nat w c (by omega), wrap_nat p c (by omega), if_neg (by omega), if_pos (by omega), if_pos (by omega), if_pos (by omega), Int.toNat_natCast, Int.toNat_natCast, if_pos (by rw [fI_len, ByteArray.size_extract]; omega), bytesOf_fI, extT, fI_app]
theorem w_new (k : Nat) (A : List UInt8) (w c : Nat) (hA : A.length + 5 * s.size ≤ 100000000) (hpc : p + c ≤ s.size) (hw : 75 < w + c) (hw2 : w ≤ 75) (hc : c ≤ 4) :
    (if (wrap64 ((w : Int) + (c : Int))) > 75 then ((some (([13, 10, 32] : List Int) : List Int)).bind fun y217 => (if (fI A).length + y217.length < 140737488355328 then ((some ((fI A) ++ y217 : List Int)).bind fun y220 => (if (0 : Int) ≤ (p : Int) then (if (p : Int) ≤ (wrap64 ((p : Int) + (c : Int))) then (if (wrap64 ((p : Int) + (c : Int))) ≤ (s.size : Int) then (if y220.length + (s.extract ((p : Int) : Int).toNat ((wrap64 ((p : Int) + (c : Int))) : Int).toNat).size < 140737488355328 then (trystref08_Fold.l3 k X (y220 ++ bytesOf (s.extract ((p : Int) : Int).toNat ((wrap64 ((p : Int) + (c : Int))) : Int).toNat)) false s (wrap64 (1 + (c : Int))) (wrap64 ((p : Int) + (c : Int))) n5 n4) else (none)) else (none)) else (none)) else (none))) else (none))) else (if (0 : Int) ≤ (p : Int) then (if (p : Int) ≤ (wrap64 ((p : Int) + (c : Int))) then (if (wrap64 ((p : Int) + (c : Int))) ≤ (s.size : Int) then (if (fI A).length + (s.extract ((p : Int) : Int).toNat ((wrap64 ((p : Int) + (c : Int))) : Int).toNat).size < 140737488355328 then (trystref08_Fold.l3 k X ((fI A) ++ bytesOf (s.extract ((p : Int) : Int).toNat ((wrap64 ((p : Int) + (c : Int))) : Int).toNat)) false s (wrap64 ((w : Int) + (c : Int))) (wrap64 ((p : Int) + (c : Int))) n5 n4) else (none)) else (none)) else (none)) else (none)))
    = trystref08_Fold.l3 k X (fI (A ++ [13, 10, 32] ++ (s.data.toList.drop p).take c)) false s ((1 + c : Nat) : Int) ((p + c : Nat) : Int) n5 n4 := by
  have e : ([13, 10, 32] : List Int) = fI [13, 10, 32] := rfl
  rw [wrap_nat w c (by omega), wrap_nat p c (by omega), if_pos (by omega), e, show (1 : Int) + (c : Int) = (((1 : Nat) : Int) + (c : Int)) from rfl, wrap_nat 1 c (by omega)]
  simp only [Option.bind_some]
  rw [fI_app, if_pos (by rw [fI_len, fI_len]; simp; omega), if_pos (by omega), if_pos (by omega), if_pos (by omega), Int.toNat_natCast, Int.toNat_natCast, if_pos (by rw [fI_len, ByteArray.size_extract]; simp; omega), bytesOf_fI, extT, fI_app]
end
theorem l3_end (k : Nat) (X : List ByteArray) (s : ByteArray) (A : List UInt8) (w n5 n4 : Int) (hA : A.length ≤ 100000000) :
    trystref08_Fold.l3 (k + 2) X (fI A) false s w ((s.size : Nat) : Int) n5 n4 = trystref08_Fold.l2 k X (fI (A ++ [13, 10])) (decide (((A ++ [13, 10]).length : Int) > 20000)) n5 (wrap64 (n4 + 1)) := by
  have e : ([13, 10] : List Int) = fI [13, 10] := rfl
  simp only [trystref08_Fold.l3, trystref08_Fold.j6, Option.bind_some]
  rw [if_neg (by omega), if_neg (by simp), e, fI_app, fI_len, fI_len, fI_len]
  rw [if_pos (by simp; omega), if_neg (by simp)]
theorem l3_ev (X : List ByteArray) (s : ByteArray) (hs : s.size ≤ 100000) (n5 n4 : Int) (R : ByteArray × Int) : ∀ (n p w : Nat) (A : List UInt8), s.size - p ≤ n → p ≤ s.size → w ≤ 75 → A.length + 5 * s.size ≤ 1000000 + 5 * p →
    Ev (fun k => trystref08_Fold.l2 k X (fI (A ++ restT (s.data.toList.drop p) (75 - w))) (decide (((A ++ restT (s.data.toList.drop p) (75 - w)).length : Int) > 20000)) n5 (wrap64 (n4 + 1))) R →
    Ev (fun k => trystref08_Fold.l3 k X (fI A) false s (w : Int) (p : Int) n5 n4) R
  | 0, p, w, A, hn, hp, hw, hA, H => by
    obtain rfl : p = s.size := by omega
    rw [List.drop_of_length_le (by simp), restT_nil] at H
    obtain ⟨K, hK⟩ := H
    refine ⟨K + 2, fun k hk => ?_⟩
    obtain ⟨j, rfl⟩ : ∃ j, k = j + 2 := ⟨k - 2, by omega⟩
    show trystref08_Fold.l3 (j + 2) X (fI A) false s (w : Int) ((s.size : Nat) : Int) n5 n4 = some R
    rw [l3_end j X s A w n5 n4 (by omega)]
    exact hK j (by omega)
  | n + 1, p, w, A, hn, hp, hw, hA, H => by
    by_cases hlt : p < s.size
    case neg => exact l3_ev X s hs n5 n4 R n p w A (by omega) hp hw hA H
    have hne : s.data.toList.drop p ≠ [] := by
      intro e; have := congrArg List.length e; simp at this; omega
    have h1 := decL_pos _ hne
    have h4 := dL_le4 _ hne
    have hle := Lib.decodeL_le _ hne
    rw [List.length_drop] at hle
    have hsz : s.data.toList.length = s.size := by simp
    rw [hsz] at hle
    have hev := size_ev s p hlt (by omega)
    have IH := fun w' A' => l3_ev X s hs n5 n4 R n (p + (Lib.decodeL (s.data.toList.drop p)).2) w' A' (by omega) (by omega)
    have hfit := restT_fit (s.data.toList.drop p) (75 - w) hne
    have hnew := restT_new (s.data.toList.drop p) (75 - w) hne
    rw [List.drop_drop] at hfit hnew
    generalize (Lib.decodeL (s.data.toList.drop p)).2 = c at *
    have htl : ((s.data.toList.drop p).take c).length = c := by rw [List.length_take, List.length_drop, hsz]; omega
    refine Ev.step (f := fun k => trystref08_Fold.j6 k X (fI A) false s (w : Int) (p : Int) n5 n4 true) (fun k => by simp only [trystref08_Fold.l3]; rw [if_pos (by omega)]; rfl) ?_
    refine Ev.step (f := _) (fun k => by simp only [trystref08_Fold.j6, if_true]; rfl) ?_
    refine Ev.bind hev ?_
    by_cases hfw : w + c ≤ 75
    · refine Ev.congr (fun k => w_fit hlt hs k A w c (by omega) (by omega) hfw) ?_
      refine IH _ _ (by omega) (by rw [List.length_append, htl]; omega) ?_
      rw [hfit (by omega), ← List.append_assoc] at H
      rw [show 75 - (w + c) = 75 - w - c by omega]
      exact H
    · refine Ev.congr (fun k => w_new hlt hs k A w c (by omega) (by omega) (by omega) hw h4) ?_
      refine IH _ _ (by omega) (by rw [List.length_append, List.length_append, htl]; simp; omega) ?_
      rw [hnew (by omega), ← List.append_assoc, ← List.append_assoc] at H
      rw [show 75 - (1 + c) = 74 - c by omega]
      exact H
/-! ### too long -/
theorem long_ev (X : List ByteArray) (hX : X.length ≤ 100000) : ∀ (n i : Nat) (y : List Int), X.length - i ≤ n → i ≤ X.length → y.length + 2 * X.length ≤ 100000000 + 2 * i →
    Ev (fun k => trystref08_Fold.l2 k X y true (X.length : Int) (i : Int)) (⟨#[]⟩, 4)
  | 0, i, y, hn, hi, hy => by
    obtain rfl : i = X.length := by omega
    exact Ev.step (f := fun _ => some (⟨#[]⟩, 4)) (fun k => by simp only [trystref08_Fold.l2]; rw [if_neg (by omega), if_pos trivial]) (Ev.now _)
  | n + 1, i, y, hn, hi, hy => by
    by_cases hlt : i < X.length
    case neg => exact long_ev X hX n i y (by omega) hi hy
    refine Ev.step (f := fun k => trystref08_Fold.j4 k X y true X[i] (X.length : Int) (i : Int)) (fun k => by simp only [trystref08_Fold.l2, rdAt X i hlt]; rw [if_pos (by omega), if_pos (by omega), if_pos (by omega), if_pos trivial]) ?_
    refine Ev.step (f := fun k => trystref08_Fold.l3 k X y true X[i] 0 0 (X.length : Int) (i : Int)) (fun k => by simp only [trystref08_Fold.j4]) ?_
    refine Ev.step (f := fun k => trystref08_Fold.j6 k X y true X[i] 0 0 (X.length : Int) (i : Int) false) (fun k => by simp only [trystref08_Fold.l3]; split <;> rfl) ?_
    refine Ev.step (f := fun k => trystref08_Fold.l2 k X (y ++ [13, 10]) true (X.length : Int) ((i + 1 : Nat) : Int)) (fun k => ?_) ?_
    · simp only [trystref08_Fold.j6, Option.bind_some]
      rw [if_neg (by simp), if_pos (by simp; omega), if_pos trivial, wrap_one i (by omega)]
    · exact long_ev X hX n (i + 1) _ (by omega) (by omega) (by rw [List.length_append]; simp; omega)
/-! ### all lines -/
theorem restT_le (s : ByteArray) : (restT s.data.toList 75).length ≤ 4 * s.size + 2 := by
  by_cases h : s.data.toList = []
  · rw [h, restT_nil]; simp
  · have := oneT_len _ s.data.toList 75 (by omega) (Nat.le_refl _)
    rw [restT_one _ h] at this
    have e : s.data.toList.length = s.size := by simp
    omega
/-- foldR, as the reference goes on with an empty line. -/
def foldP : List ByteArray → List UInt8 → ByteArray × Int
  | [], acc => if acc.length > 20000 then (⟨#[]⟩, 4) else (⟨acc.toArray⟩, 0)
  | s :: t, acc => if s.size > 2000 ∨ acc.length > 20000 then (⟨#[]⟩, 4) else foldP t (acc ++ restT s.data.toList 75)
theorem foldP_eq : ∀ (l : List ByteArray) (A : List UInt8), (∀ x ∈ l, x.size ≠ 0) → foldP l A = foldR l A
  | [], _, _ => rfl
  | s :: t, A, h => by
    have hnn : s.data.toList ≠ [] := fun e => h s (by simp) (by have := congrArg List.length e; simpa using this)
    unfold foldP foldR
    rw [← restT_one _ hnn, foldP_eq t _ (fun x hx => h x (by simp [hx]))]
theorem all_ev (X : List ByteArray) (hX : X.length ≤ 100000) (hsz : ∀ x ∈ X, x.size ≤ 100000) : ∀ (n i : Nat) (A : List UInt8), X.length - i ≤ n → i ≤ X.length → A.length ≤ 29000 →
    Ev (fun k => trystref08_Fold.l2 k X (fI A) (decide ((A.length : Int) > 20000)) (X.length : Int) (i : Int)) (foldP (X.drop i) A)
  | 0, i, A, hn, hi, hA => by
    obtain rfl : i = X.length := by omega
    rw [List.drop_length]
    unfold foldP
    by_cases hl : A.length > 20000
    · rw [if_pos hl, decide_eq_true (by omega)]
      exact long_ev X hX 0 _ _ (by omega) (by omega) (by rw [fI_len]; omega)
    · rw [if_neg hl, decide_eq_false (by omega)]
      exact Ev.step (f := fun _ => some (⟨A.toArray⟩, 0)) (fun k => by simp only [trystref08_Fold.l2]; rw [if_neg (by omega), if_neg (by simp), str_fI]) (Ev.now _)
  | n + 1, i, A, hn, hi, hA => by
    by_cases hlt : i < X.length
    case neg => exact all_ev X hX hsz n i A (by omega) hi hA
    have hx := hsz X[i] (List.getElem_mem hlt)
    rw [List.drop_eq_getElem_cons hlt]
    unfold foldP
    by_cases hl : A.length > 20000
    · rw [if_pos (.inr hl), decide_eq_true (by omega)]
      exact long_ev X hX _ _ _ hn (by omega) (by rw [fI_len]; omega)
    · rw [decide_eq_false (show ¬ (A.length : Int) > 20000 by omega)]
      refine Ev.step (f := fun k => trystref08_Fold.j4 k X (fI A) (decide ((X[i].size : Int) > 2000)) X[i] (X.length : Int) (i : Int)) (fun k => by simp only [trystref08_Fold.l2, rdAt X i hlt]; rw [if_pos (by omega), if_pos (by omega), if_pos (by omega), if_neg (by simp)]) ?_
      refine Ev.step (f := fun k => trystref08_Fold.l3 k X (fI A) (decide ((X[i].size : Int) > 2000)) X[i] 0 0 (X.length : Int) (i : Int)) (fun k => by simp only [trystref08_Fold.j4]) ?_
      by_cases hb : X[i].size > 2000
      · rw [if_pos (.inl hb), decide_eq_true (by omega)]
        refine Ev.step (f := fun k => trystref08_Fold.j6 k X (fI A) true X[i] 0 0 (X.length : Int) (i : Int) false) (fun k => by simp only [trystref08_Fold.l3]; split <;> rfl) ?_
        refine Ev.step (f := fun k => trystref08_Fold.l2 k X (fI A ++ [13, 10]) true (X.length : Int) ((i + 1 : Nat) : Int)) (fun k => ?_) ?_
        · simp only [trystref08_Fold.j6, Option.bind_some]
          rw [if_neg (by simp), if_pos (by simp [fI_len]; omega), if_pos trivial, wrap_one i (by omega)]
        · exact long_ev X hX n (i + 1) _ (by omega) (by omega) (by rw [List.length_append, fI_len]; simp; omega)
      · rw [if_neg (by omega), decide_eq_false (show ¬ (X[i].size : Int) > 2000 by omega)]
        have hlen := restT_le X[i]
        have ih := all_ev X hX hsz n (i + 1) (A ++ restT X[i].data.toList 75) (by omega) (by omega) (by rw [List.length_append]; omega)
        rw [← wrap_one i (by omega)] at ih
        have := l3_ev X X[i] hx (X.length : Int) (i : Int) (foldP (X.drop (i + 1)) (A ++ restT X[i].data.toList 75)) X[i].size 0 0 A (by omega) (by omega) (by omega) (by omega) (by rw [List.drop_zero]; exact ih)
        exact this
/-! ### bad lines -/
theorem l1_step (X : List ByteArray) (s : ByteArray) (n5 n4 : Int) (k j : Nat) (hj : j < s.size) (hs : s.size ≤ 100000) (c : UInt8) (hb : bt s (j : Int) = (c.toNat : Int)) :
    trystref08_Fold.l1 (k + 1) X s n5 n4 (s.size : Int) (j : Int) = if nlB c = true then some (⟨#[]⟩, 5) else trystref08_Fold.l1 k X s n5 n4 (s.size : Int) ((j + 1 : Nat) : Int) := by
  simp only [trystref08_Fold.l1, hb]
  rw [if_pos (by omega), if_pos (by omega), if_pos (by omega), wrap_one j (by omega)]
  by_cases h1 : c = 13
  · rw [if_pos (show (c.toNat : Int) = 13 from is_natF c 13 (by omega) h1), if_pos (by rw [h1]; rfl)]
  rw [if_neg (show ¬ (c.toNat : Int) = 13 from ne_nat c 13 (by omega) h1)]
  by_cases h2 : c = 10
  · rw [if_pos (show (c.toNat : Int) = 10 from is_natF c 10 (by omega) h2), if_pos (by rw [h2]; rfl)]
  rw [if_neg (show ¬ (c.toNat : Int) = 10 from ne_nat c 10 (by omega) h2), if_neg (by simp [nlB, h1, h2])]
theorem l1_evF (X : List ByteArray) (s : ByteArray) (n5 n4 : Int) (hs : s.size ≤ 100000) (R : ByteArray × Int) (H : Ev (fun k => trystref08_Fold.l0 k X n5 (wrap64 (n4 + 1))) R) : ∀ (n j : Nat), s.size - j ≤ n → j ≤ s.size →
    Ev (fun k => trystref08_Fold.l1 k X s n5 n4 (s.size : Int) (j : Int)) (if (s.data.toList.drop j).any nlB = true then (⟨#[]⟩, 5) else R)
  | 0, j, hn, hj => by
    obtain rfl : j = s.size := by omega
    rw [List.drop_of_length_le (by simp)]
    refine Ev.step (fun k => by simp only [trystref08_Fold.l1]; rw [if_neg (by omega)]) H
  | n + 1, j, hn, hj => by
    by_cases hlt : j < s.size
    case neg => exact l1_evF X s n5 n4 hs R H n j (by omega) hj
    rw [drop_at s j hlt]
    have hb := bt_nat s j
    have ih := l1_evF X s n5 n4 hs R H n (j + 1) (by omega) (by omega)
    generalize s.data.toList.getD j 0 = c at *
    refine Ev.step (fun k => l1_step X s n5 n4 k j hlt hs c hb) ?_
    rw [List.any_cons]
    cases hq : nlB c
    · simpa using ih
    · exact Ev.now _
theorem l0_evF (X : List ByteArray) (hX : X.length ≤ 100000) (hsz : ∀ x ∈ X, x.size ≤ 100000) (R : ByteArray × Int) (H : Ev (fun k => trystref08_Fold.l2 k X [] false (X.length : Int) 0) R) : ∀ (n i : Nat), X.length - i ≤ n → i ≤ X.length →
    Ev (fun k => trystref08_Fold.l0 k X (X.length : Int) (i : Int)) (if (X.drop i).any badF = true then (⟨#[]⟩, 5) else R)
  | 0, i, hn, hi => by
    obtain rfl : i = X.length := by omega
    rw [List.drop_length]
    refine Ev.step (fun k => by simp only [trystref08_Fold.l0]; rw [if_neg (by omega)]) H
  | n + 1, i, hn, hi => by
    by_cases hlt : i < X.length
    case neg => exact l0_evF X hX hsz R H n i (by omega) hi
    have hx := hsz X[i] (List.getElem_mem hlt)
    have ih := l0_evF X hX hsz R H n (i + 1) (by omega) (by omega)
    rw [List.drop_eq_getElem_cons hlt, List.any_cons]
    have hr := rdAt X i hlt
    generalize X[i] = s at *
    have hj1 : Ev (fun k => trystref08_Fold.j1 k X s (X.length : Int) (i : Int) true) (⟨#[]⟩, 5) := Ev.step (f := fun _ => some (⟨#[]⟩, 5)) (fun k => by simp only [trystref08_Fold.j1, if_true]) (Ev.now _)
    by_cases h0 : s.size = 0
    · have e := nil_ofF s h0
      have hb : badF s = true := by unfold badF; rw [e]; rfl
      rw [hb, Bool.true_or, if_pos rfl]
      refine Ev.step (fun k => ?_) hj1
      simp only [trystref08_Fold.l0, hr]
      rw [if_pos (by omega), if_pos (by omega), if_pos (by omega), if_pos (by rw [Lib.toList_data]; exact e)]
    · have hne : s.data.toList ≠ [] := fun e => h0 (by have := congrArg List.length e; simpa using this)
      have he : s.data.toList.isEmpty = false := by
        cases h : s.data.toList with
        | nil => exact absurd h hne
        | cons a t => rfl
      have hb0 := bt_nat s 0
      rw [show ((0 : Nat) : Int) = 0 from rfl] at hb0
      have hB : badF s = (s.data.toList.isEmpty || s.data.toList.getD 0 0 == 32 || s.data.toList.getD 0 0 == 9 || Lib.containsAny s.data.toList [13, 10]) := rfl
      rw [hB, he, Bool.false_or, contains_nl]
      clear hB
      generalize s.data.toList.getD 0 0 = c at *
      by_cases h1 : c = 32
      · rw [show (c == 32) = true by rw [h1]; rfl, Bool.true_or, Bool.true_or, Bool.true_or, if_pos rfl]
        refine Ev.step (fun k => ?_) hj1
        simp only [trystref08_Fold.l0, hr, hb0]
        rw [if_pos (by omega), if_pos (by omega), if_pos (by omega), if_neg (by rw [Lib.toList_data]; exact hne), if_pos (by omega), if_pos (show (c.toNat : Int) = 32 from is_natF c 32 (by omega) h1)]
      · rw [show (c == 32) = false from beq_eq_false_iff_ne.2 h1, Bool.false_or]
        by_cases h2 : c = 9
        · rw [show (c == 9) = true by rw [h2]; rfl, Bool.true_or, Bool.true_or, if_pos rfl]
          refine Ev.step (fun k => ?_) hj1
          simp only [trystref08_Fold.l0, hr, hb0]
          rw [if_pos (by omega), if_pos (by omega), if_pos (by omega), if_neg (by rw [Lib.toList_data]; exact hne), if_pos (by omega), if_neg (show ¬ (c.toNat : Int) = 32 from ne_nat c 32 (by omega) h1), beq_iff_eq.2 (show (c.toNat : Int) = 9 from is_natF c 9 (by omega) h2)]
        · rw [show (c == 9) = false from beq_eq_false_iff_ne.2 h2, Bool.false_or]
          rw [← wrap_one i (by omega)] at ih
          have hl1 := l1_evF X s (X.length : Int) (i : Int) hx _ ih s.size 0 (by omega) (by omega)
          rw [List.drop_zero] at hl1
          refine Ev.step (f := fun k => trystref08_Fold.j1 k X s (X.length : Int) (i : Int) false) (fun k => ?_) ?_
          · simp only [trystref08_Fold.l0, hr, hb0]
            rw [if_pos (by omega), if_pos (by omega), if_pos (by omega), if_neg (by rw [Lib.toList_data]; exact hne), if_pos (by omega), if_neg (show ¬ (c.toNat : Int) = 32 from ne_nat c 32 (by omega) h1), beq_eq_false_iff_ne.2 (show ¬ (c.toNat : Int) = 9 from ne_nat c 9 (by omega) h2)]
          · refine Ev.step (f := fun k => trystref08_Fold.l1 k X s (X.length : Int) (i : Int) (s.size : Int) ((0 : Nat) : Int)) (fun k => by simp only [trystref08_Fold.j1]; rw [if_neg (by simp)]; rfl) ?_
            cases hq : s.data.toList.any nlB
            · rw [hq] at hl1; simp only [Bool.false_or, Bool.false_eq_true, if_false] at hl1 ⊢; exact hl1
            · rw [hq] at hl1; simp only [Bool.true_or, if_true] at hl1 ⊢; exact hl1
theorem ref_fold (X : List ByteArray) (hX : X.length ≤ 100000) (hsz : ∀ x ∈ X, x.size ≤ 100000) : Ev (fun k => trystref08_Fold.f k X) (foldA X) := by
  have h2 := all_ev X hX hsz X.length 0 [] (by omega) (by omega) (by simp)
  have h := l0_evF X hX hsz _ h2 X.length 0 (by omega) (by omega)
  rw [List.drop_zero] at h
  unfold foldA
  by_cases hb : X.any badF = true
  · rw [if_pos hb] at h ⊢; exact h
  · rw [if_neg hb] at h ⊢
    rw [foldP_eq X [] (fun x hx h0 => hb (List.any_eq_true.2 ⟨x, hx, by unfold badF; rw [nil_ofF x h0]; rfl⟩))] at h
    exact h
/-! ### the law -/
def sumF : List ByteArray → Nat
  | [] => 0
  | x :: t => x.size + 1 + sumF t
theorem sumF_mem : ∀ (l : List ByteArray) (x : ByteArray), x ∈ l → x.size ≤ sumF l
  | y :: t, x, h => by
    rcases List.mem_cons.1 h with rfl | h
    · simp only [sumF]; omega
    · have := sumF_mem t x h; simp only [sumF]; omega
theorem sumF_len : ∀ (l : List ByteArray), l.length ≤ sumF l
  | [] => Nat.le_refl _
  | y :: t => by have := sumF_len t; simp only [sumF, List.length_cons]; omega
theorem few_l0 (X : List ByteArray) (hs : ∀ x ∈ X, x.size ≤ 140737488351232) : ∀ (n i m : Nat), X.length - i ≤ n → i ≤ X.length → i ≤ m → m ≤ 30000 →
    Ev (fun k => trystlaw08_few.l0 k X (m : Int) (X.length : Int) (i : Int)) (decide (m + sumF (X.drop i) ≤ 30000))
  | 0, i, m, hn, hi, him, hm => by
    obtain rfl : i = X.length := by omega
    rw [List.drop_length]
    refine Ev.step (f := fun _ => some true) (fun k => by simp only [trystlaw08_few.l0]; rw [if_neg (by omega)]) ?_
    rw [decide_eq_true (by simp only [sumF]; omega)]; exact Ev.now _
  | n + 1, i, m, hn, hi, him, hm => by
    by_cases hlt : i < X.length
    case neg => exact few_l0 X hs n i m (by omega) hi him hm
    have hx := hs X[i] (List.getElem_mem hlt)
    rw [List.drop_eq_getElem_cons hlt, sumF]
    have e1 : wrap64 (wrap64 ((m : Int) + (X[i].size : Int)) + 1) = ((m + X[i].size + 1 : Nat) : Int) := by
      rw [show wrap64 ((m : Int) + (X[i].size : Int)) = ((m + X[i].size : Nat) : Int) by unfold wrap64; omega]
      unfold wrap64; omega
    by_cases hbig : m + X[i].size + 1 > 30000
    · rw [decide_eq_false (by omega)]
      refine Ev.step (f := fun _ => some false) (fun k => ?_) (Ev.now _)
      simp only [trystlaw08_few.l0, rdAt X i hlt, e1]
      rw [if_pos (by omega), if_pos (by omega), if_pos (by omega), if_pos (by omega)]
    · refine Ev.step (f := fun k => trystlaw08_few.l0 k X ((m + X[i].size + 1 : Nat) : Int) (X.length : Int) ((i + 1 : Nat) : Int)) (fun k => ?_) ?_
      · simp only [trystlaw08_few.l0, rdAt X i hlt, e1]
        rw [if_pos (by omega), if_pos (by omega), if_pos (by omega), if_neg (by omega), wrap_one i (by omega)]
      · have := few_l0 X hs n (i + 1) (m + X[i].size + 1) (by omega) (by omega) (by omega) (by omega)
        rw [show m + (X[i].size + 1 + sumF (X.drop (i + 1))) = m + X[i].size + 1 + sumF (X.drop (i + 1)) by omega]
        exact this
theorem few_ev (X : List ByteArray) (hs : ∀ x ∈ X, x.size ≤ 140737488351232) : Ev (fun k => trystlaw08_few.f k X) (decide (sumF X ≤ 30000)) := by
  have := few_l0 X hs X.length 0 0 (by omega) (by omega) (by omega) (by omega)
  rw [List.drop_zero, Nat.zero_add] at this
  exact this
theorem one_a : oneT [97] 75 = [97, 13, 10] := by
  have hd : (Lib.decodeL [97]).2 = 1 := rfl
  have ht : takeT [97] 75 = 1 := by
    rw [takeT_step _ _ (by simp), hd, if_neg (by omega)]; rfl
  rw [oneT_step _ _ (by simp) (by omega), ht]; rfl
theorem awake8 : trystlaw08_awake.f = some true := by
  have hb : badF (⟨#[97]⟩ : ByteArray) = false := rfl
  have hf : fold_Fold.f [(⟨#[97]⟩ : ByteArray)] = some ((⟨#[97, 13, 10]⟩ : ByteArray), 0) := by
    unfold fold_Fold.f
    rw [if_pos (by intro x hx; rw [List.mem_singleton.1 hx]; decide)]
    unfold foldA
    rw [List.any_cons, hb]
    have e : (⟨#[97]⟩ : ByteArray).data.toList = [97] := rfl
    have e2 : (⟨#[97]⟩ : ByteArray).size = 1 := rfl
    simp [foldR, e2, one_a]
  unfold trystlaw08_awake.f
  rw [hf]; simp only [Option.bind_some, if_true, Lib.toList_data]; rfl
theorem fold_f (X : List ByteArray) (h : sumF X ≤ 30000) : fold_Fold.f X = some (foldA X) := by
  unfold fold_Fold.f
  rw [if_pos (fun x hx => by have := sumF_mem X x hx; omega)]
theorem writes_pure (X : List ByteArray) (hs : ∀ x ∈ X, x.size ≤ 140737488351232) : ∃ k, trystlaw08_FoldWrites.f k X = some true := by
  refine Ev.rounds (r := true) ?_
  simp only [trystlaw08_FoldWrites.f, awake8, Option.bind_some, if_true]
  refine Ev.bind (few_ev X hs) ?_
  by_cases hf : sumF X ≤ 30000
  · rw [decide_eq_true hf]
    refine Ev.step (f := fun k => (trystref08_Fold.f k X).bind fun bt240 => if (foldA X).1.toList = bt240.1.toList then some ((foldA X).2 == bt240.2) else some false) (fun k => ?_) ?_
    · simp only [trystlaw08_FoldWrites.j0, fold_f X hf, Option.bind_some]; rw [if_neg (by simp)]
    · refine Ev.bind (ref_fold X (by have := sumF_len X; omega) (fun x hx => by have := sumF_mem X x hx; omega)) ?_
      simp only [if_true, beq_self_eq_true]; exact Ev.now _
  · rw [decide_eq_false hf]
    refine Ev.step (f := fun _ => some true) (fun k => ?_) (Ev.now _)
    simp only [trystlaw08_FoldWrites.j0, awake8]; rfl
end Go.Proofs.YtknmbalhbecdhaaDoor.Pure
