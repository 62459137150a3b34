/- Plain: the reference's Unfold answers as fold.Unfold does: the law FoldReads. -/
import Derived.Test.YtknmbalhbecdhaaDoorPUnf
import Derived.Test.YtknmbalhbecdhaaDoorPFoldBase
import Derived.Test.YtknmbalhbecdhaaDoorPrint7
set_option linter.unusedVariables false
set_option linter.unusedSimpArgs false
set_option linter.unusedSectionVars false
namespace Go.Proofs.YtknmbalhbecdhaaDoor.Pure
open Go.RowKit Go.Proofs.YtknmbalhbecdhaaDoor.Print Go.Proofs.YtknmbalhbecdhaaDoorW.PrintWords Go.Proofs.YtknmbalhbecdhaaDoorW.PrintLast Go.Proofs.YtknmbalhbecdhaaDoorW.PrintMore

def endNL (l : List UInt8) : Nat := match splitNL l with | none => l.length | some q => q.1.length
theorem endNL_cons (c : UInt8) (t : List UInt8) : endNL (c :: t) = if c = 10 then 0 else endNL t + 1 := by
  unfold endNL
  rw [splitNL]
  by_cases h : c = 10
  · rw [if_pos h, if_pos h]; rfl
  · rw [if_neg h, if_neg h]
    cases splitNL t <;> rfl
theorem endNL_none {l : List UInt8} (h : splitNL l = none) : endNL l = l.length := by unfold endNL; rw [h]
theorem endNL_some {l p r : List UInt8} (h : splitNL l = some (p, r)) : endNL l = p.length := by unfold endNL; rw [h]
abbrev RU := List ByteArray × Int × Int
section
variable {s : ByteArray} (hs : s.size ≤ 20000) {x5 : List ByteArray} {x6 : List Int} {n b : Int} {R : RU}
include hs
theorem scan_ev : ∀ (m j : Nat), s.size - j ≤ m → j ≤ s.size → Ev (fun k => trystref08_Unfold.j2 k s x5 x6 n b ((j + endNL (s.data.toList.drop j) : Nat) : Int)) R → Ev (fun k => trystref08_Unfold.l1 k s x5 x6 n b (j : Int)) R
  | 0, j, hm, hj, H => by
    obtain rfl : j = s.size := by omega
    rw [List.drop_of_length_le (by simp), show endNL [] = 0 from rfl, Nat.add_zero] at H
    refine Ev.step (fun k => ?_) H
    simp only [trystref08_Unfold.l1]
    rw [if_neg (by omega)]
  | m + 1, j, hm, hj, H => by
    by_cases hlt : j < s.size
    case neg => exact scan_ev m j (by omega) hj H
    have hb := bt_nat s j
    rw [drop_at s j hlt, endNL_cons] at H
    have ih := scan_ev m (j + 1) (by omega) (by omega)
    generalize s.data.toList.getD j 0 = c at *
    by_cases hc : c = 10
    · rw [if_pos hc, Nat.add_zero] at H
      refine Ev.step (fun k => ?_) H
      simp only [trystref08_Unfold.l1, hb]
      rw [if_pos (by omega), if_pos (by omega), if_pos (show (c.toNat : Int) = 10 from is_natU c 10 (by omega) hc)]
    · rw [if_neg hc, show j + (endNL (s.data.toList.drop (j + 1)) + 1) = j + 1 + endNL (s.data.toList.drop (j + 1)) by omega] at H
      refine Ev.step (fun k => ?_) (ih H)
      simp only [trystref08_Unfold.l1, hb]
      rw [if_pos (by omega), if_pos (by omega), if_neg (show ¬ (c.toNat : Int) = 10 from ne_nat c 10 (by omega) hc), wrap_one j (by omega)]
end
theorem ext_ba (s : ByteArray) (b : Nat) (q r : List UInt8) (h : s.data.toList.drop b = q ++ 10 :: r) : s.extract b (b + q.length) = ⟨q.toArray⟩ := by
  apply ByteArray.ext
  apply Array.toList_inj.1
  rw [extT, h, List.take_left']
  rfl
theorem j3_true (k : Nat) (s : ByteArray) (x5 : List ByteArray) (x6 : List Int) (n x9 : Int) (q : List UInt8) (h0 : q ≠ []) (hq : q.length ≤ 20000) : trystref08_Unfold.j3 (k + 1) s x5 x6 n x9 ⟨q.toArray⟩ true = trystref08_Unfold.j4 k s x5 x6 n x9 ⟨q.dropLast.toArray⟩ := by
  have hl : 0 < q.length := List.length_pos_iff.2 h0
  have hw : wrap64 ((q.length : Int) - 1) = ((q.length - 1 : Nat) : Int) := by unfold wrap64; omega
  have e : (⟨q.toArray⟩ : ByteArray).extract 0 (q.length - 1) = ⟨q.dropLast.toArray⟩ := by rw [ba_ext]; simp [List.dropLast_eq_take]
  simp only [trystref08_Unfold.j3, ba_size, hw, Int.toNat_natCast, e, if_true]
  rw [if_pos (by omega), if_pos (by omega)]
theorem j3_false (k : Nat) (s : ByteArray) (x5 : List ByteArray) (x6 : List Int) (n x9 : Int) (p : ByteArray) : trystref08_Unfold.j3 (k + 1) s x5 x6 n x9 p false = trystref08_Unfold.j4 k s x5 x6 n x9 p := by
  simp only [trystref08_Unfold.j3]
  rw [if_neg (by simp)]
theorem ref_j2 (s : ByteArray) (hs : s.size ≤ 20000) (x5 : List ByteArray) (x6 : List Int) (n : Int) (b : Nat) (q r : List UInt8) (h : s.data.toList.drop b = q ++ 10 :: r) (R : RU)
    (H : Ev (fun k => trystref08_Unfold.j4 k s x5 x6 n ((b + q.length : Nat) : Int) ⟨(trimCR q).toArray⟩) R) : Ev (fun k => trystref08_Unfold.j2 k s x5 x6 n (b : Int) ((b + q.length : Nat) : Int)) R := by
  have hlen : b + q.length < s.size := by
    have := congrArg List.length h
    rw [List.length_drop, Array.length_toList] at this
    simp only [List.length_append, List.length_cons] at this
    have e : s.data.size = s.size := rfl
    omega
  have he := ext_ba s b q r h
  by_cases h0 : q = []
  · refine Ev.step (f := fun k => trystref08_Unfold.j3 k s x5 x6 n ((b + q.length : Nat) : Int) ⟨q.toArray⟩ false) (fun k => ?_) ?_
    · simp only [trystref08_Unfold.j2, Int.toNat_natCast, he]
      rw [if_neg (by omega), if_pos (by omega), if_pos (by omega), if_pos (by omega), if_neg (by rw [ba_size, h0]; simp)]
    · refine Ev.step (fun k => j3_false k s x5 x6 n _ _) ?_
      rw [h0] at H ⊢
      exact H
  · have hl : 0 < q.length := List.length_pos_iff.2 h0
    have hw : wrap64 ((q.length : Int) - 1) = ((q.length - 1 : Nat) : Int) := by unfold wrap64; omega
    have hb : bt ⟨q.toArray⟩ ((q.length - 1 : Nat) : Int) = ((q.getLast h0).toNat : Int) := by
      rw [bt_nat]
      show (((q.getD (q.length - 1) 0)).toNat : Int) = _
      rw [List.getD_eq_getElem?_getD, List.getElem?_eq_getElem (by omega), List.getLast_eq_getElem]; rfl
    refine Ev.step (f := fun k => trystref08_Unfold.j3 k s x5 x6 n ((b + q.length : Nat) : Int) ⟨q.toArray⟩ (((q.getLast h0).toNat : Int) == 13)) (fun k => ?_) ?_
    · simp only [trystref08_Unfold.j2, Int.toNat_natCast, he, ba_size, hw, hb]
      rw [if_neg (by omega), if_pos (by omega), if_pos (by omega), if_pos (by omega), if_pos (by omega), if_pos (by omega), if_pos (by omega)]
    · unfold trimCR at H
      rw [List.getLast?_eq_some_getLast h0] at H
      by_cases hc : q.getLast h0 = 13
      · rw [if_pos (by rw [hc])] at H
        rw [beq_iff_eq.2 (show ((q.getLast h0).toNat : Int) = 13 from is_natU _ 13 (by omega) hc)]
        exact Ev.step (fun k => j3_true k s x5 x6 n _ q h0 (by omega)) H
      · rw [if_neg (fun e => hc (Option.some.inj e))] at H
        rw [beq_eq_false_iff_ne.2 (show ¬ ((q.getLast h0).toNat : Int) = 13 from ne_nat _ 13 (by omega) hc)]
        exact Ev.step (fun k => j3_false k s x5 x6 n _ _) H
theorem bad_ev (s : ByteArray) (x5 : List ByteArray) (x6 : List Int) (n x9 : Int) (p : List UInt8) (hp : p.length ≤ 20000) (R : RU) : ∀ (m i : Nat) (f : Bool), p.length - i ≤ m → i ≤ p.length →
    Ev (fun k => trystref08_Unfold.l2 k s x5 x6 n x9 ⟨p.toArray⟩ (f || (p.drop i).any (· == 13)) (p.length : Int) ((p.length : Nat) : Int)) R → Ev (fun k => trystref08_Unfold.l2 k s x5 x6 n x9 ⟨p.toArray⟩ f (p.length : Int) (i : Int)) R
  | 0, i, f, hm, hi, H => by
    obtain rfl : i = p.length := by omega
    rw [List.drop_length, List.any_nil, Bool.or_false] at H
    exact H
  | m + 1, i, f, hm, hi, H => by
    by_cases hlt : i < p.length
    case neg => exact bad_ev s x5 x6 n x9 p hp R m i f (by omega) hi H
    have hb := bt_nat ⟨p.toArray⟩ i
    have hd : p.getD i 0 = p[i] := by rw [List.getD_eq_getElem?_getD, List.getElem?_eq_getElem hlt]; rfl
    rw [show (⟨p.toArray⟩ : ByteArray).data.toList.getD i 0 = p[i] from hd] at hb
    rw [List.drop_eq_getElem_cons hlt, List.any_cons, ← Bool.or_assoc] at H
    have ih := fun g => bad_ev s x5 x6 n x9 p hp R m (i + 1) g (by omega) (by omega)
    generalize p[i] = c at *
    cases f
    · rw [Bool.false_or] at H
      refine Ev.step (fun k => ?_) (ih _ H)
      simp only [trystref08_Unfold.l2, hb]
      rw [if_pos (by omega), if_neg (by simp), if_pos (by omega), ba_size p, if_pos (by omega), wrap_one i (by omega)]
      congr 1
      by_cases hc : c = 13
      · rw [hc]; rfl
      · rw [beq_eq_false_iff_ne.2 hc, beq_eq_false_iff_ne.2 (show ¬ (c.toNat : Int) = 13 from ne_nat c 13 (by omega) hc)]
    · rw [Bool.true_or] at H
      refine Ev.step (fun k => ?_) (ih _ H)
      simp only [trystref08_Unfold.l2]
      rw [if_pos (by omega), if_pos trivial, wrap_one i (by omega)]
theorem rd_f0 (acc : List S78) (h : acc ≠ []) : rdOf ByteArray.empty (acc.map (·.f0)) ((acc.length - 1 : Nat) : Int) = (rd_T78 acc ((acc.length - 1 : Nat) : Int)).f0 := by
  have hl : 0 < acc.length := List.length_pos_iff.2 h
  unfold rdOf rd_T78
  rw [Int.toNat_natCast, List.getD_eq_getElem?_getD, List.getD_eq_getElem?_getD, List.getElem?_eq_getElem (by rw [List.length_map]; omega), List.getElem?_eq_getElem (by omega)]
  simp
theorem add_f0 (acc : List S78) (t : List UInt8) : (addLast acc t).map (·.f0) = (acc.map (·.f0)).set (acc.length - 1) ((rd_T78 acc ((acc.length - 1 : Nat) : Int)).f0 ++ ⟨t.toArray⟩) := by
  unfold addLast; rw [List.map_set]
theorem add_f1 (acc : List S78) (t : List UInt8) (h : acc ≠ []) : (addLast acc t).map (·.f1) = acc.map (·.f1) := by
  have hl : 0 < acc.length := List.length_pos_iff.2 h
  unfold addLast
  rw [List.map_set]
  have e : (rd_T78 acc ((acc.length - 1 : Nat) : Int)).f1 = (acc.map (·.f1))[acc.length - 1]'(by rw [List.length_map]; omega) := by
    unfold rd_T78
    rw [Int.toNat_natCast, List.getD_eq_getElem?_getD, List.getElem?_eq_getElem (by omega)]
    simp
  rw [e, List.set_getElem_self]
/-- What is done with a piece. -/
def goOn (m : Nat) (p r : List UInt8) (acc : List S78) (n : Nat) : List S78 × Int :=
  if badP p = true then ([], (n : Int)) else
    if goesP p = true then (if acc = [] then ([], (n : Int)) else cutG m r (addLast acc (p.drop 1)) (n + 1))
    else cutG m r (acc ++ [⟨⟨p.toArray⟩, (n : Int)⟩]) (n + 1)
theorem cutG_none (m n : Nat) (l : List UInt8) (acc : List S78) (hne : l ≠ []) (h : splitNL l = none) : cutG (m + 1) l acc n = ([], (n : Int)) := by
  rw [cutG, if_neg hne, h]
theorem cutG_some (m n : Nat) (l q r : List UInt8) (acc : List S78) (hne : l ≠ []) (h : splitNL l = some (q, r)) : cutG (m + 1) l acc n = goOn m (trimCR q) r acc n := by
  rw [cutG, if_neg hne, h]; rfl
theorem j4_step (k : Nat) (s : ByteArray) (x5 : List ByteArray) (x6 : List Int) (n x9 : Int) (p : List UInt8) : trystref08_Unfold.j4 (k + 1) s x5 x6 n x9 ⟨p.toArray⟩ = trystref08_Unfold.l2 k s x5 x6 n x9 ⟨p.toArray⟩ p.isEmpty (p.length : Int) ((0 : Nat) : Int) := by
  simp only [trystref08_Unfold.j4, ba_size, ba_toList]
  rw [beq_nil_isEmpty]; rfl
theorem unfB_bad (n : Nat) (hn : 1 ≤ n) : unfB (([] : List S78), (n : Int)) = ([], (n : Int), 5) := by
  unfold unfB; rw [if_pos (by show (n : Int) > 0; omega)]
theorem end_bad (k : Nat) (s : ByteArray) (x5 : List ByteArray) (x6 : List Int) (n x9 : Int) (p : List UInt8) : trystref08_Unfold.l2 (k + 3) s x5 x6 n x9 ⟨p.toArray⟩ true (p.length : Int) ((p.length : Nat) : Int) = some ([], n, 5) := by
  simp only [trystref08_Unfold.l2, trystref08_Unfold.j6, trystref08_Unfold.j7]
  rw [if_neg (by omega), if_pos trivial, if_pos trivial, if_pos trivial]
theorem end_good (k : Nat) (s : ByteArray) (x5 : List ByteArray) (x6 : List Int) (n x9 : Int) (p : List UInt8) (hp : p ≠ []) : trystref08_Unfold.l2 (k + 2) s x5 x6 n x9 ⟨p.toArray⟩ false (p.length : Int) ((p.length : Nat) : Int) = trystref08_Unfold.j7 k s x5 x6 n x9 ⟨p.toArray⟩ (goesP p) (goesP p && ((x5.length : Int) == 0)) := by
  have hl : 0 < p.length := List.length_pos_iff.2 hp
  have hb : bt ⟨p.toArray⟩ 0 = ((p.getD 0 0).toNat : Int) := bt_nat ⟨p.toArray⟩ 0
  unfold goesP
  simp only [trystref08_Unfold.l2, trystref08_Unfold.j6, hb]
  rw [if_neg (by omega), if_neg (by simp), ba_size p, if_pos (by omega)]
  generalize p.getD 0 0 = c at *
  by_cases h1 : c = 32
  · rw [if_pos (show (c.toNat : Int) = 32 from is_natU c 32 (by omega) h1), if_neg (by simp), if_pos trivial, show (c == 32) = true by rw [h1]; rfl, Bool.true_or, Bool.true_and]
  · rw [if_neg (show ¬ (c.toNat : Int) = 32 from ne_nat c 32 (by omega) h1), show (c == 32) = false from beq_eq_false_iff_ne.2 h1, Bool.false_or]
    by_cases h2 : c = 9
    · rw [beq_iff_eq.2 (show (c.toNat : Int) = 9 from is_natU c 9 (by omega) h2), show (c == 9) = true by rw [h2]; rfl, Bool.true_and, if_neg (by simp), if_pos rfl]
    · rw [beq_eq_false_iff_ne.2 (show ¬ (c.toNat : Int) = 9 from ne_nat c 9 (by omega) h2), show (c == 9) = false from beq_eq_false_iff_ne.2 h2, Bool.false_and, if_neg (by simp), if_neg (by simp)]
theorem ev2 {α : Type} {g f : Nat → Option α} {r : α} (h : ∀ k, g (k + 2) = f k) (hf : Ev f r) : Ev g r := by
  obtain ⟨K, hK⟩ := hf
  refine ⟨K + 2, fun k hk => ?_⟩
  obtain ⟨j, rfl⟩ : ∃ j, k = j + 2 := ⟨k - 2, by omega⟩
  rw [h j]; exact hK j (by omega)
theorem j7_bad (k : Nat) (s : ByteArray) (x5 : List ByteArray) (x6 : List Int) (n x9 : Int) (p : ByteArray) (f : Bool) : trystref08_Unfold.j7 (k + 1) s x5 x6 n x9 p f true = some ([], n, 5) := by
  simp only [trystref08_Unfold.j7]; rw [if_pos trivial]
theorem j7_new (k : Nat) (s : ByteArray) (acc : List S78) (n : Nat) (x9 : Nat) (p : List UInt8) (ha : acc.length ≤ 20000) (h9 : x9 ≤ 20000) :
    trystref08_Unfold.j7 (k + 1) s (acc.map (·.f0)) (acc.map (·.f1)) (n : Int) (x9 : Int) ⟨p.toArray⟩ false false = trystref08_Unfold.l0 k s ((acc ++ [⟨⟨p.toArray⟩, (n : Int)⟩] : List S78).map (·.f0)) ((acc ++ [⟨⟨p.toArray⟩, (n : Int)⟩] : List S78).map (·.f1)) (n : Int) ((x9 + 1 : Nat) : Int) := by
  simp only [trystref08_Unfold.j7]
  rw [if_neg (by simp), if_neg (by simp), if_pos (by rw [List.length_map]; omega), if_pos (by rw [List.length_map]; omega), wrap_one x9 (by omega), List.map_append, List.map_append]
  rfl
theorem j7_more (k : Nat) (s : ByteArray) (acc : List S78) (n : Nat) (x9 : Nat) (p : List UInt8) (hp : p ≠ []) (hne : acc ≠ []) (ha : acc.length ≤ 20000) (hA : Acc acc p.length) (h9 : x9 ≤ 20000) :
    trystref08_Unfold.j7 (k + 1) s (acc.map (·.f0)) (acc.map (·.f1)) (n : Int) (x9 : Int) ⟨p.toArray⟩ true false = trystref08_Unfold.l0 k s ((addLast acc (p.drop 1)).map (·.f0)) ((addLast acc (p.drop 1)).map (·.f1)) (n : Int) ((x9 + 1 : Nat) : Int) := by
  have hl : 0 < p.length := List.length_pos_iff.2 hp
  have hal : 0 < acc.length := List.length_pos_iff.2 hne
  have hsz := hA.sz _ (rd_mem acc hne)
  have hw : wrap64 ((acc.length : Int) - 1) = ((acc.length - 1 : Nat) : Int) := by unfold wrap64; omega
  have hc : (rd_T78 acc ((acc.length - 1 : Nat) : Int)).f0.size + ((⟨p.toArray⟩ : ByteArray).extract 1 p.length).size ≤ 9223372036854775807 := by rw [ByteArray.size_extract, ba_size p]; omega
  simp only [trystref08_Unfold.j7, List.length_map, hw, rd_f0 acc hne]
  rw [if_neg (by simp), if_pos trivial, if_pos (by omega), if_pos (by omega), ba_size p, if_pos (by omega), if_pos hc, wrap_one x9 (by omega), Int.toNat_natCast, add_f0, add_f1 acc _ hne, ba_ext p]
  rw [List.take_of_length_le (by rw [List.length_drop]; omega)]
/-! ### the last loop -/
theorem rd_at0 (X : List S78) (i : Nat) (h : i < X.length) : rdOf ByteArray.empty (X.map (·.f0)) (i : Int) = X[i].f0 := by
  unfold rdOf
  rw [Int.toNat_natCast, List.getD_eq_getElem?_getD, List.getElem?_eq_getElem (by rw [List.length_map]; exact h)]; simp
theorem rd_at1 (X : List S78) (i : Nat) (h : i < X.length) : rd (X.map (·.f1)) (i : Int) = X[i].f1 := by
  unfold rd
  rw [Int.toNat_natCast, List.getD_eq_getElem?_getD, List.getElem?_eq_getElem (by rw [List.length_map]; exact h)]; simp
theorem last_ev (X : List S78) (hl : X.length ≤ 20000) (hs : ∀ x ∈ X, x.f0.size ≤ 20000) : ∀ (m i : Nat), X.length - i ≤ m → i ≤ X.length →
    Ev (fun k => trystref08_Unfold.l3 k (X.map (·.f0)) (X.map (·.f1)) (X.length : Int) (i : Int)) (finR (X.drop i) X)
  | 0, i, hm, hi => by
    obtain rfl : i = X.length := by omega
    rw [List.drop_length]
    exact Ev.step (f := fun _ => some (X.map (·.f0), 0, 0)) (fun k => by simp only [trystref08_Unfold.l3]; rw [if_neg (by omega)]) (Ev.now _)
  | m + 1, i, hm, hi => by
    by_cases hlt : i < X.length
    case neg => exact last_ev X hl hs m i (by omega) hi
    have hx := hs X[i] (List.getElem_mem hlt)
    have hr0 := rd_at0 X i hlt
    have hr1 := rd_at1 X i hlt
    have ih := last_ev X hl hs m (i + 1) (by omega) (by omega)
    rw [List.drop_eq_getElem_cons hlt]
    unfold finR
    have hl0 : (X.map (·.f0)).length = X.length := List.length_map ..
    have hl1 : (X.map (·.f1)).length = X.length := List.length_map ..
    generalize X[i] = x at *
    refine Ev.step (f := fun k => (trystref08_UTF.f k x.f0).bind fun t275 => (if t275 = true then (if (x.f0.size : Int) > 2000 then some (([] : List ByteArray), x.f1, 4) else trystref08_Unfold.l3 k (X.map (·.f0)) (X.map (·.f1)) (X.length : Int) ((i + 1 : Nat) : Int)) else some (([] : List ByteArray), x.f1, 3))) (fun k => ?_) ?_
    · simp only [trystref08_Unfold.l3, hr0, hr1, hl0, hl1]
      rw [if_pos (by omega), if_pos (by omega), if_pos (by omega), wrap_one i (by omega)]
      simp only [if_pos (show (i : Int) < (X.length : Int) by omega)]
    · refine Ev.bind (UTF_all x.f0 (by omega)) ?_
      by_cases h1 : Lib.validD x.f0.data.toList = true
      · simp only [if_pos h1]
        by_cases h2 : x.f0.size > 2000
        · simp only [if_pos h2, if_pos (show (x.f0.size : Int) > 2000 by omega)]; exact Ev.now _
        · simp only [if_neg h2, if_neg (show ¬ (x.f0.size : Int) > 2000 by omega)]; exact ih
      · simp only [if_neg h1]; exact Ev.now _
theorem unfB_ok (X : List S78) : unfB (X, 0) = finR X X := by unfold unfB; rw [if_neg (show ¬ (0 : Int) > 0 by omega)]
theorem l0_last (s : ByteArray) (hs : s.size ≤ 20000) (acc : List S78) (hA : Acc acc 0) (n : Int) : Ev (fun k => trystref08_Unfold.l0 k s (acc.map (·.f0)) (acc.map (·.f1)) n ((s.size : Nat) : Int)) (unfB (acc, 0)) := by
  rw [unfB_ok]
  have := last_ev acc (by have := hA.len; omega) (fun x hx => by have := hA.sz x hx; omega) acc.length 0 (by omega) (by omega)
  rw [List.drop_zero] at this
  refine Ev.step (fun k => ?_) this
  simp only [trystref08_Unfold.l0]
  rw [if_neg (by omega), List.length_map]; rfl
theorem refU_ev (s : ByteArray) (hs : s.size ≤ 20000) : ∀ (m b n : Nat) (acc : List S78), s.size - b ≤ m → b ≤ s.size → Acc acc (s.size - b) → n + (s.size - b) ≤ 20000 →
    Ev (fun k => trystref08_Unfold.l0 k s (acc.map (·.f0)) (acc.map (·.f1)) (n : Int) (b : Int)) (unfB (cutG m (s.data.toList.drop b) acc (n + 1)))
  | 0, b, n, acc, hm, hb, hA, hn => by
    obtain rfl : b = s.size := by omega
    rw [cutG]
    exact l0_last s hs acc (hA.less (by omega)) n
  | m + 1, b, n, acc, hm, hb, hA, hn => by
    by_cases hlt : b < s.size
    case neg =>
      obtain rfl : b = s.size := by omega
      rw [List.drop_of_length_le (by simp), cutG, if_pos rfl]
      exact l0_last s hs acc (hA.less (by omega)) n
    have hne : s.data.toList.drop b ≠ [] := by
      intro e; have := congrArg List.length e; simp at this; omega
    have hlen : (s.data.toList.drop b).length = s.size - b := by rw [List.length_drop, Array.length_toList]; rfl
    have hacc := hA.len
    refine Ev.step (f := fun k => trystref08_Unfold.l1 k s (acc.map (·.f0)) (acc.map (·.f1)) ((n + 1 : Nat) : Int) (b : Int) (b : Int)) (fun k => ?_) ?_
    · simp only [trystref08_Unfold.l0]
      rw [if_pos (by omega), wrap_one n (by omega)]
    refine scan_ev hs s.size b (by omega) hb ?_
    cases hsp : splitNL (s.data.toList.drop b) with
    | none =>
      rw [cutG_none m (n + 1) _ acc hne hsp, unfB_bad _ (by omega), endNL_none hsp, hlen, show b + (s.size - b) = s.size by omega]
      refine Ev.step (f := fun _ => some ([], ((n + 1 : Nat) : Int), 5)) (fun k => ?_) (Ev.now _)
      simp only [trystref08_Unfold.j2]
      rw [if_pos trivial]
    | some qr =>
      obtain ⟨q, r⟩ := qr
      rw [cutG_some m (n + 1) _ q r acc hne hsp, endNL_some hsp]
      have hq := split_len hsp
      have hs1 := (splitNL_some _ q r hsp).1
      rw [hlen] at hq
      have ht := trimCR_len q
      refine ref_j2 s hs _ _ _ b q r hs1 _ ?_
      have hr : s.data.toList.drop (b + q.length + 1) = r := by
        rw [show b + q.length + 1 = b + (q.length + 1) by omega, ← List.drop_drop, hs1, show q ++ 10 :: r = (q ++ [10]) ++ r by simp, List.drop_left' (by simp)]
      have IH := fun acc' => refU_ev s hs m (b + q.length + 1) (n + 1) acc' (by omega) (by omega)
      rw [hr] at IH
      have hr2 : s.size - (b + q.length + 1) = r.length := by omega
      rw [hr2] at IH
      generalize trimCR q = p at *
      refine Ev.step (fun k => j4_step k s _ _ _ _ p) ?_
      refine bad_ev s _ _ _ _ p (by omega) _ p.length 0 p.isEmpty (by omega) (by omega) ?_
      rw [List.drop_zero, show (p.isEmpty || p.any (· == 13)) = badP p from rfl]
      unfold goOn
      cases hbad : badP p
      · have hp := badP_ne p hbad
        have hp0 : 0 < p.length := List.length_pos_iff.2 hp
        simp only [Bool.false_eq_true, if_false]
        refine ev2 (fun k => end_good k s _ _ _ _ p hp) ?_
        rw [List.length_map]
        cases hg : goesP p
        · simp only [Bool.false_eq_true, if_false, Bool.false_and]
          refine Ev.step (fun k => j7_new k s acc (n + 1) (b + q.length) p (by omega) (by omega)) ?_
          exact IH _ (hA.new (by omega) (by omega)) (by omega)
        · simp only [if_true, Bool.true_and]
          by_cases ha : acc = []
          · subst ha
            rw [if_pos rfl, unfB_bad _ (by omega)]
            exact Ev.step (f := fun _ => some ([], ((n + 1 : Nat) : Int), 5)) (fun k => j7_bad k s _ _ _ _ _ _) (Ev.now _)
          · have hal : 0 < acc.length := List.length_pos_iff.2 ha
            rw [if_neg ha, beq_eq_false_iff_ne.2 (show ¬ (acc.length : Int) = 0 by omega)]
            refine Ev.step (fun k => j7_more k s acc (n + 1) (b + q.length) p hp ha (by omega) (hA.less (by omega)) (by omega)) ?_
            exact IH _ (hA.add ha (by rw [List.length_drop]; omega)) (by omega)
      · simp only [if_true]
        rw [unfB_bad _ (by omega)]
        exact ev3 (f := fun _ => some ([], ((n + 1 : Nat) : Int), 5)) (fun k => end_bad k s _ _ _ _ p) (Ev.now _)
theorem ref_unfold (s : ByteArray) : Ev (fun k => trystref08_Unfold.f k s) (unfA s) := by
  unfold unfA
  by_cases h : s.size > 20000
  · rw [if_pos h]
    refine Ev.congr (f := fun _ => some ([], 0, 4)) (fun k => ?_) (Ev.now _)
    unfold trystref08_Unfold.f; rw [if_pos (by omega)]
  · rw [if_neg h]
    refine Ev.congr (f := fun k => trystref08_Unfold.l0 k s (([] : List S78).map (·.f0)) (([] : List S78).map (·.f1)) ((0 : Nat) : Int) ((0 : Nat) : Int)) (fun k => by unfold trystref08_Unfold.f; rw [if_neg (by omega)]; rfl) ?_
    have := refU_ev s (by omega) s.size 0 0 [] (by omega) (by omega) (Acc.nil.less (by omega)) (by omega)
    rw [List.drop_zero] at this
    exact this
theorem same8_ev (D : List ByteArray) (hD : D.length ≤ 140737488351232) : ∀ (n i : Nat), D.length - i ≤ n → i ≤ D.length → Ev (fun k => trystlaw08_Same.l0 k D D (D.length : Int) (i : Int)) true
  | 0, i, h, hi => by
    obtain rfl : i = D.length := by omega
    exact Ev.step (f := fun _ => some true) (fun k => by simp only [trystlaw08_Same.l0]; rw [if_neg (by omega)]) (Ev.now _)
  | n + 1, i, h, hi => by
    by_cases hlt : i < D.length
    · exact Ev.step (f := fun k => trystlaw08_Same.l0 k D D (D.length : Int) ((i + 1 : Nat) : Int)) (fun k => by
        simp only [trystlaw08_Same.l0]
        rw [if_pos (by omega), if_pos (by omega), if_pos (by omega), if_pos (by omega), if_true, wrap_one i (by omega)]) (same8_ev D hD n (i + 1) (by omega) (by omega))
    · obtain rfl : i = D.length := by omega
      exact Ev.step (f := fun _ => some true) (fun k => by simp only [trystlaw08_Same.l0]; rw [if_neg (by omega)]) (Ev.now _)
theorem same8 (D : List ByteArray) (hD : D.length ≤ 140737488351232) : Ev (fun k => trystlaw08_Same.f k D D) true := by
  simp only [trystlaw08_Same.f, if_true]
  exact same8_ev D hD D.length 0 (by omega) (by omega)
theorem finR_len : ∀ (t X : List S78), (finR t X).1.length ≤ X.length
  | [], X => by unfold finR; rw [List.length_map]; exact Nat.le_refl _
  | x :: t, X => by
    unfold finR
    split
    · split
      · exact Nat.zero_le _
      · exact finR_len t X
    · exact Nat.zero_le _
theorem unfA_len (s : ByteArray) : (unfA s).1.length ≤ 20000 := by
  unfold unfA
  split
  · exact Nat.zero_le _
  · rename_i h
    have e : s.data.toList.length = s.size := by simp
    have hacc := (cutG_acc s.size 1 s.data.toList [] (Acc.nil.less (by omega))).len
    unfold unfB
    split
    · exact Nat.zero_le _
    · exact Nat.le_trans (finR_len _ _) (by omega)
theorem reads8_pure : trystlaw08_FoldReads.Pure := by
  intro s hs
  refine Ev.rounds (r := true) ?_
  simp only [trystlaw08_FoldReads.f, awake8, Option.bind_some, if_true]
  by_cases hb : s.size > 30000
  · rw [decide_eq_true (show (s.size : Int) > 30000 by omega)]
    refine Ev.step (f := fun _ => some true) (fun k => ?_) (Ev.now _)
    simp only [trystlaw08_FoldReads.j0, awake8]; rfl
  · rw [decide_eq_false (show ¬ (s.size : Int) > 30000 by omega)]
    refine Ev.step (f := fun k => (fold_Unfold.f k s).bind fun bt281 => ((trystref08_Unfold.f k s).bind fun bt286 => ((trystlaw08_Same.f k bt281.1 bt286.1).bind fun t291 => (if t291 = true then (if bt281.2.1 = bt286.2.1 then (some (bt281.2.2 == bt286.2.2)) else (some false)) else (some false))))) (fun k => ?_) ?_
    · simp only [trystlaw08_FoldReads.j0]; rw [if_neg (by simp)]
    · refine Ev.bind (unfold_ev s hs) ?_
      refine Ev.bind (ref_unfold s) ?_
      refine Ev.bind (same8 _ (by have := unfA_len s; omega)) ?_
      simp only [if_true, beq_self_eq_true]; exact Ev.now _
end Go.Proofs.YtknmbalhbecdhaaDoor.Pure
