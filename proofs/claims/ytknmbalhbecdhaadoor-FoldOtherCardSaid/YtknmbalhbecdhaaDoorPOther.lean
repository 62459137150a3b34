/- Plain: the law FoldOther holds of the printed functions. -/
import Derived.Test.YtknmbalhbecdhaaDoorPCut
import Derived.Test.YtknmbalhbecdhaaDoorPrint8
set_option linter.unusedVariables false
set_option linter.unusedSimpArgs false
set_option linter.unusedSectionVars false
namespace Go.Proofs.YtknmbalhbecdhaaDoor.Pure
open Go.RowKit Go.Proofs.YtknmbalhbecdhaaDoor.Print Go.Proofs.YtknmbalhbecdhaaDoorW.PrintWords Go.Proofs.YtknmbalhbecdhaaDoorW.PrintLast Go.Proofs.YtknmbalhbecdhaaDoorW.PrintMore

def cutF (C : List Int) (n i : Nat) : Bool := decide (0 < i) && C.any fun x => Int.tmod (wrap64 x) (n : Int) == (i : Int)
def otherT (C : List Int) (n : Nat) (e : List UInt8) (b : UInt8) : List UInt8 → Nat → List UInt8
  | [], _ => e
  | c :: t, i => (if cutF C n i = true then e ++ [b] else []) ++ c :: otherT C n e b t (i + 1)
theorem eol_len {e : List UInt8} (he : Eol e) : e.length ≤ 2 := by rcases he with rfl | rfl <;> decide
section
variable {C : List Int} {n : Nat} {e : List UInt8} {b : UInt8} (he : Eol e) (hb : b = 32 ∨ b = 9)
include he
theorem other_len : ∀ (l : List UInt8) (i : Nat), (otherT C n e b l i).length ≤ 4 * l.length + 2
  | [], i => by have := eol_len he; simp only [otherT, List.length_nil]; omega
  | c :: t, i => by
    have h2 := eol_len he
    have := other_len t (i + 1)
    simp only [otherT, List.length_append, List.length_cons]
    split
    · simp only [List.length_append, List.length_cons, List.length_nil]; omega
    · simp only [List.length_nil]; omega
include hb
theorem other_more (acc : List S78) (n0 : Int) : ∀ (t : List UInt8) (i : Nat) (q p : List UInt8) (m : Nat), t.any nlB = false → q.any nlB = false → cutT ((b :: q) ++ otherT C n e b t i) (acc ++ [⟨⟨p.toArray⟩, n0⟩]) m = (acc ++ [⟨⟨(p ++ q ++ t).toArray⟩, n0⟩], 0)
  | [], i, q, p, m, ht, hq => by
    have e1 : (b :: q) ++ otherT C n e b [] i = (b :: q) ++ e ++ [] := by rw [List.append_nil]; rfl
    rw [e1, cutT_more e q [] he b hb acc p n0 m hq, cutT_nil, List.append_nil]
  | c :: t, i, q, p, m, ht, hq => by
    obtain ⟨h13, h10, ht'⟩ := nl_cons ht
    have hc : [c].any nlB = false := by
      rw [List.any_cons] at ht ⊢
      rw [Bool.or_eq_false_iff] at ht
      rw [ht.1]; rfl
    by_cases hcut : cutF C n i = true
    · have e1 : (b :: q) ++ otherT C n e b (c :: t) i = (b :: q) ++ e ++ ((b :: [c]) ++ otherT C n e b t (i + 1)) := by
        rw [otherT, if_pos hcut]; simp
      rw [e1, cutT_more e q _ he b hb acc p n0 m hq, other_more acc n0 t (i + 1) [c] (p ++ q) (m + 1) ht' hc]
      simp
    · have e1 : (b :: q) ++ otherT C n e b (c :: t) i = (b :: (q ++ [c])) ++ otherT C n e b t (i + 1) := by
        rw [otherT, if_neg hcut]; simp
      rw [e1, other_more acc n0 t (i + 1) (q ++ [c]) p m ht' (nl_app hq hc)]
      simp
theorem other_first (acc : List S78) : ∀ (t : List UInt8) (i : Nat) (q : List UInt8) (m : Nat), t.any nlB = false → q.any nlB = false → q ≠ [] → goesP q = false → cutT (q ++ otherT C n e b t i) acc m = (acc ++ [⟨⟨(q ++ t).toArray⟩, (m : Int)⟩], 0)
  | [], i, q, m, ht, hq, hne, hg => by
    have e1 : q ++ otherT C n e b [] i = q ++ e ++ [] := by rw [List.append_nil]; rfl
    rw [e1, cutT_first e q [] he acc m hne hq hg, cutT_nil, List.append_nil]
  | c :: t, i, q, m, ht, hq, hne, hg => by
    obtain ⟨h13, h10, ht'⟩ := nl_cons ht
    have hc : [c].any nlB = false := by
      rw [List.any_cons] at ht ⊢
      rw [Bool.or_eq_false_iff] at ht
      rw [ht.1]; rfl
    by_cases hcut : cutF C n i = true
    · have e1 : q ++ otherT C n e b (c :: t) i = q ++ e ++ ((b :: [c]) ++ otherT C n e b t (i + 1)) := by
        rw [otherT, if_pos hcut]; simp
      rw [e1, cutT_first e q _ he acc m hne hq hg, other_more he hb acc (m : Int) t (i + 1) [c] q (m + 1) ht' hc]
      simp
    · have e1 : q ++ otherT C n e b (c :: t) i = (q ++ [c]) ++ otherT C n e b t (i + 1) := by
        rw [otherT, if_neg hcut]; simp
      have hg2 : goesP (q ++ [c]) = false := by
        cases q with
        | nil => exact absurd rfl hne
        | cons a u => exact hg
      rw [e1, other_first acc t (i + 1) (q ++ [c]) m ht' (nl_app hq hc) (by simp) hg2]
      simp
end
theorem other_unf (C : List Int) (e : List UInt8) (b : UInt8) (he : Eol e) (hb : b = 32 ∨ b = 9) (s : ByteArray) (hs : s.size ≤ 500) (hne : s.data.toList ≠ []) (hnl : s.data.toList.any nlB = false) (hg : goesP s.data.toList = false) (hv : Lib.validD s.data.toList = true) :
    unfA ⟨(otherT C s.size e b s.data.toList 0).toArray⟩ = ([s], 0, 0) := by
  have hlen := other_len he (C := C) (n := s.size) (b := b) s.data.toList 0
  have hsz : s.data.toList.length = s.size := by simp
  unfold unfA
  rw [ba_size, if_neg (by omega)]
  show unfB (cutT (otherT C s.size e b s.data.toList 0) [] 1) = _
  have hc : cutT (otherT C s.size e b s.data.toList 0) [] 1 = ([⟨s, 1⟩], 0) := by
    have h9 := ba_eq s
    generalize s.data.toList = l at *
    cases l with
    | nil => exact absurd rfl hne
    | cons c t =>
      have h0 : cutF C s.size 0 = false := by unfold cutF; rfl
      obtain ⟨_, _, ht⟩ := nl_cons hnl
      have hcn : [c].any nlB = false := by
        rw [List.any_cons] at hnl ⊢
        rw [Bool.or_eq_false_iff] at hnl
        rw [hnl.1]; rfl
      have e1 : otherT C s.size e b (c :: t) 0 = [c] ++ otherT C s.size e b t 1 := by rw [otherT, h0]; rfl
      rw [e1, other_first he hb [] t 1 [c] 1 ht hcn (by simp) hg]
      show ([(⟨⟨(c :: t).toArray⟩, 1⟩ : S78)], (0 : Int)) = _
      rw [h9]
  rw [hc, unfB_ok]
  unfold finR
  rw [if_pos hv, if_neg (show ¬ s.size > 2000 by omega)]
  rfl
/-! ### the loops -/
theorem ba_app (a b : List UInt8) : (⟨a.toArray⟩ : ByteArray) ++ ⟨b.toArray⟩ = ⟨(a ++ b).toArray⟩ := by
  apply ByteArray.ext
  rw [ByteArray.data_append]
  simp
section
variable {s : ByteArray} (hs : s.size ≤ 500) {C : List Int} (hC : C.length ≤ 140737488351232) {e : List UInt8} {b : UInt8} (he : Eol e)
include hs hC
theorem flag_ev (x12 : ByteArray) (i : Nat) (hi : i < s.size) (R : Bool) : ∀ (m j : Nat) (f : Bool), C.length - j ≤ m → j ≤ C.length →
    Ev (fun k => trystlaw08_FoldOther.l2 k s C ⟨e.toArray⟩ ⟨#[b]⟩ x12 (i : Int) (f || (decide (0 < i) && (C.drop j).any fun x => Int.tmod (wrap64 x) (s.size : Int) == (i : Int))) (s.size : Int) (i : Int) (C.length : Int) ((C.length : Nat) : Int)) R →
    Ev (fun k => trystlaw08_FoldOther.l2 k s C ⟨e.toArray⟩ ⟨#[b]⟩ x12 (i : Int) f (s.size : Int) (i : Int) (C.length : Int) (j : Int)) R
  | 0, j, f, hm, hj, H => by
    obtain rfl : j = C.length := by omega
    rw [List.drop_length, List.any_nil, Bool.and_false, Bool.or_false] at H
    exact H
  | m + 1, j, f, hm, hj, H => by
    by_cases hlt : j < C.length
    case neg => exact flag_ev x12 i hi R m j f (by omega) hj H
    have hr : rd C (j : Int) = C[j] := by
      unfold rd
      rw [Int.toNat_natCast, List.getD_eq_getElem?_getD, List.getElem?_eq_getElem hlt]; rfl
    have IH := fun g => flag_ev x12 i hi R m (j + 1) g (by omega) (by omega)
    rw [List.drop_eq_getElem_cons hlt, List.any_cons] at H
    generalize C[j] = z at *
    cases f
    · rw [Bool.false_or] at H
      by_cases h0 : 0 < i
      · rw [decide_eq_true h0, Bool.true_and] at H
        have ih := IH (Int.tmod (wrap64 z) (s.size : Int) == (i : Int))
        rw [decide_eq_true h0, Bool.true_and] at ih
        refine Ev.step (fun k => ?_) (ih H)
        simp only [trystlaw08_FoldOther.l2, hr]
        rw [if_pos (by omega), if_neg (by simp), if_pos (by omega), if_pos (by omega), if_pos (by omega), if_neg (by omega), wrap_one j (by omega)]
      · rw [decide_eq_false h0, Bool.false_and] at H
        have ih := IH false
        rw [decide_eq_false h0, Bool.false_and, Bool.or_false] at ih
        refine Ev.step (fun k => ?_) (ih H)
        simp only [trystlaw08_FoldOther.l2]
        rw [if_pos (by omega), if_neg (by simp), if_neg (by omega), wrap_one j (by omega)]
    · rw [Bool.true_or] at H
      have ih := IH true
      rw [Bool.true_or] at ih
      refine Ev.step (fun k => ?_) (ih H)
      simp only [trystlaw08_FoldOther.l2]
      rw [if_pos (by omega), if_pos trivial, wrap_one j (by omega)]
include he
theorem ext_at (i : Nat) (hi : i < s.size) : s.extract i (i + 1) = ⟨[s.data.toList.getD i 0].toArray⟩ := by
  have h := drop_at s i hi
  apply ByteArray.ext
  apply Array.toList_inj.1
  rw [extT, h]
  rfl
theorem build_ev (R : Bool) : ∀ (m i : Nat) (A : List UInt8), s.size - i ≤ m → i ≤ s.size → A.length ≤ 4 * i →
    Ev (fun k => (fold_Unfold.f k ⟨(A ++ otherT C s.size e b (s.data.toList.drop i) i).toArray⟩).bind fun bt308 => (if bt308.2.2 = 0 then (if bt308.2.1 = 0 then (if (bt308.1.length : Int) = 1 then (if 0 < (bt308.1.length : Int) then (some ((rdOf ByteArray.empty bt308.1 0).toList == s.toList)) else (none)) else (some false)) else (some false)) else (some false))) R →
    Ev (fun k => trystlaw08_FoldOther.l1 k s C ⟨e.toArray⟩ ⟨#[b]⟩ ⟨A.toArray⟩ (s.size : Int) (i : Int)) R
  | 0, i, A, hm, hi, hA, H => by
    obtain rfl : i = s.size := by omega
    have h2 := eol_len he
    rw [List.drop_of_length_le (by simp), otherT] at H
    refine Ev.step (fun k => ?_) H
    simp only [trystlaw08_FoldOther.l1]
    rw [if_neg (by omega), ba_size A, ba_size e, if_pos (by omega), ba_app]
  | m + 1, i, A, hm, hi, hA, H => by
    by_cases hlt : i < s.size
    case neg => exact build_ev R m i A (by omega) hi hA H
    have h2 := eol_len he
    have hx := ext_at hs hC he i hlt
    rw [drop_at s i hlt, otherT] at H
    have IH := fun A' => build_ev R m (i + 1) A' (by omega) (by omega)
    generalize s.data.toList.getD i 0 = c at *
    refine Ev.step (f := fun k => trystlaw08_FoldOther.l2 k s C ⟨e.toArray⟩ ⟨#[b]⟩ ⟨A.toArray⟩ (i : Int) false (s.size : Int) (i : Int) (C.length : Int) ((0 : Nat) : Int)) (fun k => ?_) ?_
    · simp only [trystlaw08_FoldOther.l1]
      rw [if_pos (by omega)]; rfl
    refine flag_ev hs hC ⟨A.toArray⟩ i hlt R C.length 0 false (by omega) (by omega) ?_
    rw [List.drop_zero, Bool.false_or, show (decide (0 < i) && C.any fun x => Int.tmod (wrap64 x) (s.size : Int) == (i : Int)) = cutF C s.size i from rfl]
    cases hcut : cutF C s.size i
    · rw [hcut, if_neg (by simp), List.nil_append] at H
      rw [show A ++ c :: otherT C s.size e b (s.data.toList.drop (i + 1)) (i + 1) = (A ++ [c]) ++ otherT C s.size e b (s.data.toList.drop (i + 1)) (i + 1) by simp] at H
      refine Ev.step (fun k => ?_) (IH (A ++ [c]) (by rw [List.length_append]; simp; omega) H)
      simp only [trystlaw08_FoldOther.l2, wrap_one i (show i ≤ 140737488355327 by omega), Int.toNat_natCast, hx]
      rw [if_neg (by omega), if_neg (by simp), if_pos (by omega), if_pos (by omega), if_pos (by omega), ba_size A, ba_size [c], if_pos (by simp; omega), ba_app]
    · rw [hcut, if_pos rfl] at H
      rw [show A ++ (e ++ [b] ++ c :: otherT C s.size e b (s.data.toList.drop (i + 1)) (i + 1)) = (A ++ e ++ [b] ++ [c]) ++ otherT C s.size e b (s.data.toList.drop (i + 1)) (i + 1) by simp] at H
      refine Ev.step (fun k => ?_) (IH (A ++ e ++ [b] ++ [c]) (by simp only [List.length_append, List.length_cons, List.length_nil]; omega) H)
      have eb : (⟨#[b]⟩ : ByteArray) = ⟨[b].toArray⟩ := rfl
      simp only [trystlaw08_FoldOther.l2, wrap_one i (show i ≤ 140737488355327 by omega), Int.toNat_natCast, hx, eb, ba_app, ba_size]
      rw [if_neg (by omega), if_pos trivial, if_pos (by omega), if_pos (by simp only [List.length_append, List.length_cons, List.length_nil]; omega), if_pos (by omega), if_pos (by omega), if_pos (by omega), if_pos (by simp only [List.length_append, List.length_cons, List.length_nil]; omega)]
end
theorem clean_ev (s : ByteArray) (hs : s.size ≤ 500) (C : List Int) (t b : Bool) (R : Bool) (hr : s.data.toList.any nlB = true → R = true) (H : s.data.toList.any nlB = false → Ev (fun k => if b = true then (trystlaw08_FoldOther.j2 k s C t (⟨#[10]⟩ : ByteArray) (⟨#[32]⟩ : ByteArray)) else (trystlaw08_FoldOther.j2 k s C t (⟨#[13, 10]⟩ : ByteArray) (⟨#[32]⟩ : ByteArray))) R) : ∀ (m i : Nat), s.size - i ≤ m → i ≤ s.size → (s.data.toList.take i).any nlB = false →
    Ev (fun k => trystlaw08_FoldOther.l0 k s C t b (s.size : Int) (i : Int)) R
  | 0, i, hm, hi, hv => by
    obtain rfl : i = s.size := by omega
    rw [List.take_of_length_le (by simp)] at hv
    refine Ev.step (fun k => ?_) (H hv)
    simp only [trystlaw08_FoldOther.l0]
    rw [if_neg (by omega)]
  | m + 1, i, hm, hi, hv => by
    by_cases hlt : i < s.size
    case neg => exact clean_ev s hs C t b R hr H m i (by omega) hi hv
    have hb := bt_nat s i
    have hd := drop_at s i hlt
    have IH := clean_ev s hs C t b R hr H m (i + 1) (by omega) (by omega)
    have ht : s.data.toList.take (i + 1) = s.data.toList.take i ++ [s.data.toList.getD i 0] := by
      have hl : i < s.data.toList.length := by simpa using hlt
      rw [List.take_succ_eq_append_getElem hl, List.getD_eq_getElem?_getD, List.getElem?_eq_getElem hl]; rfl
    have hbad : ∀ c, s.data.toList.getD i 0 = c → nlB c = true → R = true := fun c hc hn => hr (by
      rw [← List.take_append_drop i s.data.toList, hd, List.any_append, List.any_cons, hc, hn]; simp)
    rw [ht] at IH
    generalize s.data.toList.getD i 0 = c at *
    have hbad := hbad c rfl
    by_cases h1 : c = 13
    · rw [hbad (by rw [h1]; rfl)]
      refine Ev.step (f := fun _ => some true) (fun k => ?_) (Ev.now _)
      simp only [trystlaw08_FoldOther.l0, hb]
      rw [if_pos (by omega), if_pos (by omega), if_pos (by omega), if_pos (show (c.toNat : Int) = 13 from is_natF c 13 (by omega) h1)]
    by_cases h2 : c = 10
    · rw [hbad (by rw [h2]; rfl)]
      refine Ev.step (f := fun _ => some true) (fun k => ?_) (Ev.now _)
      simp only [trystlaw08_FoldOther.l0, hb]
      rw [if_pos (by omega), if_pos (by omega), if_pos (by omega), if_neg (show ¬ (c.toNat : Int) = 13 from ne_nat c 13 (by omega) h1), if_pos (show (c.toNat : Int) = 10 from is_natF c 10 (by omega) h2)]
    refine Ev.step (fun k => ?_) (IH (nl_app hv (by simp [nlB, h1, h2])))
    simp only [trystlaw08_FoldOther.l0, hb]
    rw [if_pos (by omega), if_pos (by omega), if_pos (by omega), if_neg (show ¬ (c.toNat : Int) = 13 from ne_nat c 13 (by omega) h1), if_neg (show ¬ (c.toNat : Int) = 10 from ne_nat c 10 (by omega) h2), wrap_one i (by omega)]
theorem j0_aw (k : Nat) (s : ByteArray) (C : List Int) (t b : Bool) : trystlaw08_FoldOther.j0 (k + 1) s C t b true = some true := by
  simp only [trystlaw08_FoldOther.j0, awake8]; rfl
theorem other_pure : trystlaw08_FoldOther.Pure := by
  intro s C t b hs hCm hC2 hCw
  refine Ev.rounds (r := true) ?_
  have hAw : Ev (fun k => trystlaw08_FoldOther.j0 k s C t b true) true := Ev.step (f := fun _ => some true) (fun k => j0_aw k s C t b) (Ev.now _)
  have hsz : s.data.toList.length = s.size := by simp
  simp only [trystlaw08_FoldOther.f, awake8, Option.bind_some, if_true]
  by_cases h1 : s.size > 500
  · simp only [if_pos (show (s.size : Int) > 500 by omega)]; exact hAw
  simp only [if_neg (show ¬ (s.size : Int) > 500 by omega)]
  by_cases h2 : s.size = 0
  · simp only [if_pos (show (s.size : Int) = 0 by omega)]; exact hAw
  simp only [if_neg (show ¬ (s.size : Int) = 0 by omega), if_pos (show 0 < (s.size : Int) by omega)]
  have hb0 := bt_nat s 0
  rw [show ((0 : Nat) : Int) = 0 from rfl] at hb0
  rw [hb0]
  have hgd : goesP s.data.toList = (s.data.toList.getD 0 0 == 32 || s.data.toList.getD 0 0 == 9) := rfl
  generalize s.data.toList.getD 0 0 = c at *
  by_cases h3 : c = 32
  · simp only [if_pos (show (c.toNat : Int) = 32 from is_natF c 32 (by omega) h3)]; exact hAw
  simp only [if_neg (show ¬ (c.toNat : Int) = 32 from ne_nat c 32 (by omega) h3)]
  by_cases h4 : c = 9
  · simp only [if_pos (show (c.toNat : Int) = 9 from is_natF c 9 (by omega) h4)]; exact hAw
  simp only [if_neg (show ¬ (c.toNat : Int) = 9 from ne_nat c 9 (by omega) h4)]
  rw [beq_eq_false_iff_ne.2 h3, beq_eq_false_iff_ne.2 h4] at hgd
  refine Ev.bind (UTF_all s hs) ?_
  by_cases hv : Lib.validD s.data.toList = true
  case neg =>
    rw [Bool.not_eq_true] at hv
    rw [hv]; exact hAw
  rw [hv]
  refine Ev.step (f := fun k => trystlaw08_FoldOther.l0 k s C t b (s.size : Int) ((0 : Nat) : Int)) (fun k => by simp only [trystlaw08_FoldOther.j0]; rw [if_neg (by simp)]; rfl) ?_
  refine clean_ev s (by omega) C t b true (fun _ => rfl) (fun hnl => ?_) s.size 0 (by omega) (by omega) (by simp)
  have hne : s.data.toList ≠ [] := fun e => h2 (by rw [← hsz, e]; rfl)
  have main : ∀ (e : List UInt8) (w : UInt8), Eol e → (w = 32 ∨ w = 9) → Ev (fun k => trystlaw08_FoldOther.j3 k s C ⟨e.toArray⟩ ⟨#[w]⟩) true := fun e w he hw => by
    refine Ev.step (f := fun k => trystlaw08_FoldOther.l1 k s C ⟨e.toArray⟩ ⟨#[w]⟩ ⟨([] : List UInt8).toArray⟩ (s.size : Int) ((0 : Nat) : Int)) (fun k => by simp only [trystlaw08_FoldOther.j3]; rfl) ?_
    refine build_ev (s := s) (by omega) (C := C) (by omega) he true s.size 0 [] (by omega) (by omega) (by simp) ?_
    rw [List.drop_zero, List.nil_append]
    have hlen := other_len he (C := C) (n := s.size) (b := w) s.data.toList 0
    refine Ev.bind (unfold_ev _ (by rw [ba_size]; omega)) ?_
    rw [other_unf C e w he hw s (by omega) hne hnl (by rw [hgd]; rfl) hv]
    have hr : rdOf ByteArray.empty [s] 0 = s := rfl
    simp only [if_true, List.length_cons, List.length_nil, hr]
    refine Ev.congr (f := fun _ => some true) (fun k => ?_) (Ev.now _)
    simp
  have h32 := fun e he => main e 32 he (.inl rfl)
  have h9 := fun e he => main e 9 he (.inr rfl)
  have hj2 : ∀ (e : List UInt8), Eol e → Ev (fun k => trystlaw08_FoldOther.j2 k s C t ⟨e.toArray⟩ ⟨#[32]⟩) true := fun e he => by
    cases t
    · exact Ev.step (fun k => by simp only [trystlaw08_FoldOther.j2]; rw [if_neg (by simp)]) (h32 e he)
    · exact Ev.step (fun k => by simp only [trystlaw08_FoldOther.j2]; rw [if_pos trivial]) (h9 e he)
  cases b
  · simp only [Bool.false_eq_true, if_false]
    exact hj2 [13, 10] (.inl rfl)
  · simp only [if_true]
    exact hj2 [10] (.inr rfl)
end Go.Proofs.YtknmbalhbecdhaaDoor.Pure
