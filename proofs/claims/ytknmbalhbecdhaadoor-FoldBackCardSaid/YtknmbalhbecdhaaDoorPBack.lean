/- Plain: the law FoldBack holds of the printed functions. -/
import Derived.Test.YtknmbalhbecdhaaDoorPCut
import Derived.Test.YtknmbalhbecdhaaDoorPrint7
set_option linter.unusedVariables false
set_option linter.unusedSimpArgs false
set_option linter.unusedSectionVars false
namespace Go.Proofs.YtknmbalhbecdhaaDoor.Pure
open Go.RowKit Go.Proofs.YtknmbalhbecdhaaDoor.Print Go.Proofs.YtknmbalhbecdhaaDoorW.PrintWords Go.Proofs.YtknmbalhbecdhaaDoorW.PrintLast Go.Proofs.YtknmbalhbecdhaaDoorW.PrintMore

def textT : List ByteArray → List UInt8
  | [] => []
  | x :: t => oneT x.data.toList 75 ++ textT t
structure Good (s : ByteArray) : Prop where
  ne : s.data.toList ≠ []
  nl : s.data.toList.any nlB = false
  go : goesP s.data.toList = false
theorem good_of (s : ByteArray) (h : badF s = false) : Good s := by
  unfold badF at h
  rw [Bool.or_eq_false_iff, Bool.or_eq_false_iff, Bool.or_eq_false_iff, contains_nl] at h
  obtain ⟨⟨⟨h1, h2⟩, h3⟩, h4⟩ := h
  refine ⟨?_, h4, ?_⟩
  · intro e; rw [e] at h1; cases h1
  · unfold goesP; rw [h2, h3]; rfl
theorem back_cut : ∀ (X : List ByteArray) (acc : List S78) (n : Nat), (∀ x ∈ X, Good x) → ∃ Y : List S78, cutT (textT X) acc n = (acc ++ Y, 0) ∧ Y.map (·.f0) = X
  | [], acc, n, _ => ⟨[], by rw [List.append_nil]; exact ⟨rfl, rfl⟩⟩
  | x :: t, acc, n, h => by
    have hx := h x (by simp)
    obtain ⟨n', h1⟩ := cutT_line x.data.toList (textT t) acc n hx.ne hx.nl hx.go
    obtain ⟨Y, h2, h3⟩ := back_cut t (acc ++ [⟨⟨x.data.toList.toArray⟩, (n : Int)⟩]) n' (fun y hy => h y (by simp [hy]))
    refine ⟨⟨⟨x.data.toList.toArray⟩, (n : Int)⟩ :: Y, ?_, ?_⟩
    · rw [textT, h1, h2, List.append_assoc]; rfl
    · rw [List.map_cons, h3, ba_eq]
theorem foldR_ok : ∀ (X : List ByteArray) (A : List UInt8), (foldR X A).2 = 0 → (foldR X A).1 = ⟨(A ++ textT X).toArray⟩ ∧ (A ++ textT X).length ≤ 20000 ∧ ∀ x ∈ X, x.size ≤ 2000
  | [], A, h => by
    unfold foldR at h ⊢
    by_cases hl : A.length > 20000
    · rw [if_pos hl] at h; exact absurd h (by decide)
    · rw [if_neg hl, textT, List.append_nil]; exact ⟨rfl, by omega, fun x hx => by cases hx⟩
  | s :: t, A, h => by
    unfold foldR at h ⊢
    by_cases hl : s.size > 2000 ∨ A.length > 20000
    · rw [if_pos hl] at h; exact absurd h (by decide)
    · rw [if_neg hl] at h ⊢
      obtain ⟨h1, h2, h3⟩ := foldR_ok t _ h
      rw [List.append_assoc] at h1 h2
      refine ⟨h1, h2, fun x hx => ?_⟩
      rcases List.mem_cons.1 hx with rfl | hx
      · omega
      · exact h3 x hx
theorem foldR_no : ∀ (X : List ByteArray) (A : List UInt8), (foldR X A).2 ≠ 0 → (foldR X A).1 = ⟨#[]⟩
  | [], A, h => by
    unfold foldR at h ⊢
    by_cases hl : A.length > 20000
    · rw [if_pos hl]
    · rw [if_neg hl] at h; exact absurd rfl h
  | s :: t, A, h => by
    unfold foldR at h ⊢
    by_cases hl : s.size > 2000 ∨ A.length > 20000
    · rw [if_pos hl]
    · rw [if_neg hl] at h ⊢; exact foldR_no t _ h
theorem finR_ok : ∀ (t X : List S78), (∀ x ∈ t, Lib.validD x.f0.data.toList = true) → (∀ x ∈ t, x.f0.size ≤ 2000) → finR t X = (X.map (·.f0), 0, 0)
  | [], X, _, _ => rfl
  | x :: t, X, h1, h2 => by
    unfold finR
    have := h2 x (by simp)
    rw [if_pos (h1 x (by simp)), if_neg (by omega)]
    exact finR_ok t X (fun y hy => h1 y (by simp [hy])) (fun y hy => h2 y (by simp [hy]))
theorem back_unf (X : List ByteArray) (hg : ∀ x ∈ X, Good x) (hl : (textT X).length ≤ 20000) (hs : ∀ x ∈ X, x.size ≤ 2000) (hv : ∀ x ∈ X, Lib.validD x.data.toList = true) : unfA ⟨(textT X).toArray⟩ = (X, 0, 0) := by
  obtain ⟨Y, h1, h2⟩ := back_cut X [] 1 hg
  unfold unfA
  rw [ba_size, if_neg (by omega)]
  show unfB (cutT (textT X) [] 1) = _
  rw [h1, List.nil_append, unfB_ok]
  have hm : ∀ y ∈ Y, y.f0 ∈ X := fun y hy => by rw [← h2]; exact List.mem_map.2 ⟨y, hy, rfl⟩
  rw [finR_ok Y Y (fun y hy => hv _ (hm y hy)) (fun y hy => hs _ (hm y hy)), h2]
/-! ### no line is too wide -/
def okW : List UInt8 → Nat → Bool
  | [], _ => true
  | c :: t, w => if c = 10 then okW t 0 else if w + 1 > 76 then false else if w + 1 = 76 then (if c = 13 then okW t (w + 1) else false) else okW t (w + 1)
theorem okW_piece (r : List UInt8) : ∀ (p : List UInt8) (w : Nat), p.any nlB = false → w + p.length ≤ 75 → okW (p ++ [13, 10] ++ r) w = okW r 0
  | [], w, _, h => by
    simp only [List.length_nil] at h
    show okW (13 :: 10 :: r) w = _
    rw [okW, if_neg (by decide), if_neg (by omega)]
    have e : okW (10 :: r) (w + 1) = okW r 0 := by rw [okW, if_pos rfl]
    split
    · rw [if_pos rfl, e]
    · exact e
  | c :: t, w, hn, h => by
    simp only [List.length_cons] at h
    obtain ⟨_, h10, ht⟩ := nl_cons hn
    show okW (c :: (t ++ [13, 10] ++ r)) w = _
    rw [okW, if_neg h10, if_neg (by omega), if_neg (by omega)]
    exact okW_piece r t (w + 1) ht (by omega)
theorem okW_cont (r : List UInt8) : ∀ (k : Nat) (l : List UInt8), l.length ≤ k → l.any nlB = false → okW (contT l ++ r) 0 = okW r 0
  | 0, l, hk, hl => by
    obtain rfl : l = [] := List.length_eq_zero_iff.1 (by omega)
    rfl
  | k + 1, l, hk, hl => by
    by_cases hne : l = []
    · subst hne; rfl
    have h1 := takeT_pos l 74 hne (by omega)
    have h2 := (takeT_le _ l 74 (Nat.le_refl _)).2
    have hc : contT l ++ r = (32 :: l.take (takeT l 74)) ++ [13, 10] ++ (contT (l.drop (takeT l 74)) ++ r) := by
      rw [contT, if_neg hne, oneT_cont l 74 hne (by omega)]; simp
    obtain ⟨ha, hb⟩ := nl_take (takeT l 74) hl
    have hlen : 0 < l.length := List.length_pos_iff.2 hne
    rw [hc, okW_piece _ (32 :: l.take (takeT l 74)) 0 (by rw [List.any_cons, ha]; rfl) (by rw [List.length_cons, List.length_take]; omega)]
    exact okW_cont r k _ (by rw [List.length_drop]; omega) hb
theorem okW_line (l r : List UInt8) (hne : l ≠ []) (hl : l.any nlB = false) : okW (oneT l 75 ++ r) 0 = okW r 0 := by
  have h2 := (takeT_le _ l 75 (Nat.le_refl _)).2
  obtain ⟨ha, hb⟩ := nl_take (takeT l 75) hl
  have hc : oneT l 75 ++ r = l.take (takeT l 75) ++ [13, 10] ++ (contT (l.drop (takeT l 75)) ++ r) := by
    rw [oneT_cont l 75 hne (by omega)]; simp
  rw [hc, okW_piece _ _ 0 ha (by rw [List.length_take]; omega)]
  exact okW_cont r _ _ (Nat.le_refl _) hb
theorem okW_text : ∀ (X : List ByteArray), (∀ x ∈ X, Good x) → okW (textT X) 0 = true
  | [], _ => rfl
  | x :: t, h => by
    have hx := h x (by simp)
    rw [textT, okW_line _ _ hx.ne hx.nl]
    exact okW_text t (fun y hy => h y (by simp [hy]))
theorem width_ev (X : List ByteArray) (s : ByteArray) (hs : s.size ≤ 20000) (R : Bool) (H : Ev (fun k => trystlaw08_FoldBack.l1 k X s (X.length : Int) 0) R) : ∀ (m i w : Nat), s.size - i ≤ m → i ≤ s.size → w ≤ 76 → okW (s.data.toList.drop i) w = true →
    Ev (fun k => trystlaw08_FoldBack.l0 k X s (w : Int) (s.size : Int) (i : Int)) R
  | 0, i, w, hm, hi, hw, ho => by
    obtain rfl : i = s.size := by omega
    refine Ev.step (fun k => ?_) H
    simp only [trystlaw08_FoldBack.l0]
    rw [if_neg (by omega)]
  | m + 1, i, w, hm, hi, hw, ho => by
    by_cases hlt : i < s.size
    case neg => exact width_ev X s hs R H m i w (by omega) hi hw ho
    have hb := bt_nat s i
    rw [drop_at s i hlt, okW] at ho
    have IH := fun w' => width_ev X s hs R H m (i + 1) w' (by omega) (by omega)
    generalize s.data.toList.getD i 0 = c at *
    by_cases hc : c = 10
    · rw [if_pos hc] at ho
      refine Ev.step (fun k => ?_) (IH 0 (by omega) ho)
      simp only [trystlaw08_FoldBack.l0, hb]
      rw [if_pos (by omega), if_pos (by omega), if_pos (by omega), if_pos (show (c.toNat : Int) = 10 from is_natF c 10 (by omega) hc), if_neg (by omega), if_neg (by omega), wrap_one i (by omega)]
      rfl
    · rw [if_neg hc] at ho
      have h10 : ¬ (c.toNat : Int) = 10 := ne_nat c 10 (by omega) hc
      by_cases hb1 : w + 1 > 76
      · rw [if_pos hb1] at ho; cases ho
      rw [if_neg hb1] at ho
      by_cases h76 : w + 1 = 76
      · rw [if_pos h76] at ho
        by_cases h13 : c = 13
        · rw [if_pos h13] at ho
          refine Ev.step (fun k => ?_) (IH (w + 1) (by omega) ho)
          simp only [trystlaw08_FoldBack.l0, hb]
          rw [if_pos (by omega), if_pos (by omega), if_pos (by omega), if_neg h10, wrap_one w (by omega), if_neg (by omega), if_pos (by omega), if_pos (show (c.toNat : Int) = 13 from is_natF c 13 (by omega) h13), wrap_one i (by omega)]
        · rw [if_neg h13] at ho; cases ho
      · rw [if_neg h76] at ho
        refine Ev.step (fun k => ?_) (IH (w + 1) (by omega) ho)
        simp only [trystlaw08_FoldBack.l0, hb]
        rw [if_pos (by omega), if_pos (by omega), if_pos (by omega), if_neg h10, wrap_one w (by omega), if_neg (by omega), if_neg (by omega), wrap_one i (by omega)]
theorem valid_ev (X : List ByteArray) (hX : X.length ≤ 100000) (hsz : ∀ x ∈ X, x.size ≤ 100000) (s : ByteArray) (H : (∀ x ∈ X, Lib.validD x.data.toList = true) → Ev (fun k => (fold_Unfold.f k s).bind fun bt299 => (if bt299.2.2 = 0 then (if bt299.2.1 = 0 then ((trystlaw08_Same.f k X bt299.1).bind fun t304 => (some t304)) else (some false)) else (some false))) true) : ∀ (m i : Nat), X.length - i ≤ m → i ≤ X.length → (∀ x ∈ X.take i, Lib.validD x.data.toList = true) →
    Ev (fun k => trystlaw08_FoldBack.l1 k X s (X.length : Int) (i : Int)) true
  | 0, i, hm, hi, hv => by
    obtain rfl : i = X.length := by omega
    rw [List.take_length] at hv
    refine Ev.step (fun k => ?_) (H hv)
    simp only [trystlaw08_FoldBack.l1]
    rw [if_neg (by omega)]
  | m + 1, i, hm, hi, hv => by
    by_cases hlt : i < X.length
    case neg => exact valid_ev X hX hsz s H m i (by omega) hi hv
    have hx := hsz X[i] (List.getElem_mem hlt)
    refine Ev.step (f := fun k => (trystref08_UTF.f k X[i]).bind fun t298 => (if t298 = true then (trystlaw08_FoldBack.l1 k X s (X.length : Int) ((i + 1 : Nat) : Int)) else (some true))) (fun k => ?_) ?_
    · simp only [trystlaw08_FoldBack.l1, rdAt X i hlt]
      rw [if_pos (by omega), if_pos (by omega), if_pos (by omega), wrap_one i (by omega)]
    · refine Ev.bind (UTF_all X[i] (by omega)) ?_
      by_cases h1 : Lib.validD X[i].data.toList = true
      · simp only [if_pos h1]
        refine valid_ev X hX hsz s H m (i + 1) (by omega) (by omega) (fun x hx => ?_)
        rw [List.take_succ_eq_append_getElem hlt] at hx
        rcases List.mem_append.1 hx with hx | hx
        · exact hv x hx
        · rw [List.mem_singleton.1 hx]; exact h1
      · simp only [if_neg h1]; exact Ev.now _
theorem back_pure (X : List ByteArray) (hs : ∀ x ∈ X, x.size ≤ 140737488351232) : ∃ k, trystlaw08_FoldBack.f k X = some true := by
  refine Ev.rounds (r := true) ?_
  simp only [trystlaw08_FoldBack.f, awake8, Option.bind_some, if_true]
  refine Ev.bind (few_ev X hs) ?_
  by_cases hf : sumF X ≤ 30000
  case neg =>
    rw [decide_eq_false hf]
    refine Ev.step (f := fun _ => some true) (fun k => ?_) (Ev.now _)
    simp only [trystlaw08_FoldBack.j0, awake8]; rfl
  rw [decide_eq_true hf]
  have hl := sumF_len X
  have hmem := sumF_mem X
  by_cases hb : X.any badF = true
  · refine Ev.step (f := fun _ => some true) (fun k => ?_) (Ev.now _)
    simp only [trystlaw08_FoldBack.j0, fold_f X hf, Option.bind_some]
    unfold foldA
    rw [if_neg (by simp), if_pos hb, if_neg (by decide), Lib.toList_data]
    rfl
  have hg : ∀ x ∈ X, Good x := fun x hx => good_of x (by
    rw [Bool.not_eq_true] at hb
    have := List.any_eq_false.1 hb x hx
    simpa using this)
  have hfa : foldA X = foldR X [] := by unfold foldA; rw [if_neg hb]
  by_cases h0 : (foldR X []).2 = 0
  · obtain ⟨h1, h2, h3⟩ := foldR_ok X [] h0
    rw [List.nil_append] at h1 h2
    refine Ev.step (f := fun k => trystlaw08_FoldBack.l0 k X ⟨(textT X).toArray⟩ ((0 : Nat) : Int) (((⟨(textT X).toArray⟩ : ByteArray).size : Nat) : Int) ((0 : Nat) : Int)) (fun k => ?_) ?_
    · simp only [trystlaw08_FoldBack.j0, fold_f X hf, Option.bind_some, hfa, h0, h1]
      rw [if_neg (by simp)]; rfl
    · have hsz := ba_size (textT X)
      refine width_ev X _ (by omega) true ?_ _ 0 0 (Nat.le_refl _) (by omega) (by omega) (by rw [List.drop_zero]; exact okW_text X hg)
      refine valid_ev X (by omega) (fun x hx => by have := hmem x hx; omega) _ (fun hv => ?_) X.length 0 (by omega) (by omega) (fun x hx => by cases hx)
      refine Ev.bind (unfold_ev _ (by omega)) ?_
      rw [back_unf X hg h2 h3 hv]
      simp only [if_true]
      exact Ev.bind (same8 X (by omega)) (Ev.now _)
  · refine Ev.step (f := fun _ => some true) (fun k => ?_) (Ev.now _)
    simp only [trystlaw08_FoldBack.j0, fold_f X hf, Option.bind_some, hfa, foldR_no X [] h0]
    rw [if_neg (by simp), if_neg h0, Lib.toList_data]
    rfl
end Go.Proofs.YtknmbalhbecdhaaDoor.Pure
