/- Plain: the law EscapeLists holds of the printed functions. -/
import Derived.Test.YtknmbalhbecdhaaDoorPUtf2
import Derived.Test.YtknmbalhbecdhaaDoorPLaw
import Derived.Test.YtknmbalhbecdhaaDoorPrint5
set_option linter.unusedVariables false
set_option linter.unusedSimpArgs false
set_option linter.unusedSectionVars false
namespace Go.Proofs.YtknmbalhbecdhaaDoor.Pure
open Go.RowKit Go.Proofs.YtknmbalhbecdhaaDoor.Print Go.Proofs.YtknmbalhbecdhaaDoorW.PrintWords Go.Proofs.YtknmbalhbecdhaaDoorW.PrintLast Go.Proofs.YtknmbalhbecdhaaDoorW.PrintMore

def firstE : List ByteArray → Int
  | [] => 0
  | x :: t => if cleanR true x.data.toList = 0 then firstE t else cleanR true x.data.toList
def E (x : ByteArray) : ByteArray := ⟨(escT x.data.toList).toArray⟩
def joinE (X : List ByteArray) : ByteArray := ⟨(Lib.join ((X.map (·.data.toList)).map escT) [44]).toArray⟩
def textA (x : ByteArray) : ByteArray × Int := if cleanR true x.data.toList = 0 then (E x, 0) else (⟨#[]⟩, cleanR true x.data.toList)
theorem text_ev (x : ByteArray) (h : x.size ≤ 500) : Ev (fun k => escape_Text.f k x) (textA x) := by
  refine Ev.bind (escClean x true (by omega)) ?_
  unfold textA
  by_cases h0 : cleanR true x.data.toList = 0
  · simp only [if_pos h0, if_pos (show 2 * x.size ≤ 140737488355328 by omega)]; exact Ev.now _
  · simp only [if_neg h0]; exact Ev.now _
theorem rd_at (X : List ByteArray) (i : Nat) (h : i < X.length) : rdOf ByteArray.empty X (i : Int) = X[i] := by
  unfold rdOf
  rw [Int.toNat_natCast, List.getD_eq_getElem?_getD, List.getElem?_eq_getElem h]; rfl
theorem map_E (X : List ByteArray) : (X.map E).map (·.data.toList) = (X.map (·.data.toList)).map escT := by
  simp [List.map_map, Function.comp_def, E]
theorem joinE_size (X : List ByteArray) (hl : X.length ≤ 60) (h : ∀ x ∈ X, x.size ≤ 500) : (joinE X).size ≤ 60060 := by
  have := join_len 500 (X.map (·.data.toList)) (by
    intro y hy
    obtain ⟨x, hx, rfl⟩ := List.mem_map.1 hy
    have := h x hx
    rw [Array.length_toList]; exact this)
  rw [List.length_map] at this
  have e : (joinE X).size = (Lib.join ((X.map (·.data.toList)).map escT) [44]).length := by
    show (Lib.join ((X.map (·.data.toList)).map escT) [44]).toArray.size = _
    rw [List.size_toArray]
  rw [e]
  have : X.length * (2 * 500 + 1) ≤ 60 * 1001 := Nat.mul_le_mul_right _ hl
  omega
theorem list_l0 (X : List ByteArray) (hl : X.length ≤ 60) (h : ∀ x ∈ X, x.size ≤ 500) : ∀ (n i : Nat), X.length - i ≤ n → i ≤ X.length →
    Ev (fun k => escape_List.l0 k ((X.take i).map E ++ List.replicate (X.length - i) (⟨#[]⟩ : ByteArray)) X (X.length : Int) (i : Int)) (if firstE (X.drop i) = 0 then (joinE X, 0) else (⟨#[]⟩, firstE (X.drop i)))
  | 0, i, hn, hi => by
    obtain rfl : i = X.length := by omega
    rw [List.take_length, List.drop_length, Nat.sub_self]
    simp only [List.replicate_zero, List.append_nil, firstE, if_true]
    refine Ev.step (f := fun _ => some (joinE X, 0)) (fun k => ?_) (Ev.now _)
    simp only [escape_List.l0]
    rw [if_neg (by omega)]
    have hs := joinE_size X hl h
    have e : (joinE X).size = (Lib.join ((X.map (·.data.toList)).map escT) [44]).length := by
      show (Lib.join ((X.map (·.data.toList)).map escT) [44]).toArray.size = _
      rw [List.size_toArray]
    unfold strings_Join.f
    rw [map_E, if_pos ⟨by rw [List.length_map]; omega, by show (Lib.join _ [44]).length ≤ _; omega⟩]
    rfl
  | n + 1, i, hn, hi => by
    by_cases hlt : i < X.length
    case neg =>
      exact list_l0 X hl h n i (by omega) hi
    rw [List.drop_eq_getElem_cons hlt]
    have hx := h X[i] (List.getElem_mem hlt)
    have ih := list_l0 X hl h n (i + 1) (by omega) (by omega)
    have hset : ((X.take i).map E ++ List.replicate (X.length - i) (⟨#[]⟩ : ByteArray)).set i (E X[i]) = (X.take (i + 1)).map E ++ List.replicate (X.length - (i + 1)) (⟨#[]⟩ : ByteArray) := by
      have hlen : ((X.take i).map E).length = i := by simp; omega
      rw [List.set_append_right _ _ (by omega), hlen, Nat.sub_self, show X.length - i = (X.length - (i + 1)) + 1 by omega, List.replicate_succ, List.set_cons_zero, List.take_succ_eq_append_getElem hlt, List.map_append]
      simp
    refine Ev.step (f := fun k => (escape_Text.f k X[i]).bind fun bt => if bt.2 = 0 then escape_List.l0 k (((X.take i).map E ++ List.replicate (X.length - i) (⟨#[]⟩ : ByteArray)).set i bt.1) X (X.length : Int) ((i + 1 : Nat) : Int) else some (⟨#[]⟩, bt.2)) (fun k => ?_) ?_
    · simp only [escape_List.l0, rd_at X i hlt]
      have hlen : ((X.take i).map E ++ List.replicate (X.length - i) (⟨#[]⟩ : ByteArray)).length = X.length := by
        rw [List.length_append, List.length_map, List.length_take, List.length_replicate]; omega
      rw [if_pos (by omega), if_pos (by omega), hlen]
      simp only [if_pos (show (i : Int) < (X.length : Int) by omega), wrap_one i (show i ≤ 140737488355327 by omega), Int.toNat_natCast]
    · refine Ev.bind (text_ev _ hx) ?_
      unfold textA
      by_cases h0 : cleanR true X[i].data.toList = 0
      · simp only [if_pos h0, if_true, hset, firstE]
        exact ih
      · simp only [if_neg h0, firstE]
        exact Ev.now _
def noneR (X : List ByteArray) : Prop := X.length = 0 ∨ X.length = 1 ∧ (rdOf ByteArray.empty X 0).toList = []
theorem list_f (X : List ByteArray) (hl : X.length ≤ 60) (h : ∀ x ∈ X, x.size ≤ 500) (hn : ¬ noneR X) : Ev (fun k => escape_List.f k X) (if firstE X = 0 then (joinE X, 0) else (⟨#[]⟩, firstE X)) := by
  have h0 := list_l0 X hl h X.length 0 (by omega) (by omega)
  simp only [List.take_zero, List.map_nil, List.nil_append, List.drop_zero, Nat.sub_zero] at h0
  have hj : Ev (fun k => escape_List.j0 k X false) (if firstE X = 0 then (joinE X, 0) else (⟨#[]⟩, firstE X)) := by
    refine Ev.step (fun k => ?_) h0
    simp only [escape_List.j0]
    rw [if_neg (by simp), if_pos (by omega), if_pos (by omega)]
    rfl
  unfold noneR at hn
  simp only [not_or, not_and] at hn
  simp only [escape_List.f]
  simp only [if_neg (show ¬ (X.length : Int) = 0 by omega)]
  by_cases h1 : X.length = 1
  · simp only [if_pos (show (X.length : Int) = 1 by omega), if_pos (show 0 < (X.length : Int) by omega)]
    have : ((rdOf ByteArray.empty X 0).toList == ([] : List UInt8)) = false := beq_eq_false_iff_ne.2 (hn.2 h1)
    rw [this]; exact hj
  · simp only [if_neg (show ¬ (X.length : Int) = 1 by omega)]; exact hj
theorem list_none (X : List ByteArray) (hn : noneR X) : Ev (fun k => escape_List.f k X) (⟨#[]⟩, 7) := by
  have hj : Ev (fun k => escape_List.j0 k X true) (⟨#[]⟩, 7) := Ev.step (f := fun _ => some (⟨#[]⟩, 7)) (fun k => by simp only [escape_List.j0, if_true]) (Ev.now _)
  simp only [escape_List.f]
  rcases hn with h | ⟨h, h2⟩
  · simp only [if_pos (show (X.length : Int) = 0 by omega)]; exact hj
  · simp only [if_neg (show ¬ (X.length : Int) = 0 by omega), if_pos (show (X.length : Int) = 1 by omega), if_pos (show 0 < (X.length : Int) by omega), h2]; exact hj
theorem firstE_zero : ∀ (X : List ByteArray), firstE X = 0 → ∀ x ∈ X, Lib.validD x.data.toList = true ∧ x.data.toList.all (okB true) = true
  | [], _, x, hx => by cases hx
  | y :: t, h, x, hx => by
    unfold firstE at h
    have h0 : cleanR true y.data.toList = 0 := by
      by_cases h0 : cleanR true y.data.toList = 0
      · exact h0
      · rw [if_neg h0] at h; exact h
    rw [if_pos h0] at h
    rcases List.mem_cons.1 hx with rfl | hx
    · unfold cleanR at h0
      by_cases h1 : Lib.validD x.data.toList = true
      · rw [if_pos h1] at h0
        by_cases h2 : x.data.toList.all (okB true) = true
        · exact ⟨h1, h2⟩
        · rw [if_neg h2] at h0; exact absurd h0 (by decide)
      · rw [if_neg h1] at h0; exact absurd h0 (by decide)
    · exact firstE_zero t h x hx
theorem strs_back (X : List ByteArray) : strs (X.map (·.data.toList)) = X := by
  unfold strs
  rw [List.map_map]
  conv => rhs; rw [← List.map_id X]
  rfl
theorem items_back (X : List ByteArray) (hl : X.length ≤ 60) (h : ∀ x ∈ X, x.size ≤ 500) (hn : ¬ noneR X) (h0 : firstE X = 0) : Ev (fun k => escape_Items.f k (joinE X)) (X, 0) := by
  have hs := joinE_size X hl h
  have := list_ev (joinE X) (by omega)
  have e : listA (joinE X) (itemsA (joinE X)) = (X, 0) := by
    cases X with
    | nil => exact absurd (.inl rfl) hn
    | cons x t =>
      have hz := firstE_zero _ h0
      have hgo := go_join x.data.toList (t.map (·.data.toList))
      have hv := join_valid x.data.toList (t.map (·.data.toList)) (by
        intro y hy
        obtain ⟨z, hz1, rfl⟩ := List.mem_map.1 (show y ∈ (x :: t).map (·.data.toList) from hy)
        exact (hz z hz1).1)
      have hk := join_ok x.data.toList (t.map (·.data.toList)) (by
        intro y hy
        obtain ⟨z, hz1, rfl⟩ := List.mem_map.1 (show y ∈ (x :: t).map (·.data.toList) from hy)
        exact (hz z hz1).2)
      have hd : (joinE (x :: t)).data.toList = Lib.join ((x.data.toList :: t.map (·.data.toList)).map escT) [44] := rfl
      have hc : cleanR false (joinE (x :: t)).data.toList = 0 := by
        unfold cleanR; rw [hd, if_pos hv, if_pos hk]
      have hi : itemsA (joinE (x :: t)) = (x :: t, 0) := by
        unfold itemsA itemsR
        rw [if_pos hc, hd, hgo]
        have := strs_back (x :: t)
        simp only [List.map_cons] at this ⊢
        rw [this]
      unfold listA
      rw [hi, if_pos rfl, if_neg]
      intro he
      rw [Lib.toList_data, hd] at he
      rw [he] at hgo
      have h1 := Option.some.inj (show some [[]] = some (x.data.toList :: t.map (·.data.toList)) from hgo)
      have h2 := List.head_eq_of_cons_eq h1
      have h3 := congrArg List.length h1
      simp only [List.length_cons, List.length_nil, List.length_map] at h3
      refine hn (.inr ⟨by rw [List.length_cons]; omega, ?_⟩)
      show x.toList = []
      rw [Lib.toList_data]; exact h2.symm
  rw [e] at this
  exact this
theorem lists_end (X : List ByteArray) (hl : X.length ≤ 60) (h : ∀ x ∈ X, x.size ≤ 500) : Ev (fun k => trystlaw09_EscapeLists.l0 k X (firstE X) (X.length : Int) ((X.length : Nat) : Int)) true := by
  refine Ev.step (fun k => by simp only [trystlaw09_EscapeLists.l0]; rw [if_neg (by omega)]) ?_
  by_cases hn : noneR X
  · refine Ev.bind (list_none X hn) ?_
    have hj : Ev (fun k => trystlaw09_EscapeLists.j2 k X (firstE X) ⟨#[]⟩ 7 true) true := Ev.step (f := fun _ => some true) (fun k => by simp only [trystlaw09_EscapeLists.j2, if_true, Lib.toList_data]; rfl) (Ev.now _)
    rcases hn with h | ⟨h, h2⟩
    · simp only [if_pos (show (X.length : Int) = 0 by omega)]; exact hj
    · simp only [if_neg (show ¬ (X.length : Int) = 0 by omega), if_pos (show (X.length : Int) = 1 by omega), if_pos (show 0 < (X.length : Int) by omega), h2]; exact hj
  · refine Ev.bind (list_f X hl h hn) ?_
    have hj : Ev (fun k => trystlaw09_EscapeLists.j2 k X (firstE X) (if firstE X = 0 then (joinE X, (0 : Int)) else (⟨#[]⟩, firstE X)).1 (if firstE X = 0 then (joinE X, (0 : Int)) else (⟨#[]⟩, firstE X)).2 false) true := by
      by_cases h0 : firstE X = 0
      · simp only [if_pos h0]
        refine Ev.step (f := fun k => (escape_Items.f k (joinE X)).bind fun bt => if bt.2 = 0 then (trystlaw08_Same.f k X bt.1).bind fun t => some t else some false) (fun k => ?_) ?_
        · simp only [trystlaw09_EscapeLists.j2, if_true]
          rw [if_neg (by simp), if_pos h0]
        · refine Ev.bind (items_back X hl h hn h0) ?_
          simp only [if_true]
          exact Ev.bind (same_all X (by omega)) (Ev.now _)
      · simp only [if_neg h0]
        refine Ev.step (f := fun _ => some true) (fun k => ?_) (Ev.now _)
        simp only [trystlaw09_EscapeLists.j2, Lib.toList_data]
        rw [if_neg (by simp), if_neg h0, if_true]; rfl
    unfold noneR at hn
    simp only [not_or, not_and] at hn
    simp only [if_neg (show ¬ (X.length : Int) = 0 by omega)]
    by_cases h1 : X.length = 1
    · simp only [if_pos (show (X.length : Int) = 1 by omega), if_pos (show 0 < (X.length : Int) by omega)]
      have : ((rdOf ByteArray.empty X 0).toList == ([] : List UInt8)) = false := beq_eq_false_iff_ne.2 (hn.2 h1)
      rw [this]; exact hj
    · simp only [if_neg (show ¬ (X.length : Int) = 1 by omega)]; exact hj
theorem lists_l0 (X : List ByteArray) (hl : X.length ≤ 60) : ∀ (n i : Nat) (e : Int), X.length - i ≤ n → i ≤ X.length → (∀ (j : Nat) (hj : j < X.length), j < i → X[j].size ≤ 500) →
    (if e = 0 then firstE (X.drop i) else e) = firstE X → Ev (fun k => trystlaw09_EscapeLists.l0 k X e (X.length : Int) (i : Int)) true
  | 0, i, e, hn, hi, hb, he => by
    obtain rfl : i = X.length := by omega
    have : e = firstE X := by
      rw [List.drop_length] at he
      by_cases h0 : e = 0
      · rw [if_pos h0] at he; rw [h0]; exact he
      · rw [if_neg h0] at he; exact he
    rw [this]
    refine lists_end X hl (fun x hx => ?_)
    obtain ⟨j, hj, rfl⟩ := List.mem_iff_getElem.1 hx
    exact hb j hj hj
  | n + 1, i, e, hn, hi, hb, he => by
    by_cases hlt : i < X.length
    case neg => exact lists_l0 X hl n i e (by omega) hi hb he
    by_cases hbig : X[i].size > 500
    · refine Ev.step (f := fun _ => some true) (fun k => ?_) (Ev.now _)
      simp only [trystlaw09_EscapeLists.l0, rd_at X i hlt]
      rw [if_pos (by omega), if_pos (by omega), if_pos (by omega), if_pos (by omega)]
    · refine Ev.step (f := fun k => (trystref08_Clean.f k X[i] true).bind fun t => if e = 0 then trystlaw09_EscapeLists.l0 k X t (X.length : Int) ((i + 1 : Nat) : Int) else trystlaw09_EscapeLists.l0 k X e (X.length : Int) ((i + 1 : Nat) : Int)) (fun k => ?_) ?_
      · simp only [trystlaw09_EscapeLists.l0, rd_at X i hlt]
        rw [if_pos (by omega), if_pos (by omega), if_pos (by omega), if_neg (by omega), wrap_one i (by omega)]
      · refine Ev.bind (refClean X[i] true (by omega)) ?_
        rw [List.drop_eq_getElem_cons hlt] at he
        have hb' : ∀ (j : Nat) (hj : j < X.length), j < i + 1 → X[j].size ≤ 500 := by
          intro j hj hji
          by_cases h1 : j = i
          · subst h1; omega
          · exact hb j hj (by omega)
        by_cases h0 : e = 0
        · simp only [if_pos h0]
          rw [if_pos h0] at he
          refine lists_l0 X hl n (i + 1) _ (by omega) (by omega) hb' ?_
          rw [← he]; rfl
        · simp only [if_neg h0]
          rw [if_neg h0] at he
          refine lists_l0 X hl n (i + 1) _ (by omega) (by omega) hb' ?_
          rw [if_neg h0]; exact he
theorem lists_pure (X : List ByteArray) : ∃ k, trystlaw09_EscapeLists.f k X = some true := by
  refine Ev.rounds (r := true) ?_
  refine Ev.bind awake_ev ?_
  simp only [if_true]
  by_cases hbig : X.length > 60
  · rw [decide_eq_true (show (X.length : Int) > 60 by omega)]
    refine Ev.step (f := fun k => (trystlaw09_awake.f k).bind fun t => some t) (fun k => by simp only [trystlaw09_EscapeLists.j0, if_true]) ?_
    exact Ev.bind awake_ev (Ev.now _)
  · rw [decide_eq_false (show ¬ (X.length : Int) > 60 by omega)]
    refine Ev.step (f := fun k => trystlaw09_EscapeLists.l0 k X 0 (X.length : Int) ((0 : Nat) : Int)) (fun k => by simp only [trystlaw09_EscapeLists.j0]; rw [if_neg (by simp)]; rfl) ?_
    exact lists_l0 X (by omega) X.length 0 0 (by omega) (by omega) (by intro j _ h; omega) (by rw [if_pos rfl]; rfl)
end Go.Proofs.YtknmbalhbecdhaaDoor.Pure
