/- Plain: the law EscapeReads holds of the printed functions. -/
import Derived.Test.YtknmbalhbecdhaaDoorPReads
set_option linter.unusedVariables false
set_option linter.unusedSimpArgs false
namespace Go.Proofs.YtknmbalhbecdhaaDoor.Pure
open Go.RowKit Go.Proofs.YtknmbalhbecdhaaDoor.Print Go.Proofs.YtknmbalhbecdhaaDoorW.PrintWords Go.Proofs.YtknmbalhbecdhaaDoorW.PrintLast Go.Proofs.YtknmbalhbecdhaaDoorW.PrintMore

theorem same_ev (D : List ByteArray) (hD : D.length ≤ 140737488351232) : ∀ (n i : Nat), D.length - i ≤ n → i ≤ D.length → Ev (fun k => trystlaw08_Same.l0 k D D (D.length : Int) (i : Int)) true
  | 0, i, h, hi => by
    obtain rfl : i = D.length := by omega
    exact Ev.step (f := fun _ => some true) (fun k => by simp only [trystlaw08_Same.l0]; rw [if_neg (by omega)]) (Ev.now _)
  | n + 1, i, h, hi => by
    by_cases hlt : i < D.length
    · exact Ev.step (f := fun k => trystlaw08_Same.l0 k D D (D.length : Int) ((i + 1 : Nat) : Int)) (fun k => by
        simp only [trystlaw08_Same.l0]
        rw [if_pos (by omega), if_pos (by omega), if_pos (by omega), if_pos (by omega), if_true, wrap_one i (by omega)]) (same_ev D hD n (i + 1) (by omega) (by omega))
    · obtain rfl : i = D.length := by omega
      exact Ev.step (f := fun _ => some true) (fun k => by simp only [trystlaw08_Same.l0]; rw [if_neg (by omega)]) (Ev.now _)
theorem same_all (D : List ByteArray) (hD : D.length ≤ 140737488351232) : Ev (fun k => trystlaw08_Same.f k D D) true := by
  simp only [trystlaw08_Same.f, if_true]
  exact same_ev D hD D.length 0 (by omega) (by omega)
def plainA (p : List ByteArray × Int) : ByteArray × Int := if p.2 = 0 then (if p.1.length = 1 then (rdOf ByteArray.empty p.1 0, 0) else (⟨#[]⟩, 7)) else (⟨#[]⟩, p.2)
theorem plain_ev (s : ByteArray) (hs : s.size ≤ 4294967296) : Ev (fun k => escape_Plain.f k s) (plainA (itemsA s)) := by
  refine Ev.bind (items_ev s hs) ?_
  unfold plainA
  by_cases h0 : (itemsA s).2 = 0
  · simp only [if_pos h0]
    by_cases h1 : (itemsA s).1.length = 1
    · simp only [if_pos h1, if_pos (show ((itemsA s).1.length : Int) = 1 by omega), if_pos (show 0 < ((itemsA s).1.length : Int) by omega)]; exact Ev.now _
    · simp only [if_neg h1, if_neg (show ¬ ((itemsA s).1.length : Int) = 1 by omega)]; exact Ev.now _
  · simp only [if_neg h0]; exact Ev.now _
def listA (s : ByteArray) (p : List ByteArray × Int) : List ByteArray × Int := if p.2 = 0 then (if s.toList = [] then ([], 7) else (p.1, 0)) else ([], p.2)
theorem list_ev (s : ByteArray) (hs : s.size ≤ 4294967296) : Ev (fun k => escape_Items.f k s) (listA s (itemsA s)) := by
  refine Ev.bind (items_ev s hs) ?_
  unfold listA
  by_cases h0 : (itemsA s).2 = 0
  · simp only [if_pos h0]
    by_cases h1 : s.toList = []
    · simp only [if_pos h1]; exact Ev.now _
    · simp only [if_neg h1]; exact Ev.now _
  · simp only [if_neg h0]; exact Ev.now _
theorem itemsGo_len : ∀ (n : Nat) (l c : List UInt8) (X : List (List UInt8)), l.length ≤ n → itemsGo l c = some X → X.length ≤ l.length + 1
  | _, [], c, X, _, h => by
    simp only [itemsGo] at h; obtain rfl := Option.some.inj h; simp
  | 0, a :: t, c, X, hn, h => by simp at hn
  | n + 1, a :: t, c, X, hn, h => by
    simp only [List.length_cons] at hn ⊢
    by_cases h44 : a = 44
    · rw [h44, go_comma] at h
      cases hx : itemsGo t [] with
      | none => rw [hx] at h; cases h
      | some Y =>
        rw [hx] at h
        obtain rfl := Option.some.inj h
        have := itemsGo_len n t [] Y (by omega) hx
        simp; omega
    by_cases h59 : a = 59
    · rw [h59, go_semi] at h; cases h
    by_cases h92 : a = 92
    · cases t with
      | nil => rw [h92] at h; cases h
      | cons d u =>
        rw [h92, go_back] at h
        cases hs : signL d with
        | none => rw [hs] at h; cases h
        | some x =>
          rw [hs] at h
          have := itemsGo_len n u _ X (by simp at hn; omega) h
          simp; omega
    · rw [go_plain _ _ _ h44 h59 h92] at h
      have := itemsGo_len n t _ X (by omega) h
      omega
theorem itemsA_len (s : ByteArray) : (itemsA s).1.length ≤ s.size + 1 := by
  unfold itemsA itemsR
  split
  · cases h : itemsGo s.data.toList [] with
    | none => simp
    | some X =>
      have := itemsGo_len _ _ _ _ (Nat.le_refl _) h
      simpa [strs] using this
  · simp
theorem awake_ev : Ev (fun k => trystlaw09_awake.f k) true := by
  refine Ev.bind (a := (⟨#[97, 92, 44, 98]⟩, 0)) ?_ ?_
  · refine Ev.bind (escClean _ true (by decide)) ?_
    have e : cleanR true (⟨#[97, 44, 98]⟩ : ByteArray).data.toList = 0 := by
      have e1 : Lib.validD (⟨#[97, 44, 98]⟩ : ByteArray).data.toList = true := by
        show Lib.validD [97, 44, 98] = true
        rw [Lib.validD_cons _ _ (by decide), Lib.validD_cons _ _ (by decide), Lib.validD_cons _ _ (by decide), Lib.validD_nil]
      unfold cleanR; rw [if_pos e1, if_pos (by decide)]
    simp only [e, if_true]
    rw [if_pos (by decide)]
    exact Ev.now _
  · simp only [if_true, Lib.toList_data]
    exact Ev.now _
theorem reads_j3 (s : ByteArray) (hs : s.size ≤ 5000) (h0 : (itemsA s).2 = 0) : Ev (fun k => trystlaw09_EscapeReads.j3 k s (itemsA s).1 (listA s (itemsA s)).1 (listA s (itemsA s)).2 false) true := by
  unfold listA
  rw [if_pos h0]
  by_cases h1 : s.toList = []
  · rw [if_pos h1]
    exact Ev.step (f := fun _ => some true) (fun k => by simp only [trystlaw09_EscapeReads.j3]; rw [if_neg (by simp), if_pos h1, if_true]; rfl) (Ev.now _)
  · rw [if_neg h1]
    refine Ev.step (f := fun k => (trystlaw08_Same.f k (itemsA s).1 (itemsA s).1).bind fun t => some t) (fun k => by simp only [trystlaw09_EscapeReads.j3]; rw [if_neg (by simp), if_neg h1, if_true]) ?_
    exact Ev.bind (same_all _ (by have := itemsA_len s; omega)) (Ev.now _)
theorem reads_pure : trystlaw09_EscapeReads.Pure := by
  intro s hs
  refine Ev.rounds (r := true) ?_
  refine Ev.bind awake_ev ?_
  simp only [if_true]
  by_cases hbig : s.size > 5000
  · rw [decide_eq_true (show (s.size : Int) > 5000 by omega)]
    refine Ev.step (f := fun k => (trystlaw09_awake.f k).bind fun t => some t) (fun k => by simp only [trystlaw09_EscapeReads.j0, if_true]) ?_
    exact Ev.bind awake_ev (Ev.now _)
  rw [decide_eq_false (show ¬ (s.size : Int) > 5000 by omega)]
  refine Ev.step (fun k => by simp only [trystlaw09_EscapeReads.j0, Bool.false_eq_true, if_false]; exact rfl) ?_
  refine Ev.bind (refItems s (by omega)) ?_
  refine Ev.bind (plain_ev s (by omega)) ?_
  refine Ev.bind (list_ev s (by omega)) ?_
  refine Ev.bind (esc_value s (by omega)) ?_
  refine Ev.bind (ref_value s (by omega)) ?_
  have ev : ((valA s).2 != (valA s).2) = false := by simp
  simp only [if_true, ev]
  by_cases h0 : (itemsA s).2 = 0
  · have h3 := reads_j3 s (by omega) h0
    have hj2 : Ev (fun k => trystlaw09_EscapeReads.j2 k s (itemsA s).1 (plainA (itemsA s)).1 (plainA (itemsA s)).2 (listA s (itemsA s)).1 (listA s (itemsA s)).2 false) true := by
      by_cases h2 : (itemsA s).1.length > 1
      · have e1 : plainA (itemsA s) = (⟨#[]⟩, 7) := by unfold plainA; rw [if_pos h0, if_neg (by omega)]
        refine Ev.step (fun k => ?_) h3
        simp only [trystlaw09_EscapeReads.j2, e1]
        rw [if_neg (by simp), if_pos (by omega), if_true, Lib.toList_data]; rfl
      · refine Ev.step (fun k => ?_) h3
        simp only [trystlaw09_EscapeReads.j2]
        rw [if_neg (by simp), if_neg (by omega)]
    by_cases h1 : (itemsA s).1.length = 1
    · have e1 : plainA (itemsA s) = (rdOf ByteArray.empty (itemsA s).1 0, 0) := by unfold plainA; rw [if_pos h0, if_pos h1]
      refine Ev.step (fun k => ?_) hj2
      simp only [trystlaw09_EscapeReads.j1, e1]
      rw [if_neg (by simp), if_pos h0, if_pos (by omega), if_true, if_pos (by omega)]
      simp
    · refine Ev.step (fun k => ?_) hj2
      simp only [trystlaw09_EscapeReads.j1]
      rw [if_neg (by simp), if_pos h0, if_neg (by omega)]
  · have e1 : plainA (itemsA s) = (⟨#[]⟩, (itemsA s).2) := by unfold plainA; rw [if_neg h0]
    have e2 : listA s (itemsA s) = ([], (itemsA s).2) := by unfold listA; rw [if_neg h0]
    refine Ev.step (f := fun _ => some true) (fun k => ?_) (Ev.now _)
    simp only [trystlaw09_EscapeReads.j1, e1, e2]
    rw [if_neg (by simp), if_neg h0, if_true, if_true, if_pos (by rw [Lib.toList_data])]
    rfl
end Go.Proofs.YtknmbalhbecdhaaDoor.Pure
