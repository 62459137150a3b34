/- Plain: the law LineEqual holds of the printed functions. -/
import Derived.Test.YtknmbalhbecdhaaDoorPrint6
import Derived.Test.YtknmbalhbecdhaaDoorPrint5
import Derived.Test.YtknmbalhbecdhaaDoorPrint4
import Derived.Lib.SmallJoins
set_option linter.unusedVariables false
set_option linter.unusedSimpArgs false
set_option linter.unusedSectionVars false
namespace Go.Proofs.YtknmbalhbecdhaaDoor.Pure
open Go.RowKit Go.Proofs.YtknmbalhbecdhaaDoor.Print Go.Proofs.YtknmbalhbecdhaaDoorW.PrintWords Go.Proofs.YtknmbalhbecdhaaDoorW.PrintLast Go.Proofs.YtknmbalhbecdhaaDoorW.PrintMore

abbrev RP := S52
abbrev LP := S83
def toP (x : RP) : LP := ⟨x.f0, x.f1⟩
theorem wrapS (i n : Nat) (h : i < n) (hn : n ≤ 9000000000000000000) : wrap64 ((i : Int) + 1) = ((i + 1 : Nat) : Int) := by unfold wrap64; omega
theorem rdR (l : List RP) (i : Nat) (h : i < l.length) : rd_T52 l (i : Int) = l[i] := by
  unfold rd_T52
  rw [Int.toNat_natCast, List.getD_eq_getElem?_getD, List.getElem?_eq_getElem h]; rfl
theorem few1_ev (nm v : ByteArray) (l : List RP) (i : Nat) (hi : i < l.length) (hl : l.length ≤ 9000000000000000000) (hv : l[i].f1.length ≤ 9000000000000000000)
    (next : ∀ x3 : Int, ∃ b, Ev (fun k => trystlaw10_Few.l0 k x3 (l.length : Int) ((i + 1 : Nat) : Int) nm l v) b) :
    ∀ (d j : Nat) (x3 : Int), j + d = l[i].f1.length → ∃ b, Ev (fun k => trystlaw10_Few.l1 k x3 (i : Int) (l.length : Int) (i : Int) (l[i].f1.length : Int) (j : Int) nm l v) b := by
  intro d
  induction d with
  | zero =>
    intro j x3 hj
    by_cases h5 : x3 > 5000
    · exact ⟨false, Ev.step (f := fun _ => some false) (fun k => by simp only [trystlaw10_Few.l1]; rw [if_neg (by omega), if_pos h5]) (Ev.now _)⟩
    · obtain ⟨b, hb⟩ := next x3
      exact ⟨b, Ev.step (fun k => by simp only [trystlaw10_Few.l1]; rw [if_neg (by omega), if_neg h5, wrapS i _ hi hl]) hb⟩
  | succ d ih =>
    intro j x3 hj
    obtain ⟨b, hb⟩ := ih (j + 1) (wrap64 ((wrap64 (x3 + ((rdOf ByteArray.empty (l[i].f1) (j : Int)).size : Int))) + 1)) (by omega)
    exact ⟨b, Ev.step (fun k => by simp only [trystlaw10_Few.l1]; rw [if_pos (by omega), if_pos (by omega), if_pos (by omega), if_pos (by omega), rdR l i hi, if_pos (by omega), wrapS j _ (by omega) hv]) hb⟩
theorem few_ev (nm v : ByteArray) (l : List RP) (hl : l.length ≤ 9000000000000000000) (hv : ∀ x ∈ l, x.f1.length ≤ 9000000000000000000) :
    ∀ (d i : Nat) (x3 : Int), i + d = l.length → ∃ b, Ev (fun k => trystlaw10_Few.l0 k x3 (l.length : Int) (i : Int) nm l v) b := by
  intro d
  induction d with
  | zero =>
    intro i x3 hi
    exact ⟨_, Ev.step (f := fun _ => some (decide (x3 ≤ 5000))) (fun k => by simp only [trystlaw10_Few.l0]; rw [if_neg (by omega)]) (Ev.now _)⟩
  | succ d ih =>
    intro i x3 hi
    have hil : i < l.length := by omega
    obtain ⟨b, hb⟩ := few1_ev nm v l i hil hl (hv _ (List.getElem_mem hil)) (fun x => ih (i + 1) x (by omega)) l[i].f1.length 0 (wrap64 ((wrap64 (x3 + (l[i].f0.size : Int))) + 1)) (by omega)
    exact ⟨b, Ev.step (fun k => by simp only [trystlaw10_Few.l0]; rw [if_pos (by omega), if_pos (by omega), if_pos (by omega), rdR l i hil]; rfl) hb⟩
theorem theirs_ev (nm v : ByteArray) (l : List RP) (hl : l.length < 3518437208883) (hv : ∀ x ∈ l, x.f1.length < 8796093022208) :
    ∀ (d i : Nat) (acc : List LP), i + d = l.length → acc.length = i → Ev (fun k => trystlaw10_Theirs.l0 k (l.length : Int) (i : Int) nm l v nm acc v) (nm, acc ++ (l.drop i).map toP, v) := by
  intro d
  induction d with
  | zero =>
    intro i acc hi ha
    rw [List.drop_eq_nil_of_le (by omega), List.map_nil, List.append_nil]
    exact Ev.step (f := fun _ => some (nm, acc, v)) (fun k => by simp only [trystlaw10_Theirs.l0]; rw [if_neg (by omega)]) (Ev.now _)
  | succ d ih =>
    intro i acc hi ha
    have hil : i < l.length := by omega
    have h1 := hv _ (List.getElem_mem hil)
    have := ih (i + 1) (acc ++ [toP l[i]]) (by omega) (by simp [ha])
    rw [List.drop_eq_getElem_cons hil, List.map_cons, List.append_cons]
    refine Ev.step (fun k => ?_) this
    simp only [trystlaw10_Theirs.l0]
    rw [if_pos (by omega), if_pos (by omega), if_pos (by omega), Option.bind_some, rdR l i hil, if_pos (by simpa using h1), if_pos (by omega), wrapS i _ hil (by omega), List.nil_append]
    rfl
theorem theirs (nm v : ByteArray) (l : List RP) (hl : l.length < 3518437208883) (hv : ∀ x ∈ l, x.f1.length < 8796093022208) : Ev (fun k => trystlaw10_Theirs.f k nm l v) (nm, l.map toP, v) := by
  have := theirs_ev nm v l hl hv l.length 0 [] (by omega) rfl
  rw [List.nil_append, List.drop_zero] at this
  exact this
theorem toList_ba {a b : ByteArray} : a.toList = b.toList ↔ a = b := ⟨ba_toList, fun h => by rw [h]⟩
theorem rdS (l : List ByteArray) (i : Nat) (h : i < l.length) : rdOf ByteArray.empty l (i : Int) = l[i] := by
  unfold rdOf
  rw [Int.toNat_natCast, List.getD_eq_getElem?_getD, List.getElem?_eq_getElem h]; rfl
theorem same08_ev (x y : List ByteArray) (hxy : x.length = y.length) (hl : x.length ≤ 9000000000000000000) :
    ∀ (d i : Nat), i + d = x.length → Ev (fun k => trystlaw08_Same.l0 k x y (x.length : Int) (i : Int)) (decide (x.drop i = y.drop i)) := by
  intro d
  induction d with
  | zero =>
    intro i hi
    rw [List.drop_eq_nil_of_le (by omega), List.drop_eq_nil_of_le (by omega)]
    exact Ev.step (f := fun _ => some true) (fun k => by simp only [trystlaw08_Same.l0]; rw [if_neg (by omega)]) (Ev.now _)
  | succ d ih =>
    intro i hi
    have hx : i < x.length := by omega
    have hy : i < y.length := by omega
    rw [List.drop_eq_getElem_cons hx, List.drop_eq_getElem_cons hy]
    by_cases h : x[i] = y[i]
    · have e : decide (x[i] :: x.drop (i + 1) = y[i] :: y.drop (i + 1)) = decide (x.drop (i + 1) = y.drop (i + 1)) := decide_eq_decide.2 ⟨fun he => (List.cons.inj he).2, fun he => by rw [h, he]⟩
      rw [e]
      exact Ev.step (fun k => by simp only [trystlaw08_Same.l0]; rw [if_pos (by omega), if_pos (by omega), if_pos (by omega), if_pos (by omega), rdS x i hx, rdS y i hy, if_pos (by rw [h]), wrapS i _ hx hl]) (ih (i + 1) (by omega))
    · have e : decide (x[i] :: x.drop (i + 1) = y[i] :: y.drop (i + 1)) = false := decide_eq_false (fun he => h (List.cons.inj he).1)
      rw [e]
      exact Ev.step (f := fun _ => some false) (fun k => by simp only [trystlaw08_Same.l0]; rw [if_pos (by omega), if_pos (by omega), if_pos (by omega), if_pos (by omega), rdS x i hx, rdS y i hy, if_neg (fun he => h (toList_ba.1 he))]) (Ev.now _)
theorem same08 (x y : List ByteArray) (hl : x.length ≤ 9000000000000000000) : Ev (fun k => trystlaw08_Same.f k x y) (decide (x = y)) := by
  by_cases h : x.length = y.length
  · have := same08_ev x y h hl x.length 0 (by omega)
    rw [List.drop_zero, List.drop_zero] at this
    exact Ev.congr (fun k => by unfold trystlaw08_Same.f; rw [if_pos (by omega)]; rfl) this
  · rw [decide_eq_false (fun e => h (by rw [e]))]
    exact Ev.congr (fun k => by unfold trystlaw08_Same.f; rw [if_neg (by omega)]) (Ev.now _)
theorem eqPs_drop (x y : List RP) (i : Nat) (hx : i < x.length) (hy : i < y.length) : eqPs ((x.drop i).map toP) ((y.drop i).map toP) = (decide (x[i].f0 = y[i].f0) && decide (x[i].f1 = y[i].f1) && eqPs ((x.drop (i + 1)).map toP) ((y.drop (i + 1)).map toP)) := by
  rw [List.drop_eq_getElem_cons hx, List.drop_eq_getElem_cons hy, List.map_cons, List.map_cons]
  rfl
theorem same10_ev (a v b u : ByteArray) (x y : List RP) (hxy : x.length = y.length) (hl : x.length ≤ 9000000000000000000) (hv : ∀ p ∈ x, p.f1.length ≤ 9000000000000000000) :
    ∀ (d i : Nat), i + d = x.length → Ev (fun k => trystlaw10_Same.l0 k (x.length : Int) (i : Int) a x v b y u) (eqPs ((x.drop i).map toP) ((y.drop i).map toP)) := by
  intro d
  induction d with
  | zero =>
    intro i hi
    rw [List.drop_eq_nil_of_le (by omega), List.drop_eq_nil_of_le (by omega)]
    exact Ev.step (f := fun _ => some true) (fun k => by simp only [trystlaw10_Same.l0]; rw [if_neg (by omega)]) (Ev.now _)
  | succ d ih =>
    intro i hi
    have hx : i < x.length := by omega
    have hy : i < y.length := by omega
    rw [eqPs_drop x y i hx hy]
    by_cases h : x[i].f0 = y[i].f0
    · rw [decide_eq_true h, Bool.true_and]
      refine Ev.step (f := fun k => (trystlaw08_Same.f k x[i].f1 y[i].f1).bind fun t => if t = true then trystlaw10_Same.l0 k (x.length : Int) ((i + 1 : Nat) : Int) a x v b y u else some false) (fun k => by simp only [trystlaw10_Same.l0]; rw [if_pos (by omega), if_pos (by omega), if_pos (by omega), if_pos (by omega), rdR x i hx, rdR y i hy, if_pos (by rw [h]), wrapS i _ hx hl]) ?_
      refine Ev.bind (same08 _ _ (hv _ (List.getElem_mem hx))) ?_
      by_cases h2 : x[i].f1 = y[i].f1
      · rw [decide_eq_true h2]; exact ih (i + 1) (by omega)
      · rw [decide_eq_false h2]; exact Ev.now _
    · rw [decide_eq_false h, Bool.false_and]
      exact Ev.step (f := fun _ => some false) (fun k => by simp only [trystlaw10_Same.l0]; rw [if_pos (by omega), if_pos (by omega), if_pos (by omega), if_pos (by omega), rdR x i hx, rdR y i hy, if_neg (fun he => h (toList_ba.1 he))]) (Ev.now _)
theorem same10 (a v b u : ByteArray) (x y : List RP) (hl : x.length ≤ 9000000000000000000) (hv : ∀ p ∈ x, p.f1.length ≤ 9000000000000000000) : Ev (fun k => trystlaw10_Same.f k a x v b y u) (eqL a (x.map toP) v b (y.map toP) u) := by
  unfold eqL
  have hno : Ev (fun k : Nat => trystlaw10_Same.j0 k true a x v b y u) false := Ev.step (f := fun _ => some false) (fun k => by simp only [trystlaw10_Same.j0]; rfl) (Ev.now _)
  by_cases h1 : a = b
  · by_cases h2 : v = u
    · rw [decide_eq_true h1, decide_eq_true h2, Bool.true_and, Bool.true_and]
      refine Ev.congr (f := fun k => trystlaw10_Same.j0 k ((x.length : Int) != (y.length : Int)) a x v b y u) (fun k => by unfold trystlaw10_Same.f; rw [if_pos (by rw [h1]), if_pos (by rw [h2])]) ?_
      by_cases h3 : x.length = y.length
      · have e : ((x.length : Int) != (y.length : Int)) = false := by simp [h3]
        rw [e]
        have := same10_ev a v b u x y h3 hl hv x.length 0 (by omega)
        rw [List.drop_zero, List.drop_zero] at this
        exact Ev.step (fun k => by simp only [trystlaw10_Same.j0]; rfl) this
      · have e : ((x.length : Int) != (y.length : Int)) = true := by simp; omega
        rw [e, eqPs_len _ _ (by simpa using h3)]
        exact hno
    · rw [decide_eq_false h2, Bool.and_false, Bool.false_and]
      exact Ev.congr (fun k => by unfold trystlaw10_Same.f; rw [if_pos (by rw [h1]), if_neg (fun e => h2 (toList_ba.1 e))]) hno
  · rw [decide_eq_false h1, Bool.false_and, Bool.false_and]
    exact Ev.congr (fun k => by unfold trystlaw10_Same.f; rw [if_neg (fun e => h1 (toList_ba.1 e))]) hno
/-! ### the first value of a parameter -/
def findR (a : ByteArray) : List RP → ByteArray × Bool
  | [] => (⟨#[]⟩, false)
  | p :: t => if p.f0 = a then (if p.f1 = [] then (⟨#[]⟩, false) else (p.f1.headD ByteArray.empty, true)) else findR a t
theorem idx_find (a : ByteArray) (l : List RP) : ∀ (d i : Nat), i + d = l.length → (idxN a ((l.drop i).map toP) i = -1 ∧ (∀ p ∈ l.drop i, p.f0 ≠ a)) ∨ ∃ j, ∃ h : j < l.length, i ≤ j ∧ idxN a ((l.drop i).map toP) i = (j : Int) ∧ l[j].f0 = a ∧ findR a (l.drop i) = findR a (l.drop j) := by
  intro d
  induction d with
  | zero => intro i hi; rw [List.drop_eq_nil_of_le (by omega)]; exact .inl ⟨rfl, fun p hp => by simp at hp⟩
  | succ d ih =>
    intro i hi
    have hil : i < l.length := by omega
    rw [List.drop_eq_getElem_cons hil, List.map_cons]
    by_cases h : l[i].f0 = a
    · have hh : hasN a (toP l[i]) = true := decide_eq_true h
      exact .inr ⟨i, hil, Nat.le_refl _, by rw [idxN, if_pos hh], h, by rw [List.drop_eq_getElem_cons hil]⟩
    · have hh : ¬ hasN a (toP l[i]) = true := fun e => h (of_decide_eq_true e)
      rcases ih (i + 1) (by omega) with ⟨h1, h2⟩ | ⟨j, hj, h1, h2, h3, h4⟩
      · exact .inl ⟨by rw [idxN, if_neg hh]; exact h1, fun p hp => by rcases List.mem_cons.1 hp with rfl | hp; exact h; exact h2 p hp⟩
      · exact .inr ⟨j, hj, by omega, by rw [idxN, if_neg hh]; exact h2, h3, by rw [findR, if_neg h]; exact h4⟩
theorem find_none (a : ByteArray) : ∀ l : List RP, (∀ p ∈ l, p.f0 ≠ a) → findR a l = (⟨#[]⟩, false)
  | [], _ => rfl
  | p :: t, h => by rw [findR, if_neg (h p List.mem_cons_self)]; exact find_none a t (fun q hq => h q (List.mem_cons_of_mem _ hq))
theorem find_f (nm v a : ByteArray) (l : List RP) : line_Find.f nm (l.map toP) v a = some (findR a l) := by
  have := idx_find a l l.length 0 (by omega)
  rw [List.drop_zero] at this
  unfold line_Find.f line_at.f
  rw [Option.bind_some]
  rcases this with ⟨h1, h2⟩ | ⟨j, hj, h1, h2, h3, h4⟩
  · rw [show ((0 : Nat)) = 0 from rfl] at h1
    rw [h1, if_pos (by omega), find_none a l h2]
  · rw [h2, if_neg (by omega), if_pos (by omega), if_pos (by rw [List.length_map]; omega)]
    have e : rd_T83 (l.map toP) (j : Int) = toP l[j] := by
      unfold rd_T83
      rw [Int.toNat_natCast, List.getD_eq_getElem?_getD, List.getElem?_map, List.getElem?_eq_getElem hj]; rfl
    rw [e, h4, List.drop_eq_getElem_cons hj, findR, if_pos h3]
    show (if ((l[j].f1.length : Nat) : Int) = 0 then _ else if (0 : Int) < ((l[j].f1.length : Nat) : Int) then some (rdOf ByteArray.empty l[j].f1 0, true) else none) = _
    cases hf : l[j].f1 with
    | nil => rfl
    | cons x t =>
      rw [if_neg (by rw [List.length_cons]; omega), if_pos (by rw [List.length_cons]; omega), if_neg (by simp)]
      rfl
theorem loop_ev (a nm v : ByteArray) (l : List RP) (hl : l.length ≤ 9000000000000000000) (R : ByteArray × Bool) :
    ∀ (d i : Nat), i + d = l.length → R = findR a (l.drop i) → Ev (fun k => trystlaw10_LineEqual.l0 k a R.1 R.2 (l.length : Int) (i : Int) nm l v) true := by
  intro d
  induction d with
  | zero =>
    intro i hi hR
    rw [List.drop_eq_nil_of_le (by omega)] at hR
    subst hR
    refine Ev.step (f := fun _ => some true) (fun k => ?_) (Ev.now _)
    simp only [trystlaw10_LineEqual.l0]
    rw [if_neg (by omega), if_neg (by simp [findR]), findR, Go.ByteArray.toList_eq]
    rfl
  | succ d ih =>
    intro i hi hR
    have hil : i < l.length := by omega
    rw [List.drop_eq_getElem_cons hil, findR] at hR
    by_cases h : l[i].f0 = a
    · rw [if_pos h] at hR
      refine Ev.step (f := fun _ => some true) (fun k => ?_) (Ev.now _)
      simp only [trystlaw10_LineEqual.l0]
      rw [if_pos (by omega), if_pos (by omega), if_pos (by omega), rdR l i hil, if_pos (by rw [h])]
      cases hf : l[i].f1 with
      | nil =>
        rw [hf, if_pos rfl] at hR
        subst hR
        rw [if_pos (by rfl), if_neg (by simp)]
      | cons x t =>
        rw [hf, if_neg (by simp)] at hR
        subst hR
        rw [if_pos (by simp), if_pos (by rw [List.length_cons]; omega), if_pos (by rw [List.length_cons]; omega)]
        show some (x.toList == x.toList) = some true
        rw [beq_self_eq_true]
    · rw [if_neg h] at hR
      exact Ev.step (fun k => by simp only [trystlaw10_LineEqual.l0]; rw [if_pos (by omega), if_pos (by omega), if_pos (by omega), rdR l i hil, if_neg (fun e => h (toList_ba.1 e)), wrapS i _ hil hl]) (ih (i + 1) (by omega) hR)
theorem eqPs_self : ∀ l : List LP, eqPs l l = true
  | [] => rfl
  | p :: t => by unfold eqPs eqP; simp [eqPs_self t]
theorem awake10 : Ev (fun k => trystlaw10_awake.f k) true := Ev.of (k := 40) (fun k => trystlaw10_awake.mono k) (by decide +kernel)
theorem lineEqual_pure (a : ByteArray) (x : List RP) (v b : ByteArray) (y : List RP) (u n : ByteArray) (hx : x.length < 3518437208883) (hy : y.length < 3518437208883) (hxv : ∀ p ∈ x, p.f1.length < 8796093022208) (hyv : ∀ p ∈ y, p.f1.length < 8796093022208) :
    ∃ k, trystlaw10_LineEqual.f k a x v b y u n = some true := by
  have hxv2 : ∀ p ∈ x, p.f1.length ≤ 9000000000000000000 := fun p hp => by have := hxv p hp; omega
  have hyv2 : ∀ p ∈ y, p.f1.length ≤ 9000000000000000000 := fun p hp => by have := hyv p hp; omega
  obtain ⟨fa, hfa⟩ := few_ev a v x (by omega) hxv2 x.length 0 (wrap64 ((a.size : Int) + (v.size : Int))) (by omega)
  obtain ⟨fb, hfb⟩ := few_ev b u y (by omega) hyv2 y.length 0 (wrap64 ((b.size : Int) + (u.size : Int))) (by omega)
  have hj1 : Ev (fun k => trystlaw10_LineEqual.j1 k n false a x v) true := by
    refine Ev.step (f := fun k => (trystlaw10_Theirs.f k a x v).bind fun bt => (line_Find.f bt.1 bt.2.1 bt.2.2 n).bind fun q => trystlaw10_LineEqual.l0 k n q.1 q.2 (x.length : Int) 0 a x v) (fun k => by simp only [trystlaw10_LineEqual.j1]; rfl) ?_
    refine Ev.bind (theirs a v x hx hxv) ?_
    refine Ev.congr (f := fun k => trystlaw10_LineEqual.l0 k n (findR n x).1 (findR n x).2 (x.length : Int) ((0 : Nat) : Int) a x v) (fun k => by rw [find_f, Option.bind_some]; rfl) ?_
    exact loop_ev n a v x (by omega) _ x.length 0 (by omega) (by rw [List.drop_zero])
  have hno : Ev (fun k => trystlaw10_LineEqual.j0 k n true a x v b y u) true :=
    Ev.step (f := fun k => (trystlaw10_awake.f k).bind fun t => some t) (fun k => by simp only [trystlaw10_LineEqual.j0]; rfl) (Ev.bind awake10 (Ev.now _))
  have hyes : Ev (fun k => trystlaw10_LineEqual.j0 k n false a x v b y u) true := by
    refine Ev.step (f := fun k => (trystlaw10_Theirs.f k a x v).bind fun p => (trystlaw10_Theirs.f k b y u).bind fun q => (line_Equal.f p.1 p.2.1 p.2.2 q.1 q.2.1 q.2.2).bind fun s => (trystlaw10_Same.f k a x v b y u).bind fun t => if (s != t) = true then trystlaw10_LineEqual.j1 k n true a x v else (trystlaw10_Theirs.f k a x v).bind fun p => (trystlaw10_Theirs.f k a x v).bind fun q => (line_Equal.f p.1 p.2.1 p.2.2 q.1 q.2.1 q.2.2).bind fun r => trystlaw10_LineEqual.j1 k n (!r) a x v) (fun k => by simp only [trystlaw10_LineEqual.j0]; rfl) ?_
    refine Ev.bind (theirs a v x hx hxv) ?_
    refine Ev.bind (theirs b u y hy hyv) ?_
    refine Ev.congr (f := fun k => (trystlaw10_Same.f k a x v b y u).bind fun t => if (eqL a (x.map toP) v b (y.map toP) u != t) = true then trystlaw10_LineEqual.j1 k n true a x v else (trystlaw10_Theirs.f k a x v).bind fun p => (trystlaw10_Theirs.f k a x v).bind fun q => (line_Equal.f p.1 p.2.1 p.2.2 q.1 q.2.1 q.2.2).bind fun r => trystlaw10_LineEqual.j1 k n (!r) a x v) (fun k => by unfold line_Equal.f; rw [Option.bind_some]) ?_
    refine Ev.bind (same10 a v b u x y (by omega) hxv2) ?_
    refine Ev.congr (f := fun k => (trystlaw10_Theirs.f k a x v).bind fun p => (trystlaw10_Theirs.f k a x v).bind fun q => (line_Equal.f p.1 p.2.1 p.2.2 q.1 q.2.1 q.2.2).bind fun r => trystlaw10_LineEqual.j1 k n (!r) a x v) (fun k => by rw [if_neg (by simp)]) ?_
    refine Ev.bind (theirs a v x hx hxv) ?_
    refine Ev.bind (theirs a v x hx hxv) ?_
    have e : eqL a (x.map toP) v a (x.map toP) v = true := by unfold eqL; rw [eqPs_self]; simp
    refine Ev.congr (f := fun k => trystlaw10_LineEqual.j1 k n false a x v) (fun k => by unfold line_Equal.f; rw [Option.bind_some, e]; rfl) hj1
  refine Ev.rounds (r := true) ?_
  refine Ev.bind awake10 ?_
  refine Ev.congr (f := fun k => (trystlaw10_Few.f k a x v).bind fun t => if t = true then (trystlaw10_Few.f k b y u).bind fun s => trystlaw10_LineEqual.j0 k n (!s) a x v b y u else trystlaw10_LineEqual.j0 k n true a x v b y u) (fun k => by rw [if_pos rfl]) ?_
  refine Ev.bind hfa ?_
  cases fa with
  | false => exact Ev.congr (fun k => by rw [if_neg (by simp)]) hno
  | true =>
    refine Ev.congr (f := fun k => (trystlaw10_Few.f k b y u).bind fun s => trystlaw10_LineEqual.j0 k n (!s) a x v b y u) (fun k => by rw [if_pos rfl]) ?_
    refine Ev.bind hfb ?_
    cases fb with
    | false => exact hno
    | true => exact hyes
end Go.Proofs.YtknmbalhbecdhaaDoor.Pure
