-- Written by xprint.py (a program of this claim's session) out of the translation. Lean checks it.
import Derived.Test.YtknmbalhbecdhaaDoorPrint0
import Derived.Test.YtknmbalhbecdhaaDoorPrint4
namespace Go.Proofs.YtknmbalhbecdhaaDoor.Print
open Go.RowKit Go.Proofs.YtknmbalhbecdhaaDoorW.PrintWords Go.Proofs.YtknmbalhbecdhaaDoorW.PrintLast Go.Proofs.YtknmbalhbecdhaaDoorW.PrintMore
attribute [local go_sem] max2_int min2_int max_two min_two max_three min_three max_four min_four   -- for this text's walks alone
set_option linter.unusedVariables false
set_option linter.unusedSimpArgs false

/-! ### trystref08_Value: function 20 -/
mutual
def trystref08_Value.j0 : Nat → ByteArray → Bool → Option (ByteArray × Int)
  | 0, _, _ => none
  | k + 1, x0, x23 => if x23 = true then (trystref08_Value.l0 k x0 1) else (trystref08_Value.l1 k x0 (x0.size : Int) 0)
def trystref08_Value.j3 : Nat → ByteArray → Option (ByteArray × Int)
  | 0, _ => none
  | k + 1, x0 => trystref08_Value.l2 k x0 ([] : List Int) 0
def trystref08_Value.l2 : Nat → ByteArray → List Int → Int → Option (ByteArray × Int)
  | 0, _, _, _ => none
  | k + 1, x0, x7, x8 => if x8 < (x0.size : Int) then (if 0 ≤ x8 then (if (bt x0 x8) = 94 then (trystref08_Value.j5 k x0 x7 x8 (bt x0 x8) (decide ((wrap64 (x8 + 1)) < (x0.size : Int)))) else (trystref08_Value.j5 k x0 x7 x8 (bt x0 x8) false)) else (none)) else (some (strOfNums x7, 0))
def trystref08_Value.j5 : Nat → ByteArray → List Int → Int → Int → Bool → Option (ByteArray × Int)
  | 0, _, _, _, _, _ => none
  | k + 1, x0, x7, x8, x9, x96 => if x96 = true then (if 0 ≤ (wrap64 (x8 + 1)) then (if (wrap64 (x8 + 1)) < (x0.size : Int) then (if (bt x0 (wrap64 (x8 + 1))) = 110 then (trystref08_Value.j6 k x0 x7 x8 10 (bt x0 (wrap64 (x8 + 1)))) else (trystref08_Value.j6 k x0 x7 x8 x9 (bt x0 (wrap64 (x8 + 1))))) else (none)) else (none)) else (if x7.length < 140737488355328 then (trystref08_Value.l2 k x0 (x7 ++ [x9]) (wrap64 (x8 + 1))) else (none))
def trystref08_Value.j6 : Nat → ByteArray → List Int → Int → Int → Int → Option (ByteArray × Int)
  | 0, _, _, _, _, _ => none
  | k + 1, x0, x7, x8, x9, x10 => if x10 = 39 then (if x10 = 110 then (if x7.length < 140737488355328 then (trystref08_Value.l2 k x0 (x7 ++ [34]) (wrap64 ((wrap64 (x8 + 1)) + 1))) else (none)) else (if x7.length < 140737488355328 then (trystref08_Value.l2 k x0 (x7 ++ [34]) (wrap64 ((wrap64 (x8 + 1)) + 1))) else (none))) else (if x10 = 110 then (if x7.length < 140737488355328 then (trystref08_Value.l2 k x0 (x7 ++ [x9]) (wrap64 ((wrap64 (x8 + 1)) + 1))) else (none)) else (if x10 = 94 then (if x7.length < 140737488355328 then (trystref08_Value.l2 k x0 (x7 ++ [x9]) (wrap64 ((wrap64 (x8 + 1)) + 1))) else (none)) else (if x7.length < 140737488355328 then (trystref08_Value.l2 k x0 (x7 ++ [x9]) (wrap64 (x8 + 1))) else (none))))
def trystref08_Value.l0 : Nat → ByteArray → Int → Option (ByteArray × Int)
  | 0, _, _ => none
  | k + 1, x0, x5 => if x5 < (wrap64 ((x0.size : Int) - 1)) then (if 0 ≤ x5 then (if x5 < (x0.size : Int) then (if (bt x0 x5) = 34 then (some ((⟨#[]⟩ : ByteArray), 7)) else (trystref08_Value.l0 k x0 (wrap64 (x5 + 1)))) else (none)) else (none)) else (if (x0.size : Int) < 2 then (some ((⟨#[]⟩ : ByteArray), 7)) else (if 0 ≤ (wrap64 ((x0.size : Int) - 1)) then (if (wrap64 ((x0.size : Int) - 1)) < (x0.size : Int) then (if (bt x0 (wrap64 ((x0.size : Int) - 1))) = 34 then (if 1 ≤ (wrap64 ((x0.size : Int) - 1)) then (if (wrap64 ((x0.size : Int) - 1)) ≤ (x0.size : Int) then (trystref08_Value.j3 k (x0.extract 1 ((wrap64 ((x0.size : Int) - 1)) : Int).toNat)) else (none)) else (none)) else (some ((⟨#[]⟩ : ByteArray), 7))) else (none)) else (none)))
def trystref08_Value.l1 : Nat → ByteArray → Int → Int → Option (ByteArray × Int)
  | 0, _, _, _ => none
  | k + 1, x0, x52, x53 => if x53 < x52 then (if 0 ≤ x53 then (if x53 < (x0.size : Int) then (if (bt x0 x53) = 34 then (some ((⟨#[]⟩ : ByteArray), 7)) else (if (bt x0 x53) = 58 then (some ((⟨#[]⟩ : ByteArray), 7)) else (if (bt x0 x53) = 59 then (some ((⟨#[]⟩ : ByteArray), 7)) else (if (bt x0 x53) = 44 then (some ((⟨#[]⟩ : ByteArray), 7)) else (trystref08_Value.l1 k x0 x52 (wrap64 (x53 + 1))))))) else (none)) else (none)) else (trystref08_Value.j3 k x0)
end
def trystref08_Value.f (k : Nat) (a0 : ByteArray) : Option (ByteArray × Int) := (trystref08_Clean.f k a0 false).bind fun t170 => (if t170 = 0 then (if (a0.size : Int) > 0 then (if 0 < (a0.size : Int) then (trystref08_Value.j0 k a0 ((bt a0 0) == 34)) else (none)) else (trystref08_Value.j0 k a0 false)) else (some ((⟨#[]⟩ : ByteArray), t170)))
theorem trystref08_Value.mono_l : ∀ k, (∀ y0 y1, LeO (trystref08_Value.j0 k y0 y1) (trystref08_Value.j0 (k + 1) y0 y1)) ∧ (∀ y0, LeO (trystref08_Value.j3 k y0) (trystref08_Value.j3 (k + 1) y0)) ∧ (∀ y0 y1 y2, LeO (trystref08_Value.l2 k y0 y1 y2) (trystref08_Value.l2 (k + 1) y0 y1 y2)) ∧ (∀ y0 y1 y2 y3 y4, LeO (trystref08_Value.j5 k y0 y1 y2 y3 y4) (trystref08_Value.j5 (k + 1) y0 y1 y2 y3 y4)) ∧ (∀ y0 y1 y2 y3 y4, LeO (trystref08_Value.j6 k y0 y1 y2 y3 y4) (trystref08_Value.j6 (k + 1) y0 y1 y2 y3 y4)) ∧ (∀ y0 y1, LeO (trystref08_Value.l0 k y0 y1) (trystref08_Value.l0 (k + 1) y0 y1)) ∧ (∀ y0 y1 y2, LeO (trystref08_Value.l1 k y0 y1 y2) (trystref08_Value.l1 (k + 1) y0 y1 y2))
  | 0 => ⟨fun _ _ r h => by simp [trystref08_Value.j0] at h, fun _ r h => by simp [trystref08_Value.j3] at h, fun _ _ _ r h => by simp [trystref08_Value.l2] at h, fun _ _ _ _ _ r h => by simp [trystref08_Value.j5] at h, fun _ _ _ _ _ r h => by simp [trystref08_Value.j6] at h, fun _ _ r h => by simp [trystref08_Value.l0] at h, fun _ _ _ r h => by simp [trystref08_Value.l1] at h⟩
  | k + 1 => by
    obtain ⟨ih0, ih1, ih2, ih3, ih4, ih5, ih6⟩ := trystref08_Value.mono_l k
    refine ⟨?_, ?_, ?_, ?_, ?_, ?_, ?_⟩
    · intro y0 y1
      unfold trystref08_Value.j0
      repeat' first
      | (with_reducible exact ih0 _ _)
      | (with_reducible exact ih1 _)
      | (with_reducible exact ih2 _ _ _)
      | (with_reducible exact ih3 _ _ _ _ _)
      | (with_reducible exact ih4 _ _ _ _ _)
      | (with_reducible exact ih5 _ _)
      | (with_reducible exact ih6 _ _ _)
      | (with_reducible exact trystref08_Clean.mono _ _ _)
      | (with_reducible exact LeO.refl _)
      | (with_reducible exact LeO.none _)
      | (with_reducible refine LeO.ite ?_ ?_)
      | (with_reducible refine LeO.bind ?_ (fun _ => ?_))
      | exact ih0 _ _
      | exact ih1 _
      | exact ih2 _ _ _
      | exact ih3 _ _ _ _ _
      | exact ih4 _ _ _ _ _
      | exact ih5 _ _
      | exact ih6 _ _ _
      | exact trystref08_Clean.mono _ _ _
      | exact LeO.none _
      | refine LeO.ite ?_ ?_
      | refine LeO.bind ?_ (fun _ => ?_)
    · intro y0
      unfold trystref08_Value.j3
      repeat' first
      | (with_reducible exact ih0 _ _)
      | (with_reducible exact ih1 _)
      | (with_reducible exact ih2 _ _ _)
      | (with_reducible exact ih3 _ _ _ _ _)
      | (with_reducible exact ih4 _ _ _ _ _)
      | (with_reducible exact ih5 _ _)
      | (with_reducible exact ih6 _ _ _)
      | (with_reducible exact trystref08_Clean.mono _ _ _)
      | (with_reducible exact LeO.refl _)
      | (with_reducible exact LeO.none _)
      | (with_reducible refine LeO.ite ?_ ?_)
      | (with_reducible refine LeO.bind ?_ (fun _ => ?_))
      | exact ih0 _ _
      | exact ih1 _
      | exact ih2 _ _ _
      | exact ih3 _ _ _ _ _
      | exact ih4 _ _ _ _ _
      | exact ih5 _ _
      | exact ih6 _ _ _
      | exact trystref08_Clean.mono _ _ _
      | exact LeO.none _
      | refine LeO.ite ?_ ?_
      | refine LeO.bind ?_ (fun _ => ?_)
    · intro y0 y1 y2
      unfold trystref08_Value.l2
      repeat' first
      | (with_reducible exact ih0 _ _)
      | (with_reducible exact ih1 _)
      | (with_reducible exact ih2 _ _ _)
      | (with_reducible exact ih3 _ _ _ _ _)
      | (with_reducible exact ih4 _ _ _ _ _)
      | (with_reducible exact ih5 _ _)
      | (with_reducible exact ih6 _ _ _)
      | (with_reducible exact trystref08_Clean.mono _ _ _)
      | (with_reducible exact LeO.refl _)
      | (with_reducible exact LeO.none _)
      | (with_reducible refine LeO.ite ?_ ?_)
      | (with_reducible refine LeO.bind ?_ (fun _ => ?_))
      | exact ih0 _ _
      | exact ih1 _
      | exact ih2 _ _ _
      | exact ih3 _ _ _ _ _
      | exact ih4 _ _ _ _ _
      | exact ih5 _ _
      | exact ih6 _ _ _
      | exact trystref08_Clean.mono _ _ _
      | exact LeO.none _
      | refine LeO.ite ?_ ?_
      | refine LeO.bind ?_ (fun _ => ?_)
    · intro y0 y1 y2 y3 y4
      unfold trystref08_Value.j5
      repeat' first
      | (with_reducible exact ih0 _ _)
      | (with_reducible exact ih1 _)
      | (with_reducible exact ih2 _ _ _)
      | (with_reducible exact ih3 _ _ _ _ _)
      | (with_reducible exact ih4 _ _ _ _ _)
      | (with_reducible exact ih5 _ _)
      | (with_reducible exact ih6 _ _ _)
      | (with_reducible exact trystref08_Clean.mono _ _ _)
      | (with_reducible exact LeO.refl _)
      | (with_reducible exact LeO.none _)
      | (with_reducible refine LeO.ite ?_ ?_)
      | (with_reducible refine LeO.bind ?_ (fun _ => ?_))
      | exact ih0 _ _
      | exact ih1 _
      | exact ih2 _ _ _
      | exact ih3 _ _ _ _ _
      | exact ih4 _ _ _ _ _
      | exact ih5 _ _
      | exact ih6 _ _ _
      | exact trystref08_Clean.mono _ _ _
      | exact LeO.none _
      | refine LeO.ite ?_ ?_
      | refine LeO.bind ?_ (fun _ => ?_)
    · intro y0 y1 y2 y3 y4
      unfold trystref08_Value.j6
      repeat' first
      | (with_reducible exact ih0 _ _)
      | (with_reducible exact ih1 _)
      | (with_reducible exact ih2 _ _ _)
      | (with_reducible exact ih3 _ _ _ _ _)
      | (with_reducible exact ih4 _ _ _ _ _)
      | (with_reducible exact ih5 _ _)
      | (with_reducible exact ih6 _ _ _)
      | (with_reducible exact trystref08_Clean.mono _ _ _)
      | (with_reducible exact LeO.refl _)
      | (with_reducible exact LeO.none _)
      | (with_reducible refine LeO.ite ?_ ?_)
      | (with_reducible refine LeO.bind ?_ (fun _ => ?_))
      | exact ih0 _ _
      | exact ih1 _
      | exact ih2 _ _ _
      | exact ih3 _ _ _ _ _
      | exact ih4 _ _ _ _ _
      | exact ih5 _ _
      | exact ih6 _ _ _
      | exact trystref08_Clean.mono _ _ _
      | exact LeO.none _
      | refine LeO.ite ?_ ?_
      | refine LeO.bind ?_ (fun _ => ?_)
    · intro y0 y1
      unfold trystref08_Value.l0
      repeat' first
      | (with_reducible exact ih0 _ _)
      | (with_reducible exact ih1 _)
      | (with_reducible exact ih2 _ _ _)
      | (with_reducible exact ih3 _ _ _ _ _)
      | (with_reducible exact ih4 _ _ _ _ _)
      | (with_reducible exact ih5 _ _)
      | (with_reducible exact ih6 _ _ _)
      | (with_reducible exact trystref08_Clean.mono _ _ _)
      | (with_reducible exact LeO.refl _)
      | (with_reducible exact LeO.none _)
      | (with_reducible refine LeO.ite ?_ ?_)
      | (with_reducible refine LeO.bind ?_ (fun _ => ?_))
      | exact ih0 _ _
      | exact ih1 _
      | exact ih2 _ _ _
      | exact ih3 _ _ _ _ _
      | exact ih4 _ _ _ _ _
      | exact ih5 _ _
      | exact ih6 _ _ _
      | exact trystref08_Clean.mono _ _ _
      | exact LeO.none _
      | refine LeO.ite ?_ ?_
      | refine LeO.bind ?_ (fun _ => ?_)
    · intro y0 y1 y2
      unfold trystref08_Value.l1
      repeat' first
      | (with_reducible exact ih0 _ _)
      | (with_reducible exact ih1 _)
      | (with_reducible exact ih2 _ _ _)
      | (with_reducible exact ih3 _ _ _ _ _)
      | (with_reducible exact ih4 _ _ _ _ _)
      | (with_reducible exact ih5 _ _)
      | (with_reducible exact ih6 _ _ _)
      | (with_reducible exact trystref08_Clean.mono _ _ _)
      | (with_reducible exact LeO.refl _)
      | (with_reducible exact LeO.none _)
      | (with_reducible refine LeO.ite ?_ ?_)
      | (with_reducible refine LeO.bind ?_ (fun _ => ?_))
      | exact ih0 _ _
      | exact ih1 _
      | exact ih2 _ _ _
      | exact ih3 _ _ _ _ _
      | exact ih4 _ _ _ _ _
      | exact ih5 _ _
      | exact ih6 _ _ _
      | exact trystref08_Clean.mono _ _ _
      | exact LeO.none _
      | refine LeO.ite ?_ ?_
      | refine LeO.bind ?_ (fun _ => ?_)
theorem trystref08_Value.mono : ∀ a0 k, LeO (trystref08_Value.f k a0) (trystref08_Value.f (k + 1) a0) := by
  intro a0 k
  obtain ⟨ih0, ih1, ih2, ih3, ih4, ih5, ih6⟩ := trystref08_Value.mono_l k
  unfold trystref08_Value.f
  repeat' first
      | (with_reducible exact ih0 _ _)
      | (with_reducible exact ih1 _)
      | (with_reducible exact ih2 _ _ _)
      | (with_reducible exact ih3 _ _ _ _ _)
      | (with_reducible exact ih4 _ _ _ _ _)
      | (with_reducible exact ih5 _ _)
      | (with_reducible exact ih6 _ _ _)
      | (with_reducible exact trystref08_Clean.mono _ _ _)
      | (with_reducible exact LeO.refl _)
      | (with_reducible exact LeO.none _)
      | (with_reducible refine LeO.ite ?_ ?_)
      | (with_reducible refine LeO.bind ?_ (fun _ => ?_))
      | exact ih0 _ _
      | exact ih1 _
      | exact ih2 _ _ _
      | exact ih3 _ _ _ _ _
      | exact ih4 _ _ _ _ _
      | exact ih5 _ _
      | exact ih6 _ _ _
      | exact trystref08_Clean.mono _ _ _
      | exact LeO.none _
      | refine LeO.ite ?_ ?_
      | refine LeO.bind ?_ (fun _ => ?_)
set_option maxHeartbeats 8000000 in
set_option maxRecDepth 100000 in
theorem trystref08_Value.calls (k : Nat) (a0 : ByteArray) (r1 : ByteArray) (r2 : Int) (w : World) (hG : GG w) (h : trystref08_Value.f k a0 = some (r1, r2)) :
    Calls Tryd.prog 20 #[.string a0] w fun e w' => e = .returned (.tuple #[.string r1, .int .i64 r2]) ∧ Below w.heap.size w w' := by
  have HB := Aside0.mk (Below.refl w.heap.size w)
  have H : ((trystref08_Clean.f k a0 false).bind fun t170 => (if t170 = 0 then (if (a0.size : Int) > 0 then (if 0 < (a0.size : Int) then (trystref08_Value.j0 k a0 ((bt a0 0) == 34)) else (none)) else (trystref08_Value.j0 k a0 false)) else (some ((⟨#[]⟩ : ByteArray), t170)))) = some (r1, r2) := h
  clear h
  replace H := Option.bind_eq_some_iff.mp H
  obtain ⟨t170, A20, H⟩ := H
  replace H : (if t170 = 0 then (if (a0.size : Int) > 0 then (if 0 < (a0.size : Int) then (trystref08_Value.j0 k a0 ((bt a0 0) == 34)) else (none)) else (trystref08_Value.j0 k a0 false)) else (some ((⟨#[]⟩ : ByteArray), t170))) = some (r1, r2) := H
  have A2 := Aside0.mk A20
  clear A20
  by_cases c3 : t170 = 0
  · rw [if_pos c3] at H
    have c3b0 : (t170 == 0) = true := beq_iff_eq.mpr c3
    have c3b1 : (t170 != 0) = false := bne_eq_false_iff_eq.mpr c3
    clear c3
    have HC4 := Aside0.mk H
    clear H
    go_enter Tryd.func20, Tryd.ntmps20
    go_upto_region 4 with (first | ((with_reducible refine gate_callee (f := 13) rfl ?_); refine goesL_ (some 12) rfl rfl Tryd.func13 (by kernel_rfl) rfl #[.string a0, .bool false] rfl (by (try simp only [List.map_toArray, List.map_cons, List.map_nil]); first | done | rfl | (simp only [List.length_drop, List.length_take]; rfl)) ?_; (with_reducible refine (trystref08_Clean.calls k a0 false t170 _ (by first | (with_reducible exact hG) | exact GG.below hG (by repeat (first | (with_reducible first | exact HB.out | apply below_alloc | apply pw_below_drewN | apply below_drew1) | exact HB.out))) A2.out).mono ?_); rintro e w' ⟨rfl, ⟨nd, rfl⟩⟩; refine ⟨_, rfl, ?_⟩))
    (try simp only [Act.put, List.setIfInBounds_toArray, List.set_cons_zero, List.set_cons_succ])
    go_cut [23] (fun v23 wc => ∃ (kq : Nat) (x23_3 : Bool), v23 = .bool x23_3 ∧ Aside0 (trystref08_Value.j0 kq a0 x23_3 = some (r1, r2)) ∧ Aside0 (kq ≤ k) ∧ Aside0 (Below w.heap.size w wc))
    case first =>
      have H := HC4.out
      clear HC4
      by_cases c5 : (a0.size : Int) > 0
      · rw [if_pos c5] at H
        have c5b0 : decide (0 < (a0.size : Int)) = true := decide_eq_true c5
        have c5b1 : decide (0 < a0.size) = true := decide_eq_true (by omega)
        clear c5
        (first | rw [c5b0] | (simp only [i64_w, i32_w]; rw [c5b0]) | skip)
        by_cases c6 : 0 < (a0.size : Int)
        · rw [if_pos c6] at H
          have c6b0 : decide (0 < (a0.size : Int)) = true := decide_eq_true c6
          have c6b1 : decide (0 < a0.size) = true := decide_eq_true (by omega)
          clear c6
          have H' := Aside0.mk H
          clear H
          have p7 : 0 ≤ (0 : Int) := (by omega)
          have q7 : 0 < a0.size := (by have : (0 : Int) < (a0.size : Int) := of_decide_eq_true (by first | (with_reducible assumption) | assumption); omega)
          have hx7 : ∀ h : 0 < a0.size, ((a0[0]'h).toNat : Int) = bt a0 0 := bt_at a0 0
          clear p7
          have qi7 : (0 < (a0.size : Int)) = True := eq_true (of_decide_eq_true (by first | (with_reducible assumption) | assumption))
          replace q7 := eq_true q7
          go_wp2
          go_meet
          case rel => exact ⟨_, (((bt a0 0) == 34)), (by first | rfl | (simp; done) | (simp [bne_nil_isEmpty, beq_nil_isEmpty]; done) | (simp [*]; done)), H', ⟨by first | omega | exact Nat.le_refl _⟩, ⟨by repeat (first | (with_reducible first | exact HB.out | apply below_alloc | apply pw_below_drewN | apply below_drew1) | exact HB.out)⟩⟩
        · rw [if_neg c6] at H
          exact absurd H (by simp)
      · rw [if_neg c5] at H
        have c5b0 : decide (0 < (a0.size : Int)) = false := decide_eq_false c5
        have c5b1 : decide (0 < a0.size) = false := decide_eq_false (by omega)
        clear c5
        (first | rw [c5b0] | (simp only [i64_w, i32_w]; rw [c5b0]) | skip)
        have H' := Aside0.mk H
        clear H
        go_wp2
        go_meet
        case rel => exact ⟨_, (false), (by first | rfl | (simp; done) | (simp [bne_nil_isEmpty, beq_nil_isEmpty]; done) | (simp [*]; done)), H', ⟨by first | omega | exact Nat.le_refl _⟩, ⟨by repeat (first | (with_reducible first | exact HB.out | apply below_alloc | apply pw_below_drewN | apply below_drew1) | exact HB.out)⟩⟩
    case rest =>
      clear HC4
      try clear c1
      try clear c2
      try clear p2
      try clear c3
      try clear c3b0
      try clear c3b1
      try clear c5
      try clear c5b0
      try clear c5b1
      try clear c6
      try clear c6b0
      try clear c6b1
      try clear p7
      try clear q7
      try clear hx7
      try clear qi7
      try clear p7
      try clear q7
      obtain ⟨kq, x23_3, rfl, HA, HJ3, HB⟩ := hcut
      cases kq with
      | zero => exact absurd HA.out (by simp [trystref08_Value.j0])
      | succ kj3 =>
        have H := HA.out
        clear HA
        simp only [trystref08_Value.j0] at H
        have HC8 := Aside0.mk H
        clear H
        go_upto_if 23 with (fail)
        go_cut [0] (fun v0 wc => ∃ (kq : Nat) (x0_7 : ByteArray), v0 = .string x0_7 ∧ Aside0 (trystref08_Value.j3 kq x0_7 = some (r1, r2)) ∧ Aside0 (kq ≤ kj3) ∧ Aside0 (Below w.heap.size w wc))
        case first =>
          have H := HC8.out
          clear HC8
          by_cases c9 : x23_3 = true
          · subst c9
            have H1 : (trystref08_Value.l0 kj3 a0 1) = some (r1, r2) := by rw [if_pos rfl] at H; exact H
            clear H
            have H := H1
            clear H1
            have H' := Aside0.mk H
            clear H
            go_wp2
            go_loopg [5] kj3 (fun kq v5 w' => ∃ (x5_2 : Int), v5 = .int .i64 x5_2 ∧ Aside0 (trystref08_Value.l0 kq a0 x5_2 = some (r1, r2)) ∧ Aside0 (kq ≤ kj3) ∧ Aside0 (Below w.heap.size w w'))
            case atStart => exact ⟨(1), (by first | rfl | (simp; done) | (simp [bne_nil_isEmpty, beq_nil_isEmpty]; done) | (simp [*]; done)), H', ⟨Nat.le_refl _⟩, ⟨by repeat (first | (with_reducible first | exact HB.out | apply below_alloc | apply pw_below_drewN | apply below_drew1) | exact HB.out)⟩⟩
            case round =>
              clear H'
              try clear c1
              try clear c2
              try clear p2
              try clear c3
              try clear c3b0
              try clear c3b1
              try clear c5
              try clear c5b0
              try clear c5b1
              try clear c6
              try clear c6b0
              try clear c6b1
              try clear p7
              try clear q7
              try clear hx7
              try clear qi7
              try clear c9
              try clear p2
              try clear p7
              try clear q7
              obtain ⟨x5_2, rfl, HA, HK2, HB⟩ := hrel
              cases gk with
              | zero => exact absurd HA.out (by simp [trystref08_Value.l0])
              | succ k2 =>
                have H := HA.out
                clear HA
                simp only [trystref08_Value.l0] at H
                by_cases c10 : x5_2 < (wrap64 ((a0.size : Int) - 1))
                · rw [if_pos c10] at H
                  have c10b0 : decide (x5_2 < (wrap64 ((a0.size : Int) - 1))) = true := decide_eq_true c10
                  clear c10
                  (first | rw [c10b0] | (simp only [i64_w, i32_w]; rw [c10b0]) | skip)
                  by_cases c11 : 0 ≤ x5_2
                  · rw [if_pos c11] at H
                    have c11b0 : decide (0 ≤ x5_2) = true := decide_eq_true c11
                    clear c11
                    by_cases c12 : x5_2 < (a0.size : Int)
                    · rw [if_pos c12] at H
                      have c12b0 : decide (x5_2 < (a0.size : Int)) = true := decide_eq_true c12
                      clear c12
                      by_cases c14 : (bt a0 x5_2) = 34
                      · rw [if_pos c14] at H
                        have c14b0 : ((bt a0 x5_2) == 34) = true := beq_iff_eq.mpr c14
                        have c14b1 : ((bt a0 x5_2) != 34) = false := bne_eq_false_iff_eq.mpr c14
                        clear c14
                        simp only [Option.some.injEq, Prod.mk.injEq] at H
                        obtain ⟨rfl, rfl⟩ := H
                        have p13 : 0 ≤ (x5_2 : Int) := of_decide_eq_true (by first | (with_reducible assumption) | assumption)
                        have q13 : x5_2 < (a0.size : Int) := of_decide_eq_true (by first | (with_reducible assumption) | assumption)
                        have hx13 := bt_at a0 x5_2
                        replace p13 := eq_true p13
                        replace q13 := eq_true q13
                        go_wp2
                        go_ret2
                        exact ⟨by first | rfl | (simp [errW_none, errW_some] <;> rfl) | (simp [*, errW_none, errW_some] <;> rfl), by repeat (first | (with_reducible first | exact HB.out | apply below_alloc | apply pw_below_drewN | apply below_drew1) | exact HB.out)⟩
                      · rw [if_neg c14] at H
                        have c14b0 : ((bt a0 x5_2) == 34) = false := beq_eq_false_iff_ne.mpr c14
                        have c14b1 : ((bt a0 x5_2) != 34) = true := bne_iff_ne.mpr c14
                        have H' := Aside0.mk H
                        clear H
                        have p13 : 0 ≤ (x5_2 : Int) := of_decide_eq_true (by first | (with_reducible assumption) | assumption)
                        have q13 : x5_2 < (a0.size : Int) := of_decide_eq_true (by first | (with_reducible assumption) | assumption)
                        have hx13 := bt_at a0 x5_2
                        replace p13 := eq_true p13
                        replace q13 := eq_true q13
                        go_wp2
                        go_roundg k2
                        case measure => have := HJ3.out; have := HK2.out; omega
                        case rel => exact ⟨(wrap64 (x5_2 + 1)), (by first | rfl | (simp; done) | (simp [bne_nil_isEmpty, beq_nil_isEmpty]; done) | (simp [*]; done)), H', ⟨by have := HJ3.out; have := HK2.out; omega⟩, ⟨by repeat (first | (with_reducible first | exact HB.out | apply below_alloc | apply pw_below_drewN | apply below_drew1) | exact HB.out)⟩⟩
                    · rw [if_neg c12] at H
                      exact absurd H (by simp)
                  · rw [if_neg c11] at H
                    exact absurd H (by simp)
                · rw [if_neg c10] at H
                  have c10b0 : decide (x5_2 < (wrap64 ((a0.size : Int) - 1))) = false := decide_eq_false c10
                  clear c10
                  (first | rw [c10b0] | (simp only [i64_w, i32_w]; rw [c10b0]) | skip)
                  by_cases c15 : (a0.size : Int) < 2
                  · rw [if_pos c15] at H
                    have c15b0 : decide ((a0.size : Int) < 2) = true := decide_eq_true c15
                    have c15b1 : decide (a0.size < 2) = true := decide_eq_true (by omega)
                    clear c15
                    simp only [Option.some.injEq, Prod.mk.injEq] at H
                    obtain ⟨rfl, rfl⟩ := H
                    go_wp2
                    go_ret2
                    exact ⟨by first | rfl | (simp [errW_none, errW_some] <;> rfl) | (simp [*, errW_none, errW_some] <;> rfl), by repeat (first | (with_reducible first | exact HB.out | apply below_alloc | apply pw_below_drewN | apply below_drew1) | exact HB.out)⟩
                  · rw [if_neg c15] at H
                    have c15b0 : decide ((a0.size : Int) < 2) = false := decide_eq_false c15
                    have c15b1 : decide (a0.size < 2) = false := decide_eq_false (by omega)
                    clear c15
                    obtain ⟨ji16, hji16⟩ : ∃ j_ : Int, (wrap64 ((a0.size : Int) - 1)) = j_ := ⟨_, rfl⟩
                    replace H : (if 0 ≤ (ji16) then (if (ji16) < (a0.size : Int) then (if (bt a0 (ji16)) = 34 then (if 1 ≤ (ji16) then (if (ji16) ≤ (a0.size : Int) then (trystref08_Value.j3 k2 (a0.extract 1 ((ji16) : Int).toNat)) else (none)) else (none)) else (some ((⟨#[]⟩ : ByteArray), 7))) else (none)) else (none)) = some (r1, r2) := by first | (rw [hji16] at H; exact H) | (simp only [hji16] at H ⊢; exact H)
                    (try rw [hji16] at c10b0)
                    have hji16w : (IntKind.i64.wrap ((a0.size : Int) - 1)) = ji16 := (i64_w _).trans hji16
                    by_cases c17 : 0 ≤ (ji16)
                    · rw [if_pos c17] at H
                      have c17b0 : decide (0 ≤ (ji16)) = true := decide_eq_true c17
                      clear c17
                      by_cases c18 : (ji16) < (a0.size : Int)
                      · rw [if_pos c18] at H
                        have c18b0 : decide ((ji16) < (a0.size : Int)) = true := decide_eq_true c18
                        clear c18
                        by_cases c20 : (bt a0 (ji16)) = 34
                        · rw [if_pos c20] at H
                          have c20b0 : ((bt a0 (ji16)) == 34) = true := beq_iff_eq.mpr c20
                          have c20b1 : ((bt a0 (ji16)) != 34) = false := bne_eq_false_iff_eq.mpr c20
                          clear c20
                          by_cases c21 : 1 ≤ (ji16)
                          · rw [if_pos c21] at H
                            have c21b0 := eq_true c21
                            have c21b1 : decide (1 ≤ (ji16)) = true := decide_eq_true c21
                            clear c21
                            by_cases c22 : (ji16) ≤ (a0.size : Int)
                            · rw [if_pos c22] at H
                              have c22b0 := eq_true c22
                              have c22b1 : decide ((ji16) ≤ (a0.size : Int)) = true := decide_eq_true c22
                              clear c22
                              have H' := Aside0.mk H
                              clear H
                              have p19 : 0 ≤ ((ji16) : Int) := of_decide_eq_true (by first | (with_reducible assumption) | assumption)
                              have q19 : (ji16) < (a0.size : Int) := of_decide_eq_true (by first | (with_reducible assumption) | assumption)
                              have hx19 := bt_at a0 (ji16)
                              replace p19 := eq_true p19
                              replace q19 := eq_true q19
                              go_wp2
                              go_meet
                              case rel => exact ⟨_, (a0.extract 1 ((ji16) : Int).toNat), (by first | rfl | (simp; done) | (simp only [← hji16] <;> (first | rfl | simp)) | (simp [*]; done)), H', ⟨by have := HJ3.out; have := HK2.out; first | omega | exact Nat.le_refl _⟩, ⟨by repeat (first | (with_reducible first | exact HB.out | apply below_alloc | apply pw_below_drewN | apply below_drew1) | exact HB.out)⟩⟩
                            · rw [if_neg c22] at H
                              exact absurd H (by simp)
                          · rw [if_neg c21] at H
                            exact absurd H (by simp)
                        · rw [if_neg c20] at H
                          have c20b0 : ((bt a0 (ji16)) == 34) = false := beq_eq_false_iff_ne.mpr c20
                          have c20b1 : ((bt a0 (ji16)) != 34) = true := bne_iff_ne.mpr c20
                          simp only [Option.some.injEq, Prod.mk.injEq] at H
                          obtain ⟨rfl, rfl⟩ := H
                          have p19 : 0 ≤ ((ji16) : Int) := of_decide_eq_true (by first | (with_reducible assumption) | assumption)
                          have q19 : (ji16) < (a0.size : Int) := of_decide_eq_true (by first | (with_reducible assumption) | assumption)
                          have hx19 := bt_at a0 (ji16)
                          replace p19 := eq_true p19
                          replace q19 := eq_true q19
                          go_wp2
                          go_ret2
                          exact ⟨by first | rfl | (simp [errW_none, errW_some] <;> rfl) | (simp only [← hji16]; first | rfl | (simp [errW_none, errW_some] <;> rfl)) | (simp [*, errW_none, errW_some] <;> rfl), by repeat (first | (with_reducible first | exact HB.out | apply below_alloc | apply pw_below_drewN | apply below_drew1) | exact HB.out)⟩
                      · rw [if_neg c18] at H
                        exact absurd H (by simp)
                    · rw [if_neg c17] at H
                      exact absurd H (by simp)
          · replace c9 := Bool.eq_false_iff.mpr c9
            subst c9
            have H1 : (trystref08_Value.l1 kj3 a0 (a0.size : Int) 0) = some (r1, r2) := by rw [if_neg (show ¬ (false = true) by decide)] at H; exact H
            clear H
            have H := H1
            clear H1
            have H' := Aside0.mk H
            clear H
            go_wp2
            go_loopg [53] kj3 (fun kq v53 w' => ∃ (x53_2 : Int), v53 = .int .i64 x53_2 ∧ Aside0 (trystref08_Value.l1 kq a0 (a0.size : Int) x53_2 = some (r1, r2)) ∧ Aside0 (kq ≤ kj3) ∧ Aside0 (Below w.heap.size w w'))
            case atStart => exact ⟨(0), (by first | rfl | (simp; done) | (simp [bne_nil_isEmpty, beq_nil_isEmpty]; done) | (simp [*]; done)), H', ⟨Nat.le_refl _⟩, ⟨by repeat (first | (with_reducible first | exact HB.out | apply below_alloc | apply pw_below_drewN | apply below_drew1) | exact HB.out)⟩⟩
            case round =>
              clear H'
              try clear c1
              try clear p1
              try clear q1
              try clear hx1
              try clear c2
              try clear p2
              try clear c3
              try clear c3b0
              try clear c3b1
              try clear c5
              try clear c5b0
              try clear c5b1
              try clear c6
              try clear c6b0
              try clear c6b1
              try clear p6
              try clear p7
              try clear q7
              try clear hx7
              try clear qi7
              try clear c9
              try clear c10
              try clear c10b0
              try clear c11
              try clear c11b0
              try clear c12
              try clear c12b0
              try clear c13
              try clear p13
              try clear q13
              try clear hx13
              try clear c14
              try clear c14b0
              try clear c14b1
              try clear c15
              try clear c15b0
              try clear c15b1
              try clear c17
              try clear c17b0
              try clear c18
              try clear c18b0
              try clear p19
              try clear q19
              try clear hx19
              try clear c20
              try clear c20b0
              try clear c20b1
              try clear c21
              try clear c21b0
              try clear c21b1
              try clear c22
              try clear c22b0
              try clear c22b1
              try clear p13
              try clear p19
              try clear p2
              try clear p7
              try clear q13
              try clear q19
              try clear q7
              obtain ⟨x53_2, rfl, HA, HK2, HB⟩ := hrel
              cases gk with
              | zero => exact absurd HA.out (by simp [trystref08_Value.l1])
              | succ k2 =>
                have H := HA.out
                clear HA
                simp only [trystref08_Value.l1] at H
                by_cases c23 : x53_2 < (a0.size : Int)
                · rw [if_pos c23] at H
                  have c23b0 : decide (x53_2 < (a0.size : Int)) = true := decide_eq_true c23
                  clear c23
                  by_cases c24 : 0 ≤ x53_2
                  · rw [if_pos c24] at H
                    have c24b0 : decide (0 ≤ x53_2) = true := decide_eq_true c24
                    clear c24
                    by_cases c25 : x53_2 < (a0.size : Int)
                    · rw [if_pos c25] at H
                      have c25b0 : decide (x53_2 < (a0.size : Int)) = true := decide_eq_true c25
                      clear c25
                      by_cases c27 : (bt a0 x53_2) = 34
                      · rw [if_pos c27] at H
                        have c27b0 : ((bt a0 x53_2) == 34) = true := beq_iff_eq.mpr c27
                        have c27b1 : ((bt a0 x53_2) != 34) = false := bne_eq_false_iff_eq.mpr c27
                        clear c27
                        simp only [Option.some.injEq, Prod.mk.injEq] at H
                        obtain ⟨rfl, rfl⟩ := H
                        have p26 : 0 ≤ (x53_2 : Int) := of_decide_eq_true (by first | (with_reducible assumption) | assumption)
                        have q26 : x53_2 < (a0.size : Int) := of_decide_eq_true (by first | (with_reducible assumption) | assumption)
                        have hx26 := bt_at a0 x53_2
                        replace p26 := eq_true p26
                        replace q26 := eq_true q26
                        go_wp2
                        go_ret2
                        exact ⟨by first | rfl | (simp [errW_none, errW_some] <;> rfl) | (simp [*, errW_none, errW_some] <;> rfl), by repeat (first | (with_reducible first | exact HB.out | apply below_alloc | apply pw_below_drewN | apply below_drew1) | exact HB.out)⟩
                      · rw [if_neg c27] at H
                        have c27b0 : ((bt a0 x53_2) == 34) = false := beq_eq_false_iff_ne.mpr c27
                        have c27b1 : ((bt a0 x53_2) != 34) = true := bne_iff_ne.mpr c27
                        by_cases c29 : (bt a0 x53_2) = 58
                        · rw [if_pos c29] at H
                          have c29b0 : ((bt a0 x53_2) == 58) = true := beq_iff_eq.mpr c29
                          have c29b1 : ((bt a0 x53_2) != 58) = false := bne_eq_false_iff_eq.mpr c29
                          clear c29
                          simp only [Option.some.injEq, Prod.mk.injEq] at H
                          obtain ⟨rfl, rfl⟩ := H
                          have p26 : 0 ≤ (x53_2 : Int) := of_decide_eq_true (by first | (with_reducible assumption) | assumption)
                          have q26 : x53_2 < (a0.size : Int) := of_decide_eq_true (by first | (with_reducible assumption) | assumption)
                          have hx26 := bt_at a0 x53_2
                          replace p26 := eq_true p26
                          replace q26 := eq_true q26
                          have p28 : 0 ≤ (x53_2 : Int) := of_decide_eq_true (by first | (with_reducible assumption) | assumption)
                          have q28 : x53_2 < (a0.size : Int) := of_decide_eq_true (by first | (with_reducible assumption) | assumption)
                          have hx28 := bt_at a0 x53_2
                          replace p28 := eq_true p28
                          replace q28 := eq_true q28
                          go_wp2
                          go_ret2
                          exact ⟨by first | rfl | (simp [errW_none, errW_some] <;> rfl) | (simp [*, errW_none, errW_some] <;> rfl), by repeat (first | (with_reducible first | exact HB.out | apply below_alloc | apply pw_below_drewN | apply below_drew1) | exact HB.out)⟩
                        · rw [if_neg c29] at H
                          have c29b0 : ((bt a0 x53_2) == 58) = false := beq_eq_false_iff_ne.mpr c29
                          have c29b1 : ((bt a0 x53_2) != 58) = true := bne_iff_ne.mpr c29
                          by_cases c31 : (bt a0 x53_2) = 59
                          · rw [if_pos c31] at H
                            have c31b0 : ((bt a0 x53_2) == 59) = true := beq_iff_eq.mpr c31
                            have c31b1 : ((bt a0 x53_2) != 59) = false := bne_eq_false_iff_eq.mpr c31
                            clear c31
                            simp only [Option.some.injEq, Prod.mk.injEq] at H
                            obtain ⟨rfl, rfl⟩ := H
                            have p26 : 0 ≤ (x53_2 : Int) := of_decide_eq_true (by first | (with_reducible assumption) | assumption)
                            have q26 : x53_2 < (a0.size : Int) := of_decide_eq_true (by first | (with_reducible assumption) | assumption)
                            have hx26 := bt_at a0 x53_2
                            replace p26 := eq_true p26
                            replace q26 := eq_true q26
                            have p28 : 0 ≤ (x53_2 : Int) := of_decide_eq_true (by first | (with_reducible assumption) | assumption)
                            have q28 : x53_2 < (a0.size : Int) := of_decide_eq_true (by first | (with_reducible assumption) | assumption)
                            have hx28 := bt_at a0 x53_2
                            replace p28 := eq_true p28
                            replace q28 := eq_true q28
                            have p30 : 0 ≤ (x53_2 : Int) := of_decide_eq_true (by first | (with_reducible assumption) | assumption)
                            have q30 : x53_2 < (a0.size : Int) := of_decide_eq_true (by first | (with_reducible assumption) | assumption)
                            have hx30 := bt_at a0 x53_2
                            replace p30 := eq_true p30
                            replace q30 := eq_true q30
                            go_wp2
                            go_ret2
                            exact ⟨by first | rfl | (simp [errW_none, errW_some] <;> rfl) | (simp [*, errW_none, errW_some] <;> rfl), by repeat (first | (with_reducible first | exact HB.out | apply below_alloc | apply pw_below_drewN | apply below_drew1) | exact HB.out)⟩
                          · rw [if_neg c31] at H
                            have c31b0 : ((bt a0 x53_2) == 59) = false := beq_eq_false_iff_ne.mpr c31
                            have c31b1 : ((bt a0 x53_2) != 59) = true := bne_iff_ne.mpr c31
                            by_cases c33 : (bt a0 x53_2) = 44
                            · rw [if_pos c33] at H
                              have c33b0 : ((bt a0 x53_2) == 44) = true := beq_iff_eq.mpr c33
                              have c33b1 : ((bt a0 x53_2) != 44) = false := bne_eq_false_iff_eq.mpr c33
                              clear c33
                              simp only [Option.some.injEq, Prod.mk.injEq] at H
                              obtain ⟨rfl, rfl⟩ := H
                              have p26 : 0 ≤ (x53_2 : Int) := of_decide_eq_true (by first | (with_reducible assumption) | assumption)
                              have q26 : x53_2 < (a0.size : Int) := of_decide_eq_true (by first | (with_reducible assumption) | assumption)
                              have hx26 := bt_at a0 x53_2
                              replace p26 := eq_true p26
                              replace q26 := eq_true q26
                              have p28 : 0 ≤ (x53_2 : Int) := of_decide_eq_true (by first | (with_reducible assumption) | assumption)
                              have q28 : x53_2 < (a0.size : Int) := of_decide_eq_true (by first | (with_reducible assumption) | assumption)
                              have hx28 := bt_at a0 x53_2
                              replace p28 := eq_true p28
                              replace q28 := eq_true q28
                              have p30 : 0 ≤ (x53_2 : Int) := of_decide_eq_true (by first | (with_reducible assumption) | assumption)
                              have q30 : x53_2 < (a0.size : Int) := of_decide_eq_true (by first | (with_reducible assumption) | assumption)
                              have hx30 := bt_at a0 x53_2
                              replace p30 := eq_true p30
                              replace q30 := eq_true q30
                              have p32 : 0 ≤ (x53_2 : Int) := of_decide_eq_true (by first | (with_reducible assumption) | assumption)
                              have q32 : x53_2 < (a0.size : Int) := of_decide_eq_true (by first | (with_reducible assumption) | assumption)
                              have hx32 := bt_at a0 x53_2
                              replace p32 := eq_true p32
                              replace q32 := eq_true q32
                              go_wp2
                              go_ret2
                              exact ⟨by first | rfl | (simp [errW_none, errW_some] <;> rfl) | (simp [*, errW_none, errW_some] <;> rfl), by repeat (first | (with_reducible first | exact HB.out | apply below_alloc | apply pw_below_drewN | apply below_drew1) | exact HB.out)⟩
                            · rw [if_neg c33] at H
                              have c33b0 : ((bt a0 x53_2) == 44) = false := beq_eq_false_iff_ne.mpr c33
                              have c33b1 : ((bt a0 x53_2) != 44) = true := bne_iff_ne.mpr c33
                              have H' := Aside0.mk H
                              clear H
                              have p26 : 0 ≤ (x53_2 : Int) := of_decide_eq_true (by first | (with_reducible assumption) | assumption)
                              have q26 : x53_2 < (a0.size : Int) := of_decide_eq_true (by first | (with_reducible assumption) | assumption)
                              have hx26 := bt_at a0 x53_2
                              replace p26 := eq_true p26
                              replace q26 := eq_true q26
                              have p28 : 0 ≤ (x53_2 : Int) := of_decide_eq_true (by first | (with_reducible assumption) | assumption)
                              have q28 : x53_2 < (a0.size : Int) := of_decide_eq_true (by first | (with_reducible assumption) | assumption)
                              have hx28 := bt_at a0 x53_2
                              replace p28 := eq_true p28
                              replace q28 := eq_true q28
                              have p30 : 0 ≤ (x53_2 : Int) := of_decide_eq_true (by first | (with_reducible assumption) | assumption)
                              have q30 : x53_2 < (a0.size : Int) := of_decide_eq_true (by first | (with_reducible assumption) | assumption)
                              have hx30 := bt_at a0 x53_2
                              replace p30 := eq_true p30
                              replace q30 := eq_true q30
                              have p32 : 0 ≤ (x53_2 : Int) := of_decide_eq_true (by first | (with_reducible assumption) | assumption)
                              have q32 : x53_2 < (a0.size : Int) := of_decide_eq_true (by first | (with_reducible assumption) | assumption)
                              have hx32 := bt_at a0 x53_2
                              replace p32 := eq_true p32
                              replace q32 := eq_true q32
                              go_wp2
                              go_roundg k2
                              case measure => have := HJ3.out; have := HK2.out; omega
                              case rel => exact ⟨(wrap64 (x53_2 + 1)), (by first | rfl | (simp; done) | (simp [bne_nil_isEmpty, beq_nil_isEmpty]; done) | (simp [*]; done)), H', ⟨by have := HJ3.out; have := HK2.out; omega⟩, ⟨by repeat (first | (with_reducible first | exact HB.out | apply below_alloc | apply pw_below_drewN | apply below_drew1) | exact HB.out)⟩⟩
                    · rw [if_neg c25] at H
                      exact absurd H (by simp)
                  · rw [if_neg c24] at H
                    exact absurd H (by simp)
                · rw [if_neg c23] at H
                  have c23b0 : decide (x53_2 < (a0.size : Int)) = false := decide_eq_false c23
                  clear c23
                  have H' := Aside0.mk H
                  clear H
                  go_wp2
                  go_meet
                  case rel => exact ⟨_, (a0), (by first | rfl | (simp; done) | (simp [bne_nil_isEmpty, beq_nil_isEmpty]; done) | (simp [*]; done)), H', ⟨by have := HJ3.out; have := HK2.out; first | omega | exact Nat.le_refl _⟩, ⟨by repeat (first | (with_reducible first | exact HB.out | apply below_alloc | apply pw_below_drewN | apply below_drew1) | exact HB.out)⟩⟩
        case rest =>
          clear HC8
          try clear c1
          try clear p1
          try clear q1
          try clear hx1
          try clear c2
          try clear p2
          try clear q2
          try clear hx2
          try clear c3
          try clear c3b0
          try clear c3b1
          try clear p3
          try clear q3
          try clear hx3
          try clear c5
          try clear c5b0
          try clear c5b1
          try clear c6
          try clear c6b0
          try clear c6b1
          try clear p6
          try clear p7
          try clear q7
          try clear hx7
          try clear qi7
          try clear c9
          try clear c10
          try clear c10b0
          try clear c11
          try clear c11b0
          try clear c12
          try clear c12b0
          try clear c13
          try clear p13
          try clear q13
          try clear hx13
          try clear c14
          try clear c14b0
          try clear c14b1
          try clear c15
          try clear c15b0
          try clear c15b1
          try clear c17
          try clear c17b0
          try clear c18
          try clear c18b0
          try clear p19
          try clear q19
          try clear hx19
          try clear c20
          try clear c20b0
          try clear c20b1
          try clear c21
          try clear c21b0
          try clear c21b1
          try clear c22
          try clear c22b0
          try clear c22b1
          try clear c23
          try clear c23b0
          try clear c24
          try clear c24b0
          try clear c25
          try clear c25b0
          try clear p26
          try clear q26
          try clear hx26
          try clear c27
          try clear c27b0
          try clear c27b1
          try clear p28
          try clear q28
          try clear hx28
          try clear c29
          try clear c29b0
          try clear c29b1
          try clear p30
          try clear q30
          try clear hx30
          try clear c31
          try clear c31b0
          try clear c31b1
          try clear p32
          try clear q32
          try clear hx32
          try clear c33
          try clear c33b0
          try clear c33b1
          try clear p1
          try clear p13
          try clear p19
          try clear p2
          try clear p26
          try clear p28
          try clear p30
          try clear p32
          try clear p6
          try clear p7
          try clear q1
          try clear q13
          try clear q19
          try clear q26
          try clear q28
          try clear q30
          try clear q32
          try clear q7
          obtain ⟨kq, x0_7, rfl, HA, HJ7, HB⟩ := hcut
          cases kq with
          | zero => exact absurd HA.out (by simp [trystref08_Value.j3])
          | succ kj7 =>
            have H := HA.out
            clear HA
            simp only [trystref08_Value.j3] at H
            have H' := Aside0.mk H
            clear H
            go_wp2
            go_loopg [7, 8] kj7 (fun kq v7 v8 w' => ∃ (x7_3 : List Int) (x8_3 : Int), v8 = .int .i64 x8_3 ∧ Aside0 (trystref08_Value.l2 kq x0_7 x7_3 x8_3 = some (r1, r2)) ∧ Aside0 (kq ≤ kj7) ∧ Aside0 (Kd.R (Kd.int .u8) 5 w' w.heap.size (fun _ => True) v7 x7_3) ∧ Aside0 (Below w.heap.size w w'))
            case atStart => exact ⟨(([] : List Int)), (0), (by first | rfl | (simp; done) | (simp [bne_nil_isEmpty, beq_nil_isEmpty]; done) | (simp [*]; done)), H', ⟨Nat.le_refl _⟩, ⟨by first | exact Kd.R_nil _ _ _ _ _ | exact Kd.N_nil _ _ _ _ _ | exact Kd.V_nil _ _ _ _ _ | exact Kd.Q_nil _ _ _ _ _ | exact Kd.S_nil _ _ _ _ _⟩, ⟨by repeat (first | (with_reducible first | exact HB.out | apply below_alloc | apply pw_below_drewN | apply below_drew1) | exact HB.out)⟩⟩
            case round =>
              clear H'
              try clear c1
              try clear p1
              try clear q1
              try clear hx1
              try clear c2
              try clear p2
              try clear q2
              try clear hx2
              try clear c3
              try clear c3b0
              try clear c3b1
              try clear p3
              try clear q3
              try clear hx3
              try clear c5
              try clear c5b0
              try clear c5b1
              try clear c6
              try clear c6b0
              try clear c6b1
              try clear p6
              try clear p7
              try clear q7
              try clear hx7
              try clear qi7
              try clear c9
              try clear c10
              try clear c10b0
              try clear c11
              try clear c11b0
              try clear c12
              try clear c12b0
              try clear c13
              try clear p13
              try clear q13
              try clear hx13
              try clear c14
              try clear c14b0
              try clear c14b1
              try clear c15
              try clear c15b0
              try clear c15b1
              try clear c17
              try clear c17b0
              try clear c18
              try clear c18b0
              try clear p19
              try clear q19
              try clear hx19
              try clear c20
              try clear c20b0
              try clear c20b1
              try clear c21
              try clear c21b0
              try clear c21b1
              try clear c22
              try clear c22b0
              try clear c22b1
              try clear c23
              try clear c23b0
              try clear c24
              try clear c24b0
              try clear c25
              try clear c25b0
              try clear p26
              try clear q26
              try clear hx26
              try clear c27
              try clear c27b0
              try clear c27b1
              try clear p28
              try clear q28
              try clear hx28
              try clear c29
              try clear c29b0
              try clear c29b1
              try clear p30
              try clear q30
              try clear hx30
              try clear c31
              try clear c31b0
              try clear c31b1
              try clear p32
              try clear q32
              try clear hx32
              try clear c33
              try clear c33b0
              try clear c33b1
              try clear p1
              try clear p13
              try clear p19
              try clear p2
              try clear p26
              try clear p28
              try clear p3
              try clear p30
              try clear p32
              try clear p6
              try clear p7
              try clear q1
              try clear q13
              try clear q19
              try clear q2
              try clear q26
              try clear q28
              try clear q3
              try clear q30
              try clear q32
              try clear q7
              obtain ⟨x7_3, x8_3, rfl, HA, HK3, HO_7, HB⟩ := hrel
              cases gk with
              | zero => exact absurd HA.out (by simp [trystref08_Value.l2])
              | succ k3 =>
                have H := HA.out
                clear HA
                simp only [trystref08_Value.l2] at H
                by_cases c34 : x8_3 < (x0_7.size : Int)
                · rw [if_pos c34] at H
                  have c34b0 : decide (x8_3 < (x0_7.size : Int)) = true := decide_eq_true c34
                  clear c34
                  by_cases c35 : 0 ≤ x8_3
                  · rw [if_pos c35] at H
                    have c35b0 : decide (0 ≤ x8_3) = true := decide_eq_true c35
                    clear c35
                    have HC37 := Aside0.mk H
                    clear H
                    have p36 : 0 ≤ (x8_3 : Int) := of_decide_eq_true (by first | (with_reducible assumption) | assumption)
                    have q36 : x8_3 < (x0_7.size : Int) := of_decide_eq_true (by first | (with_reducible assumption) | assumption)
                    have hx36 := bt_at x0_7 x8_3
                    replace p36 := eq_true p36
                    replace q36 := eq_true q36
                    go_upto_region 24 with (fail)
                    go_cut [96] (fun v96 wc => ∃ (kq : Nat) (x96_36 : Bool), v96 = .bool x96_36 ∧ Aside0 (trystref08_Value.j5 kq x0_7 x7_3 x8_3 (bt x0_7 x8_3) x96_36 = some (r1, r2)) ∧ Aside0 (kq ≤ k3) ∧ Aside0 (Kd.R (Kd.int .u8) 5 wc w.heap.size (fun _ => True) u7 x7_3) ∧ Aside0 (Below w.heap.size w wc))
                    case first =>
                      have H := HC37.out
                      clear HC37
                      by_cases c38 : (bt x0_7 x8_3) = 94
                      · rw [if_pos c38] at H
                        have c38b0 : ((bt x0_7 x8_3) == 94) = true := beq_iff_eq.mpr c38
                        have c38b1 : ((bt x0_7 x8_3) != 94) = false := bne_eq_false_iff_eq.mpr c38
                        clear c38
                        (first | rw [c38b0] | (simp only [i64_w, i32_w]; rw [c38b0]) | skip)
                        have H' := Aside0.mk H
                        clear H
                        go_wp2
                        go_meet
                        case rel => exact ⟨_, (decide ((wrap64 (x8_3 + 1)) < (x0_7.size : Int))), (by first | rfl | (simp; done) | (simp [bne_nil_isEmpty, beq_nil_isEmpty]; done) | (simp [*]; done)), H', ⟨by have := HJ3.out; have := HJ7.out; have := HK3.out; first | omega | exact Nat.le_refl _⟩, ⟨by (with_reducible repeat (first | apply Kd.R_alloc | apply Kd.R_drewN | apply Kd.R_drew)); exact HO_7.out⟩, ⟨by repeat (first | (with_reducible first | exact HB.out | apply below_alloc | apply pw_below_drewN | apply below_drew1) | exact HB.out)⟩⟩
                      · rw [if_neg c38] at H
                        have c38b0 : ((bt x0_7 x8_3) == 94) = false := beq_eq_false_iff_ne.mpr c38
                        have c38b1 : ((bt x0_7 x8_3) != 94) = true := bne_iff_ne.mpr c38
                        (first | rw [c38b0] | (simp only [i64_w, i32_w]; rw [c38b0]) | skip)
                        have H' := Aside0.mk H
                        clear H
                        go_wp2
                        go_meet
                        case rel => exact ⟨_, (false), (by first | rfl | (simp; done) | (simp [bne_nil_isEmpty, beq_nil_isEmpty]; done) | (simp [*]; done)), H', ⟨by have := HJ3.out; have := HJ7.out; have := HK3.out; first | omega | exact Nat.le_refl _⟩, ⟨by (with_reducible repeat (first | apply Kd.R_alloc | apply Kd.R_drewN | apply Kd.R_drew)); exact HO_7.out⟩, ⟨by repeat (first | (with_reducible first | exact HB.out | apply below_alloc | apply pw_below_drewN | apply below_drew1) | exact HB.out)⟩⟩
                    case rest =>
                      clear HC37
                      try clear c1
                      try clear p1
                      try clear q1
                      try clear hx1
                      try clear c2
                      try clear p2
                      try clear q2
                      try clear hx2
                      try clear c3
                      try clear c3b0
                      try clear c3b1
                      try clear p3
                      try clear q3
                      try clear hx3
                      try clear c5
                      try clear c5b0
                      try clear c5b1
                      try clear c6
                      try clear c6b0
                      try clear c6b1
                      try clear p6
                      try clear p7
                      try clear q7
                      try clear hx7
                      try clear qi7
                      try clear c9
                      try clear c10
                      try clear c10b0
                      try clear c11
                      try clear c11b0
                      try clear c12
                      try clear c12b0
                      try clear c13
                      try clear p13
                      try clear q13
                      try clear hx13
                      try clear c14
                      try clear c14b0
                      try clear c14b1
                      try clear c15
                      try clear c15b0
                      try clear c15b1
                      try clear c17
                      try clear c17b0
                      try clear c18
                      try clear c18b0
                      try clear p19
                      try clear q19
                      try clear hx19
                      try clear c20
                      try clear c20b0
                      try clear c20b1
                      try clear c21
                      try clear c21b0
                      try clear c21b1
                      try clear c22
                      try clear c22b0
                      try clear c22b1
                      try clear c23
                      try clear c23b0
                      try clear c24
                      try clear c24b0
                      try clear c25
                      try clear c25b0
                      try clear p26
                      try clear q26
                      try clear hx26
                      try clear c27
                      try clear c27b0
                      try clear c27b1
                      try clear p28
                      try clear q28
                      try clear hx28
                      try clear c29
                      try clear c29b0
                      try clear c29b1
                      try clear p30
                      try clear q30
                      try clear hx30
                      try clear c31
                      try clear c31b0
                      try clear c31b1
                      try clear p32
                      try clear q32
                      try clear hx32
                      try clear c33
                      try clear c33b0
                      try clear c33b1
                      try clear c34
                      try clear c34b0
                      try clear c35
                      try clear c35b0
                      try clear p36
                      try clear q36
                      try clear hx36
                      try clear c38
                      try clear c38b0
                      try clear c38b1
                      try clear p1
                      try clear p13
                      try clear p19
                      try clear p2
                      try clear p26
                      try clear p28
                      try clear p3
                      try clear p30
                      try clear p32
                      try clear p36
                      try clear p6
                      try clear p7
                      try clear q1
                      try clear q13
                      try clear q19
                      try clear q2
                      try clear q26
                      try clear q28
                      try clear q3
                      try clear q30
                      try clear q32
                      try clear q36
                      try clear q7
                      obtain ⟨kq, x96_36, rfl, HA, HJ36, HO_7, HB⟩ := hcut
                      cases kq with
                      | zero => exact absurd HA.out (by simp [trystref08_Value.j5])
                      | succ kj36 =>
                        have H := HA.out
                        clear HA
                        simp only [trystref08_Value.j5] at H
                        by_cases c39 : x96_36 = true
                        · subst c39
                          have H1 : (if 0 ≤ (wrap64 (x8_3 + 1)) then (if (wrap64 (x8_3 + 1)) < (x0_7.size : Int) then (if (bt x0_7 (wrap64 (x8_3 + 1))) = 110 then (trystref08_Value.j6 kj36 x0_7 x7_3 x8_3 10 (bt x0_7 (wrap64 (x8_3 + 1)))) else (trystref08_Value.j6 kj36 x0_7 x7_3 x8_3 (bt x0_7 x8_3) (bt x0_7 (wrap64 (x8_3 + 1))))) else (none)) else (none)) = some (r1, r2) := by rw [if_pos rfl] at H; exact H
                          clear H
                          have H := H1
                          clear H1
                          obtain ⟨ji40, hji40⟩ : ∃ j_ : Int, (wrap64 (x8_3 + 1)) = j_ := ⟨_, rfl⟩
                          replace H : (if 0 ≤ (ji40) then (if (ji40) < (x0_7.size : Int) then (if (bt x0_7 (ji40)) = 110 then (trystref08_Value.j6 kj36 x0_7 x7_3 x8_3 10 (bt x0_7 (ji40))) else (trystref08_Value.j6 kj36 x0_7 x7_3 x8_3 (bt x0_7 x8_3) (bt x0_7 (ji40)))) else (none)) else (none)) = some (r1, r2) := by first | (rw [hji40] at H; exact H) | (simp only [hji40] at H ⊢; exact H)
                          have hji40w : (IntKind.i64.wrap (x8_3 + 1)) = ji40 := (i64_w _).trans hji40
                          by_cases c41 : 0 ≤ (ji40)
                          · rw [if_pos c41] at H
                            have c41b0 : decide (0 ≤ (ji40)) = true := decide_eq_true c41
                            clear c41
                            by_cases c42 : (ji40) < (x0_7.size : Int)
                            · rw [if_pos c42] at H
                              have c42b0 : decide ((ji40) < (x0_7.size : Int)) = true := decide_eq_true c42
                              clear c42
                              have HC44 := Aside0.mk H
                              clear H
                              have p43 : 0 ≤ ((ji40) : Int) := of_decide_eq_true (by first | (with_reducible assumption) | assumption)
                              have q43 : (ji40) < (x0_7.size : Int) := of_decide_eq_true (by first | (with_reducible assumption) | assumption)
                              have hx43 := bt_at x0_7 (ji40)
                              replace p43 := eq_true p43
                              replace q43 := eq_true q43
                              go_upto_if 102 with (fail)
                              go_cut [9] (fun v9 wc => ∃ (kq : Nat) (x9_43 : Int), v9 = .int .u8 x9_43 ∧ Aside0 (trystref08_Value.j6 kq x0_7 x7_3 x8_3 x9_43 (bt x0_7 (ji40)) = some (r1, r2)) ∧ Aside0 (kq ≤ kj36) ∧ Aside0 (Kd.R (Kd.int .u8) 5 wc w.heap.size (fun _ => True) u7 x7_3) ∧ Aside0 (Below w.heap.size w wc))
                              case first =>
                                have H := HC44.out
                                clear HC44
                                by_cases c45 : (bt x0_7 (ji40)) = 110
                                · rw [if_pos c45] at H
                                  have c45b0 : ((bt x0_7 (ji40)) == 110) = true := beq_iff_eq.mpr c45
                                  have c45b1 : ((bt x0_7 (ji40)) != 110) = false := bne_eq_false_iff_eq.mpr c45
                                  clear c45
                                  (first | rw [c45b0] | (simp only [i64_w, i32_w]; rw [c45b0]) | skip)
                                  have H' := Aside0.mk H
                                  clear H
                                  go_wp2
                                  go_meet
                                  case rel => exact ⟨_, (10), (by first | rfl | (simp; done) | (simp [bne_nil_isEmpty, beq_nil_isEmpty]; done) | (simp [*]; done)), H', ⟨by have := HJ3.out; have := HJ7.out; have := HK3.out; have := HJ36.out; first | omega | exact Nat.le_refl _⟩, ⟨by (with_reducible repeat (first | apply Kd.R_alloc | apply Kd.R_drewN | apply Kd.R_drew)); exact HO_7.out⟩, ⟨by repeat (first | (with_reducible first | exact HB.out | apply below_alloc | apply pw_below_drewN | apply below_drew1) | exact HB.out)⟩⟩
                                · rw [if_neg c45] at H
                                  have c45b0 : ((bt x0_7 (ji40)) == 110) = false := beq_eq_false_iff_ne.mpr c45
                                  have c45b1 : ((bt x0_7 (ji40)) != 110) = true := bne_iff_ne.mpr c45
                                  (first | rw [c45b0] | (simp only [i64_w, i32_w]; rw [c45b0]) | skip)
                                  have H' := Aside0.mk H
                                  clear H
                                  go_wp2
                                  go_meet
                                  case rel => exact ⟨_, ((bt x0_7 x8_3)), (by first | rfl | (simp; done) | (simp [bne_nil_isEmpty, beq_nil_isEmpty]; done) | (simp [*]; done)), H', ⟨by have := HJ3.out; have := HJ7.out; have := HK3.out; have := HJ36.out; first | omega | exact Nat.le_refl _⟩, ⟨by (with_reducible repeat (first | apply Kd.R_alloc | apply Kd.R_drewN | apply Kd.R_drew)); exact HO_7.out⟩, ⟨by repeat (first | (with_reducible first | exact HB.out | apply below_alloc | apply pw_below_drewN | apply below_drew1) | exact HB.out)⟩⟩
                              case rest =>
                                clear HC44
                                try clear c1
                                try clear p1
                                try clear q1
                                try clear hx1
                                try clear c2
                                try clear p2
                                try clear q2
                                try clear hx2
                                try clear c3
                                try clear c3b0
                                try clear c3b1
                                try clear p3
                                try clear q3
                                try clear hx3
                                try clear c4
                                try clear p4
                                try clear q4
                                try clear hx4
                                try clear c5
                                try clear c5b0
                                try clear c5b1
                                try clear c6
                                try clear c6b0
                                try clear c6b1
                                try clear p6
                                try clear p7
                                try clear q7
                                try clear hx7
                                try clear qi7
                                try clear c9
                                try clear c10
                                try clear c10b0
                                try clear c11
                                try clear c11b0
                                try clear c12
                                try clear c12b0
                                try clear c13
                                try clear p13
                                try clear q13
                                try clear hx13
                                try clear c14
                                try clear c14b0
                                try clear c14b1
                                try clear c15
                                try clear c15b0
                                try clear c15b1
                                try clear c17
                                try clear c17b0
                                try clear c18
                                try clear c18b0
                                try clear p19
                                try clear q19
                                try clear hx19
                                try clear c20
                                try clear c20b0
                                try clear c20b1
                                try clear c21
                                try clear c21b0
                                try clear c21b1
                                try clear c22
                                try clear c22b0
                                try clear c22b1
                                try clear c23
                                try clear c23b0
                                try clear c24
                                try clear c24b0
                                try clear c25
                                try clear c25b0
                                try clear p26
                                try clear q26
                                try clear hx26
                                try clear c27
                                try clear c27b0
                                try clear c27b1
                                try clear p28
                                try clear q28
                                try clear hx28
                                try clear c29
                                try clear c29b0
                                try clear c29b1
                                try clear p30
                                try clear q30
                                try clear hx30
                                try clear c31
                                try clear c31b0
                                try clear c31b1
                                try clear p32
                                try clear q32
                                try clear hx32
                                try clear c33
                                try clear c33b0
                                try clear c33b1
                                try clear c34
                                try clear c34b0
                                try clear c35
                                try clear c35b0
                                try clear p36
                                try clear q36
                                try clear hx36
                                try clear c38
                                try clear c38b0
                                try clear c38b1
                                try clear c39
                                try clear c41
                                try clear c41b0
                                try clear c42
                                try clear c42b0
                                try clear p43
                                try clear q43
                                try clear hx43
                                try clear c45
                                try clear c45b0
                                try clear c45b1
                                try clear p1
                                try clear p13
                                try clear p19
                                try clear p2
                                try clear p26
                                try clear p28
                                try clear p3
                                try clear p30
                                try clear p32
                                try clear p36
                                try clear p43
                                try clear p6
                                try clear p7
                                try clear q1
                                try clear q13
                                try clear q19
                                try clear q2
                                try clear q26
                                try clear q28
                                try clear q3
                                try clear q30
                                try clear q32
                                try clear q36
                                try clear q43
                                try clear q7
                                obtain ⟨kq, x9_43, rfl, HA, HJ43, HO_7, HB⟩ := hcut
                                cases kq with
                                | zero => exact absurd HA.out (by simp [trystref08_Value.j6])
                                | succ kj43 =>
                                  have H := HA.out
                                  clear HA
                                  simp only [trystref08_Value.j6] at H
                                  by_cases c46 : (bt x0_7 (ji40)) = 39
                                  · rw [if_pos c46] at H
                                    have c46b0 : ((bt x0_7 (ji40)) == 39) = true := beq_iff_eq.mpr c46
                                    have c46b1 : ((bt x0_7 (ji40)) != 39) = false := bne_eq_false_iff_eq.mpr c46
                                    clear c46
                                    by_cases c47 : (bt x0_7 (ji40)) = 110
                                    · rw [if_pos c47] at H
                                      have c47b0 : ((bt x0_7 (ji40)) == 110) = true := beq_iff_eq.mpr c47
                                      have c47b1 : ((bt x0_7 (ji40)) != 110) = false := bne_eq_false_iff_eq.mpr c47
                                      clear c47
                                      by_cases c48 : x7_3.length < 140737488355328
                                      · rw [if_pos c48] at H
                                        have LMc48 := Aside0.mk c48
                                        clear c48
                                        obtain ⟨y171, hy171⟩ : ∃ y_ : List Int, y_ = (x7_3 ++ [34]) := ⟨_, rfl⟩
                                        replace H : (trystref08_Value.l2 kj43 x0_7 y171 (wrap64 ((wrap64 (x8_3 + 1)) + 1))) = some (r1, r2) := by first | (rw [hy171]; with_reducible exact H) | (have H2_ := (Option.bind_some _ _).symm.trans H; rw [hy171]; with_reducible exact H2_) | (have H2_ := (Option.bind_some _ _).symm.trans H; with_reducible exact H2_) | with_reducible exact H | (rw [hy171]; exact H) | exact H
                                        have Ny171 := Aside0.mk hy171
                                        clear hy171
                                        have H' := Aside0.mk H
                                        clear H
                                        go_wp2_with (first | ((with_reducible refine gate_builtin (b := .append) (xs := #[.tmp 117, .tmp 119]) rfl ?_); (try (refine gate_guard (by rfl) ?_; dsimp only)); at_builtin; refine Kd.R_append (Kd.int .u8) (w0 := w) w.heap.size rfl (.tmp 117) (.tmp 119) 55 5 (.int .u8 0) 1 rfl Tryd.underlying55 info5 rfl (by decide) (by omega) u7 x7_3 34 [.int .u8 34] (fun _ => True) (fun _ => False) rfl rfl ?aP (fun _ hk => hk.elim) ?aF ?aO ?aB ?aS ?aL ?_; (case aP => exact rfl); (case aB => exact (by repeat (first | (with_reducible first | exact HB.out | apply below_alloc | apply pw_below_drewN | apply below_drew1) | exact HB.out))); (case aF => exact (fun _ _ => trivial)); (case aO => exact (by (with_reducible repeat (first | apply Kd.R_alloc | apply Kd.R_drewN | apply Kd.R_drew)); exact HO_7.out)); (case aS => exact (below_size (by repeat (first | (with_reducible first | exact HB.out | apply below_alloc | apply pw_below_drewN | apply below_drew1) | exact HB.out)))); (case aL => have := LMc48.out; omega); intro v172 w49 ho hb hg hat; rw [← Ny171.out] at ho; have n0_ := Aside0.mk (hb); have n1_ := Aside0.mk (ho); clear HB; clear HO_7; have HB := n0_; have HO173 := n1_; clear n0_ n1_; clear ho hb hg hat))
                                        go_roundg kj43
                                        case measure => have := HJ3.out; have := HJ7.out; have := HK3.out; have := HJ36.out; have := HJ43.out; omega
                                        case rel => exact ⟨(y171), (wrap64 ((wrap64 (x8_3 + 1)) + 1)), (by first | rfl | (simp; done) | (simp [bne_nil_isEmpty, beq_nil_isEmpty]; done) | (simp [*]; done)), H', ⟨by have := HJ3.out; have := HJ7.out; have := HK3.out; have := HJ36.out; have := HJ43.out; omega⟩, ⟨by (with_reducible repeat (first | apply Kd.R_alloc | apply Kd.R_drewN | apply Kd.R_drew)); exact HO173.out⟩, ⟨by repeat (first | (with_reducible first | exact HB.out | apply below_alloc | apply pw_below_drewN | apply below_drew1) | exact HB.out)⟩⟩
                                      · rw [if_neg c48] at H
                                        exact absurd H (by simp)
                                    · rw [if_neg c47] at H
                                      have c47b0 : ((bt x0_7 (ji40)) == 110) = false := beq_eq_false_iff_ne.mpr c47
                                      have c47b1 : ((bt x0_7 (ji40)) != 110) = true := bne_iff_ne.mpr c47
                                      by_cases c50 : x7_3.length < 140737488355328
                                      · rw [if_pos c50] at H
                                        have LMc50 := Aside0.mk c50
                                        clear c50
                                        obtain ⟨y174, hy174⟩ : ∃ y_ : List Int, y_ = (x7_3 ++ [34]) := ⟨_, rfl⟩
                                        replace H : (trystref08_Value.l2 kj43 x0_7 y174 (wrap64 ((wrap64 (x8_3 + 1)) + 1))) = some (r1, r2) := by first | (rw [hy174]; with_reducible exact H) | (have H2_ := (Option.bind_some _ _).symm.trans H; rw [hy174]; with_reducible exact H2_) | (have H2_ := (Option.bind_some _ _).symm.trans H; with_reducible exact H2_) | with_reducible exact H | (rw [hy174]; exact H) | exact H
                                        have Ny174 := Aside0.mk hy174
                                        clear hy174
                                        have H' := Aside0.mk H
                                        clear H
                                        go_wp2_with (first | ((with_reducible refine gate_builtin (b := .append) (xs := #[.tmp 117, .tmp 119]) rfl ?_); (try (refine gate_guard (by rfl) ?_; dsimp only)); at_builtin; refine Kd.R_append (Kd.int .u8) (w0 := w) w.heap.size rfl (.tmp 117) (.tmp 119) 55 5 (.int .u8 0) 1 rfl Tryd.underlying55 info5 rfl (by decide) (by omega) u7 x7_3 34 [.int .u8 34] (fun _ => True) (fun _ => False) rfl rfl ?aP (fun _ hk => hk.elim) ?aF ?aO ?aB ?aS ?aL ?_; (case aP => exact rfl); (case aB => exact (by repeat (first | (with_reducible first | exact HB.out | apply below_alloc | apply pw_below_drewN | apply below_drew1) | exact HB.out))); (case aF => exact (fun _ _ => trivial)); (case aO => exact (by (with_reducible repeat (first | apply Kd.R_alloc | apply Kd.R_drewN | apply Kd.R_drew)); exact HO_7.out)); (case aS => exact (below_size (by repeat (first | (with_reducible first | exact HB.out | apply below_alloc | apply pw_below_drewN | apply below_drew1) | exact HB.out)))); (case aL => have := LMc50.out; omega); intro v175 w51 ho hb hg hat; rw [← Ny174.out] at ho; have n0_ := Aside0.mk (hb); have n1_ := Aside0.mk (ho); clear HB; clear HO_7; have HB := n0_; have HO176 := n1_; clear n0_ n1_; clear ho hb hg hat))
                                        go_roundg kj43
                                        case measure => have := HJ3.out; have := HJ7.out; have := HK3.out; have := HJ36.out; have := HJ43.out; omega
                                        case rel => exact ⟨(y174), (wrap64 ((wrap64 (x8_3 + 1)) + 1)), (by first | rfl | (simp; done) | (simp [bne_nil_isEmpty, beq_nil_isEmpty]; done) | (simp [*]; done)), H', ⟨by have := HJ3.out; have := HJ7.out; have := HK3.out; have := HJ36.out; have := HJ43.out; omega⟩, ⟨by (with_reducible repeat (first | apply Kd.R_alloc | apply Kd.R_drewN | apply Kd.R_drew)); exact HO176.out⟩, ⟨by repeat (first | (with_reducible first | exact HB.out | apply below_alloc | apply pw_below_drewN | apply below_drew1) | exact HB.out)⟩⟩
                                      · rw [if_neg c50] at H
                                        exact absurd H (by simp)
                                  · rw [if_neg c46] at H
                                    have c46b0 : ((bt x0_7 (ji40)) == 39) = false := beq_eq_false_iff_ne.mpr c46
                                    have c46b1 : ((bt x0_7 (ji40)) != 39) = true := bne_iff_ne.mpr c46
                                    by_cases c52 : (bt x0_7 (ji40)) = 110
                                    · rw [if_pos c52] at H
                                      have c52b0 : ((bt x0_7 (ji40)) == 110) = true := beq_iff_eq.mpr c52
                                      have c52b1 : ((bt x0_7 (ji40)) != 110) = false := bne_eq_false_iff_eq.mpr c52
                                      clear c52
                                      by_cases c53 : x7_3.length < 140737488355328
                                      · rw [if_pos c53] at H
                                        have LMc53 := Aside0.mk c53
                                        clear c53
                                        obtain ⟨y177, hy177⟩ : ∃ y_ : List Int, y_ = (x7_3 ++ [x9_43]) := ⟨_, rfl⟩
                                        replace H : (trystref08_Value.l2 kj43 x0_7 y177 (wrap64 ((wrap64 (x8_3 + 1)) + 1))) = some (r1, r2) := by first | (rw [hy177]; with_reducible exact H) | (have H2_ := (Option.bind_some _ _).symm.trans H; rw [hy177]; with_reducible exact H2_) | (have H2_ := (Option.bind_some _ _).symm.trans H; with_reducible exact H2_) | with_reducible exact H | (rw [hy177]; exact H) | exact H
                                        have Ny177 := Aside0.mk hy177
                                        clear hy177
                                        have H' := Aside0.mk H
                                        clear H
                                        go_wp2_with (first | ((with_reducible refine gate_builtin (b := .append) (xs := #[.tmp 117, .tmp 119]) rfl ?_); (try (refine gate_guard (by rfl) ?_; dsimp only)); at_builtin; refine Kd.R_append (Kd.int .u8) (w0 := w) w.heap.size rfl (.tmp 117) (.tmp 119) 55 5 (.int .u8 0) 1 rfl Tryd.underlying55 info5 rfl (by decide) (by omega) u7 x7_3 x9_43 [.int .u8 x9_43] (fun _ => True) (fun _ => False) rfl rfl ?aP (fun _ hk => hk.elim) ?aF ?aO ?aB ?aS ?aL ?_; (case aP => exact rfl); (case aB => exact (by repeat (first | (with_reducible first | exact HB.out | apply below_alloc | apply pw_below_drewN | apply below_drew1) | exact HB.out))); (case aF => exact (fun _ _ => trivial)); (case aO => exact (by (with_reducible repeat (first | apply Kd.R_alloc | apply Kd.R_drewN | apply Kd.R_drew)); exact HO_7.out)); (case aS => exact (below_size (by repeat (first | (with_reducible first | exact HB.out | apply below_alloc | apply pw_below_drewN | apply below_drew1) | exact HB.out)))); (case aL => have := LMc53.out; omega); intro v178 w54 ho hb hg hat; rw [← Ny177.out] at ho; have n0_ := Aside0.mk (hb); have n1_ := Aside0.mk (ho); clear HB; clear HO_7; have HB := n0_; have HO179 := n1_; clear n0_ n1_; clear ho hb hg hat))
                                        go_roundg kj43
                                        case measure => have := HJ3.out; have := HJ7.out; have := HK3.out; have := HJ36.out; have := HJ43.out; omega
                                        case rel => exact ⟨(y177), (wrap64 ((wrap64 (x8_3 + 1)) + 1)), (by first | rfl | (simp; done) | (simp [bne_nil_isEmpty, beq_nil_isEmpty]; done) | (simp [*]; done)), H', ⟨by have := HJ3.out; have := HJ7.out; have := HK3.out; have := HJ36.out; have := HJ43.out; omega⟩, ⟨by (with_reducible repeat (first | apply Kd.R_alloc | apply Kd.R_drewN | apply Kd.R_drew)); exact HO179.out⟩, ⟨by repeat (first | (with_reducible first | exact HB.out | apply below_alloc | apply pw_below_drewN | apply below_drew1) | exact HB.out)⟩⟩
                                      · rw [if_neg c53] at H
                                        exact absurd H (by simp)
                                    · rw [if_neg c52] at H
                                      have c52b0 : ((bt x0_7 (ji40)) == 110) = false := beq_eq_false_iff_ne.mpr c52
                                      have c52b1 : ((bt x0_7 (ji40)) != 110) = true := bne_iff_ne.mpr c52
                                      by_cases c55 : (bt x0_7 (ji40)) = 94
                                      · rw [if_pos c55] at H
                                        have c55b0 : ((bt x0_7 (ji40)) == 94) = true := beq_iff_eq.mpr c55
                                        have c55b1 : ((bt x0_7 (ji40)) != 94) = false := bne_eq_false_iff_eq.mpr c55
                                        clear c55
                                        by_cases c56 : x7_3.length < 140737488355328
                                        · rw [if_pos c56] at H
                                          have LMc56 := Aside0.mk c56
                                          clear c56
                                          obtain ⟨y180, hy180⟩ : ∃ y_ : List Int, y_ = (x7_3 ++ [x9_43]) := ⟨_, rfl⟩
                                          replace H : (trystref08_Value.l2 kj43 x0_7 y180 (wrap64 ((wrap64 (x8_3 + 1)) + 1))) = some (r1, r2) := by first | (rw [hy180]; with_reducible exact H) | (have H2_ := (Option.bind_some _ _).symm.trans H; rw [hy180]; with_reducible exact H2_) | (have H2_ := (Option.bind_some _ _).symm.trans H; with_reducible exact H2_) | with_reducible exact H | (rw [hy180]; exact H) | exact H
                                          have Ny180 := Aside0.mk hy180
                                          clear hy180
                                          have H' := Aside0.mk H
                                          clear H
                                          go_wp2_with (first | ((with_reducible refine gate_builtin (b := .append) (xs := #[.tmp 117, .tmp 119]) rfl ?_); (try (refine gate_guard (by rfl) ?_; dsimp only)); at_builtin; refine Kd.R_append (Kd.int .u8) (w0 := w) w.heap.size rfl (.tmp 117) (.tmp 119) 55 5 (.int .u8 0) 1 rfl Tryd.underlying55 info5 rfl (by decide) (by omega) u7 x7_3 x9_43 [.int .u8 x9_43] (fun _ => True) (fun _ => False) rfl rfl ?aP (fun _ hk => hk.elim) ?aF ?aO ?aB ?aS ?aL ?_; (case aP => exact rfl); (case aB => exact (by repeat (first | (with_reducible first | exact HB.out | apply below_alloc | apply pw_below_drewN | apply below_drew1) | exact HB.out))); (case aF => exact (fun _ _ => trivial)); (case aO => exact (by (with_reducible repeat (first | apply Kd.R_alloc | apply Kd.R_drewN | apply Kd.R_drew)); exact HO_7.out)); (case aS => exact (below_size (by repeat (first | (with_reducible first | exact HB.out | apply below_alloc | apply pw_below_drewN | apply below_drew1) | exact HB.out)))); (case aL => have := LMc56.out; omega); intro v181 w57 ho hb hg hat; rw [← Ny180.out] at ho; have n0_ := Aside0.mk (hb); have n1_ := Aside0.mk (ho); clear HB; clear HO_7; have HB := n0_; have HO182 := n1_; clear n0_ n1_; clear ho hb hg hat))
                                          go_roundg kj43
                                          case measure => have := HJ3.out; have := HJ7.out; have := HK3.out; have := HJ36.out; have := HJ43.out; omega
                                          case rel => exact ⟨(y180), (wrap64 ((wrap64 (x8_3 + 1)) + 1)), (by first | rfl | (simp; done) | (simp [bne_nil_isEmpty, beq_nil_isEmpty]; done) | (simp [*]; done)), H', ⟨by have := HJ3.out; have := HJ7.out; have := HK3.out; have := HJ36.out; have := HJ43.out; omega⟩, ⟨by (with_reducible repeat (first | apply Kd.R_alloc | apply Kd.R_drewN | apply Kd.R_drew)); exact HO182.out⟩, ⟨by repeat (first | (with_reducible first | exact HB.out | apply below_alloc | apply pw_below_drewN | apply below_drew1) | exact HB.out)⟩⟩
                                        · rw [if_neg c56] at H
                                          exact absurd H (by simp)
                                      · rw [if_neg c55] at H
                                        have c55b0 : ((bt x0_7 (ji40)) == 94) = false := beq_eq_false_iff_ne.mpr c55
                                        have c55b1 : ((bt x0_7 (ji40)) != 94) = true := bne_iff_ne.mpr c55
                                        by_cases c58 : x7_3.length < 140737488355328
                                        · rw [if_pos c58] at H
                                          have LMc58 := Aside0.mk c58
                                          clear c58
                                          obtain ⟨y183, hy183⟩ : ∃ y_ : List Int, y_ = (x7_3 ++ [x9_43]) := ⟨_, rfl⟩
                                          replace H : (trystref08_Value.l2 kj43 x0_7 y183 (wrap64 (x8_3 + 1))) = some (r1, r2) := by first | (rw [hy183]; with_reducible exact H) | (have H2_ := (Option.bind_some _ _).symm.trans H; rw [hy183]; with_reducible exact H2_) | (have H2_ := (Option.bind_some _ _).symm.trans H; with_reducible exact H2_) | with_reducible exact H | (rw [hy183]; exact H) | exact H
                                          have Ny183 := Aside0.mk hy183
                                          clear hy183
                                          have H' := Aside0.mk H
                                          clear H
                                          go_wp2_with (first | ((with_reducible refine gate_builtin (b := .append) (xs := #[.tmp 117, .tmp 119]) rfl ?_); (try (refine gate_guard (by rfl) ?_; dsimp only)); at_builtin; refine Kd.R_append (Kd.int .u8) (w0 := w) w.heap.size rfl (.tmp 117) (.tmp 119) 55 5 (.int .u8 0) 1 rfl Tryd.underlying55 info5 rfl (by decide) (by omega) u7 x7_3 x9_43 [.int .u8 x9_43] (fun _ => True) (fun _ => False) rfl rfl ?aP (fun _ hk => hk.elim) ?aF ?aO ?aB ?aS ?aL ?_; (case aP => exact rfl); (case aB => exact (by repeat (first | (with_reducible first | exact HB.out | apply below_alloc | apply pw_below_drewN | apply below_drew1) | exact HB.out))); (case aF => exact (fun _ _ => trivial)); (case aO => exact (by (with_reducible repeat (first | apply Kd.R_alloc | apply Kd.R_drewN | apply Kd.R_drew)); exact HO_7.out)); (case aS => exact (below_size (by repeat (first | (with_reducible first | exact HB.out | apply below_alloc | apply pw_below_drewN | apply below_drew1) | exact HB.out)))); (case aL => have := LMc58.out; omega); intro v184 w59 ho hb hg hat; rw [← Ny183.out] at ho; have n0_ := Aside0.mk (hb); have n1_ := Aside0.mk (ho); clear HB; clear HO_7; have HB := n0_; have HO185 := n1_; clear n0_ n1_; clear ho hb hg hat))
                                          go_roundg kj43
                                          case measure => have := HJ3.out; have := HJ7.out; have := HK3.out; have := HJ36.out; have := HJ43.out; omega
                                          case rel => exact ⟨(y183), (wrap64 (x8_3 + 1)), (by first | rfl | (simp; done) | (simp [bne_nil_isEmpty, beq_nil_isEmpty]; done) | (simp [*]; done)), H', ⟨by have := HJ3.out; have := HJ7.out; have := HK3.out; have := HJ36.out; have := HJ43.out; omega⟩, ⟨by (with_reducible repeat (first | apply Kd.R_alloc | apply Kd.R_drewN | apply Kd.R_drew)); exact HO185.out⟩, ⟨by repeat (first | (with_reducible first | exact HB.out | apply below_alloc | apply pw_below_drewN | apply below_drew1) | exact HB.out)⟩⟩
                                        · rw [if_neg c58] at H
                                          exact absurd H (by simp)
                            · rw [if_neg c42] at H
                              exact absurd H (by simp)
                          · rw [if_neg c41] at H
                            exact absurd H (by simp)
                        · replace c39 := Bool.eq_false_iff.mpr c39
                          subst c39
                          have H1 : (if x7_3.length < 140737488355328 then (trystref08_Value.l2 kj36 x0_7 (x7_3 ++ [(bt x0_7 x8_3)]) (wrap64 (x8_3 + 1))) else (none)) = some (r1, r2) := by rw [if_neg (show ¬ (false = true) by decide)] at H; exact H
                          clear H
                          have H := H1
                          clear H1
                          by_cases c60 : x7_3.length < 140737488355328
                          · rw [if_pos c60] at H
                            have LMc60 := Aside0.mk c60
                            clear c60
                            obtain ⟨y186, hy186⟩ : ∃ y_ : List Int, y_ = (x7_3 ++ [(bt x0_7 x8_3)]) := ⟨_, rfl⟩
                            replace H : (trystref08_Value.l2 kj36 x0_7 y186 (wrap64 (x8_3 + 1))) = some (r1, r2) := by first | (rw [hy186]; with_reducible exact H) | (have H2_ := (Option.bind_some _ _).symm.trans H; rw [hy186]; with_reducible exact H2_) | (have H2_ := (Option.bind_some _ _).symm.trans H; with_reducible exact H2_) | with_reducible exact H | (rw [hy186]; exact H) | exact H
                            have Ny186 := Aside0.mk hy186
                            clear hy186
                            have H' := Aside0.mk H
                            clear H
                            go_wp2_with (first | ((with_reducible refine gate_builtin (b := .append) (xs := #[.tmp 117, .tmp 119]) rfl ?_); (try (refine gate_guard (by rfl) ?_; dsimp only)); at_builtin; refine Kd.R_append (Kd.int .u8) (w0 := w) w.heap.size rfl (.tmp 117) (.tmp 119) 55 5 (.int .u8 0) 1 rfl Tryd.underlying55 info5 rfl (by decide) (by omega) u7 x7_3 (bt x0_7 x8_3) [.int .u8 (bt x0_7 x8_3)] (fun _ => True) (fun _ => False) rfl rfl ?aP (fun _ hk => hk.elim) ?aF ?aO ?aB ?aS ?aL ?_; (case aP => exact rfl); (case aB => exact (by repeat (first | (with_reducible first | exact HB.out | apply below_alloc | apply pw_below_drewN | apply below_drew1) | exact HB.out))); (case aF => exact (fun _ _ => trivial)); (case aO => exact (by (with_reducible repeat (first | apply Kd.R_alloc | apply Kd.R_drewN | apply Kd.R_drew)); exact HO_7.out)); (case aS => exact (below_size (by repeat (first | (with_reducible first | exact HB.out | apply below_alloc | apply pw_below_drewN | apply below_drew1) | exact HB.out)))); (case aL => have := LMc60.out; omega); intro v187 w61 ho hb hg hat; rw [← Ny186.out] at ho; have n0_ := Aside0.mk (hb); have n1_ := Aside0.mk (ho); clear HB; clear HO_7; have HB := n0_; have HO188 := n1_; clear n0_ n1_; clear ho hb hg hat))
                            go_roundg kj36
                            case measure => have := HJ3.out; have := HJ7.out; have := HK3.out; have := HJ36.out; omega
                            case rel => exact ⟨(y186), (wrap64 (x8_3 + 1)), (by first | rfl | (simp; done) | (simp [bne_nil_isEmpty, beq_nil_isEmpty]; done) | (simp [*]; done)), H', ⟨by have := HJ3.out; have := HJ7.out; have := HK3.out; have := HJ36.out; omega⟩, ⟨by (with_reducible repeat (first | apply Kd.R_alloc | apply Kd.R_drewN | apply Kd.R_drew)); exact HO188.out⟩, ⟨by repeat (first | (with_reducible first | exact HB.out | apply below_alloc | apply pw_below_drewN | apply below_drew1) | exact HB.out)⟩⟩
                          · rw [if_neg c60] at H
                            exact absurd H (by simp)
                  · rw [if_neg c35] at H
                    exact absurd H (by simp)
                · rw [if_neg c34] at H
                  have c34b0 : decide (x8_3 < (x0_7.size : Int)) = false := decide_eq_false c34
                  clear c34
                  simp only [Option.some.injEq, Prod.mk.injEq] at H
                  obtain ⟨rfl, rfl⟩ := H
                  have hcv62 := own_string (P := Tryd.prog) Tryd.underlying55 Tryd.underlying5 Tryd.underlying9 (Kd.own_of_R HO_7.out)
                  go_wp2
                  go_ret2
                  exact ⟨by first | rfl | (simp [errW_none, errW_some] <;> rfl) | (simp [*, errW_none, errW_some] <;> rfl), by repeat (first | (with_reducible first | exact HB.out | apply below_alloc | apply pw_below_drewN | apply below_drew1) | exact HB.out)⟩
  · rw [if_neg c3] at H
    have c3b0 : (t170 == 0) = false := beq_eq_false_iff_ne.mpr c3
    have c3b1 : (t170 != 0) = true := bne_iff_ne.mpr c3
    simp only [Option.some.injEq, Prod.mk.injEq] at H
    obtain ⟨rfl, rfl⟩ := H
    go_enter Tryd.func20, Tryd.ntmps20
    go_wp2_with (first | ((with_reducible refine gate_callee (f := 13) rfl ?_); refine goesL_ (some 12) rfl rfl Tryd.func13 (by kernel_rfl) rfl #[.string a0, .bool false] rfl (by (try simp only [List.map_toArray, List.map_cons, List.map_nil]); first | done | rfl | (simp only [List.length_drop, List.length_take]; rfl)) ?_; (with_reducible refine (trystref08_Clean.calls k a0 false t170 _ (by first | (with_reducible exact hG) | exact GG.below hG (by repeat (first | (with_reducible first | exact HB.out | apply below_alloc | apply pw_below_drewN | apply below_drew1) | exact HB.out))) A2.out).mono ?_); rintro e w' ⟨rfl, ⟨nd, rfl⟩⟩; refine ⟨_, rfl, ?_⟩))
    go_ret2
    exact ⟨by first | rfl | (simp [errW_none, errW_some] <;> rfl) | (simp [*, errW_none, errW_some] <;> rfl), by repeat (first | (with_reducible first | exact HB.out | apply below_alloc | apply pw_below_drewN | apply below_drew1) | exact HB.out)⟩

end Go.Proofs.YtknmbalhbecdhaaDoor.Print
