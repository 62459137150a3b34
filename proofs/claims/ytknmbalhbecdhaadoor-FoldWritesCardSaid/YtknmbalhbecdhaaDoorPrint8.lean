-- Written by xprint.py (a program of this claim's session) out of the translation. Lean checks it.
import Derived.Test.YtknmbalhbecdhaaDoorPrint0
import Derived.Test.YtknmbalhbecdhaaDoorPrint2
import Derived.Test.YtknmbalhbecdhaaDoorPrint5
import Derived.Test.YtknmbalhbecdhaaDoorPrint6
import Derived.Test.YtknmbalhbecdhaaDoorPrint7
namespace Go.Proofs.YtknmbalhbecdhaaDoor.Print
open Go.RowKit Go.Proofs.YtknmbalhbecdhaaDoorW.PrintWords Go.Proofs.YtknmbalhbecdhaaDoorW.PrintLast Go.Proofs.YtknmbalhbecdhaaDoorW.PrintMore
attribute [local go_sem] max2_int min2_int max_two min_two max_three min_three max_four min_four   -- for this text's walks alone
set_option linter.unusedVariables false
set_option linter.unusedSimpArgs false

/-! ### trystlaw09_EscapeReads: function 4 -/
mutual
def trystlaw09_EscapeReads.j0 : Nat → ByteArray → Bool → Option (Bool)
  | 0, _, _ => none
  | k + 1, x0, x19 => if x19 = true then ((trystlaw09_awake.f k).bind fun t190 => (some t190)) else ((trystref08_Items.f k x0).bind fun bt191 => ((escape_Plain.f k x0).bind fun bt195 => ((escape_Items.f k x0).bind fun bt197 => ((escape_Value.f k x0).bind fun bt201 => ((trystref08_Value.f k x0).bind fun bt203 => (if bt201.1.toList = bt203.1.toList then (trystlaw09_EscapeReads.j1 k x0 bt191.1 bt191.2 bt195.1 bt195.2 bt197.1 bt197.2 (bt201.2 != bt203.2)) else (trystlaw09_EscapeReads.j1 k x0 bt191.1 bt191.2 bt195.1 bt195.2 bt197.1 bt197.2 true)))))))
def trystlaw09_EscapeReads.j1 : Nat → ByteArray → List ByteArray → Int → ByteArray → Int → List ByteArray → Int → Bool → Option (Bool)
  | 0, _, _, _, _, _, _, _, _ => none
  | k + 1, x0, x3, x4, x5, x6, x7, x8, x53 => if x53 = true then (some false) else (if x4 = 0 then (if (x3.length : Int) = 1 then (if x6 = 0 then (if 0 < (x3.length : Int) then (trystlaw09_EscapeReads.j2 k x0 x3 x5 x6 x7 x8 (x5.toList != (rdOf ByteArray.empty x3 0).toList)) else (none)) else (trystlaw09_EscapeReads.j2 k x0 x3 x5 x6 x7 x8 true)) else (trystlaw09_EscapeReads.j2 k x0 x3 x5 x6 x7 x8 false)) else (if x6 = x4 then (if x8 = x4 then (if x5.toList = ([] : List UInt8) then (some ((x7.length : Int) == 0)) else (some false)) else (some false)) else (some false)))
def trystlaw09_EscapeReads.j2 : Nat → ByteArray → List ByteArray → ByteArray → Int → List ByteArray → Int → Bool → Option (Bool)
  | 0, _, _, _, _, _, _, _ => none
  | k + 1, x0, x3, x5, x6, x7, x8, x74 => if x74 = true then (trystlaw09_EscapeReads.j3 k x0 x3 x7 x8 x74) else (if (x3.length : Int) > 1 then (if x6 = 7 then (trystlaw09_EscapeReads.j3 k x0 x3 x7 x8 (x5.toList != ([] : List UInt8))) else (trystlaw09_EscapeReads.j3 k x0 x3 x7 x8 true)) else (trystlaw09_EscapeReads.j3 k x0 x3 x7 x8 false))
def trystlaw09_EscapeReads.j3 : Nat → ByteArray → List ByteArray → List ByteArray → Int → Bool → Option (Bool)
  | 0, _, _, _, _, _ => none
  | k + 1, x0, x3, x7, x8, x74 => if x74 = true then (some false) else (if x0.toList = ([] : List UInt8) then (if x8 = 7 then (some ((x7.length : Int) == 0)) else (some false)) else (if x8 = 0 then ((trystlaw08_Same.f k x3 x7).bind fun t206 => (some t206)) else (some false)))
end
def trystlaw09_EscapeReads.f (k : Nat) (a0 : ByteArray) : Option (Bool) := (trystlaw09_awake.f k).bind fun t189 => (if t189 = true then (trystlaw09_EscapeReads.j0 k a0 (decide ((a0.size : Int) > 5000))) else (trystlaw09_EscapeReads.j0 k a0 true))
theorem trystlaw09_EscapeReads.mono_l : ∀ k, (∀ y0 y1, LeO (trystlaw09_EscapeReads.j0 k y0 y1) (trystlaw09_EscapeReads.j0 (k + 1) y0 y1)) ∧ (∀ y0 y1 y2 y3 y4 y5 y6 y7, LeO (trystlaw09_EscapeReads.j1 k y0 y1 y2 y3 y4 y5 y6 y7) (trystlaw09_EscapeReads.j1 (k + 1) y0 y1 y2 y3 y4 y5 y6 y7)) ∧ (∀ y0 y1 y2 y3 y4 y5 y6, LeO (trystlaw09_EscapeReads.j2 k y0 y1 y2 y3 y4 y5 y6) (trystlaw09_EscapeReads.j2 (k + 1) y0 y1 y2 y3 y4 y5 y6)) ∧ (∀ y0 y1 y2 y3 y4, LeO (trystlaw09_EscapeReads.j3 k y0 y1 y2 y3 y4) (trystlaw09_EscapeReads.j3 (k + 1) y0 y1 y2 y3 y4))
  | 0 => ⟨fun _ _ r h => by simp [trystlaw09_EscapeReads.j0] at h, fun _ _ _ _ _ _ _ _ r h => by simp [trystlaw09_EscapeReads.j1] at h, fun _ _ _ _ _ _ _ r h => by simp [trystlaw09_EscapeReads.j2] at h, fun _ _ _ _ _ r h => by simp [trystlaw09_EscapeReads.j3] at h⟩
  | k + 1 => by
    obtain ⟨ih0, ih1, ih2, ih3⟩ := trystlaw09_EscapeReads.mono_l k
    refine ⟨?_, ?_, ?_, ?_⟩
    · intro y0 y1
      unfold trystlaw09_EscapeReads.j0
      repeat' first
      | (with_reducible exact ih0 _ _)
      | (with_reducible exact ih1 _ _ _ _ _ _ _ _)
      | (with_reducible exact ih2 _ _ _ _ _ _ _)
      | (with_reducible exact ih3 _ _ _ _ _)
      | (with_reducible exact escape_Items.mono _ _)
      | (with_reducible exact escape_Plain.mono _ _)
      | (with_reducible exact escape_Value.mono _ _)
      | (with_reducible exact trystlaw08_Same.mono _ _ _)
      | (with_reducible exact trystlaw09_awake.mono _)
      | (with_reducible exact trystref08_Items.mono _ _)
      | (with_reducible exact trystref08_Value.mono _ _)
      | (with_reducible exact LeO.refl _)
      | (with_reducible exact LeO.none _)
      | (with_reducible refine LeO.ite ?_ ?_)
      | (with_reducible refine LeO.bind ?_ (fun _ => ?_))
      | exact ih0 _ _
      | exact ih1 _ _ _ _ _ _ _ _
      | exact ih2 _ _ _ _ _ _ _
      | exact ih3 _ _ _ _ _
      | exact escape_Items.mono _ _
      | exact escape_Plain.mono _ _
      | exact escape_Value.mono _ _
      | exact trystlaw08_Same.mono _ _ _
      | exact trystlaw09_awake.mono _
      | exact trystref08_Items.mono _ _
      | exact trystref08_Value.mono _ _
      | exact LeO.none _
      | refine LeO.ite ?_ ?_
      | refine LeO.bind ?_ (fun _ => ?_)
    · intro y0 y1 y2 y3 y4 y5 y6 y7
      unfold trystlaw09_EscapeReads.j1
      repeat' first
      | (with_reducible exact ih0 _ _)
      | (with_reducible exact ih1 _ _ _ _ _ _ _ _)
      | (with_reducible exact ih2 _ _ _ _ _ _ _)
      | (with_reducible exact ih3 _ _ _ _ _)
      | (with_reducible exact escape_Items.mono _ _)
      | (with_reducible exact escape_Plain.mono _ _)
      | (with_reducible exact escape_Value.mono _ _)
      | (with_reducible exact trystlaw08_Same.mono _ _ _)
      | (with_reducible exact trystlaw09_awake.mono _)
      | (with_reducible exact trystref08_Items.mono _ _)
      | (with_reducible exact trystref08_Value.mono _ _)
      | (with_reducible exact LeO.refl _)
      | (with_reducible exact LeO.none _)
      | (with_reducible refine LeO.ite ?_ ?_)
      | (with_reducible refine LeO.bind ?_ (fun _ => ?_))
      | exact ih0 _ _
      | exact ih1 _ _ _ _ _ _ _ _
      | exact ih2 _ _ _ _ _ _ _
      | exact ih3 _ _ _ _ _
      | exact escape_Items.mono _ _
      | exact escape_Plain.mono _ _
      | exact escape_Value.mono _ _
      | exact trystlaw08_Same.mono _ _ _
      | exact trystlaw09_awake.mono _
      | exact trystref08_Items.mono _ _
      | exact trystref08_Value.mono _ _
      | exact LeO.none _
      | refine LeO.ite ?_ ?_
      | refine LeO.bind ?_ (fun _ => ?_)
    · intro y0 y1 y2 y3 y4 y5 y6
      unfold trystlaw09_EscapeReads.j2
      repeat' first
      | (with_reducible exact ih0 _ _)
      | (with_reducible exact ih1 _ _ _ _ _ _ _ _)
      | (with_reducible exact ih2 _ _ _ _ _ _ _)
      | (with_reducible exact ih3 _ _ _ _ _)
      | (with_reducible exact escape_Items.mono _ _)
      | (with_reducible exact escape_Plain.mono _ _)
      | (with_reducible exact escape_Value.mono _ _)
      | (with_reducible exact trystlaw08_Same.mono _ _ _)
      | (with_reducible exact trystlaw09_awake.mono _)
      | (with_reducible exact trystref08_Items.mono _ _)
      | (with_reducible exact trystref08_Value.mono _ _)
      | (with_reducible exact LeO.refl _)
      | (with_reducible exact LeO.none _)
      | (with_reducible refine LeO.ite ?_ ?_)
      | (with_reducible refine LeO.bind ?_ (fun _ => ?_))
      | exact ih0 _ _
      | exact ih1 _ _ _ _ _ _ _ _
      | exact ih2 _ _ _ _ _ _ _
      | exact ih3 _ _ _ _ _
      | exact escape_Items.mono _ _
      | exact escape_Plain.mono _ _
      | exact escape_Value.mono _ _
      | exact trystlaw08_Same.mono _ _ _
      | exact trystlaw09_awake.mono _
      | exact trystref08_Items.mono _ _
      | exact trystref08_Value.mono _ _
      | exact LeO.none _
      | refine LeO.ite ?_ ?_
      | refine LeO.bind ?_ (fun _ => ?_)
    · intro y0 y1 y2 y3 y4
      unfold trystlaw09_EscapeReads.j3
      repeat' first
      | (with_reducible exact ih0 _ _)
      | (with_reducible exact ih1 _ _ _ _ _ _ _ _)
      | (with_reducible exact ih2 _ _ _ _ _ _ _)
      | (with_reducible exact ih3 _ _ _ _ _)
      | (with_reducible exact escape_Items.mono _ _)
      | (with_reducible exact escape_Plain.mono _ _)
      | (with_reducible exact escape_Value.mono _ _)
      | (with_reducible exact trystlaw08_Same.mono _ _ _)
      | (with_reducible exact trystlaw09_awake.mono _)
      | (with_reducible exact trystref08_Items.mono _ _)
      | (with_reducible exact trystref08_Value.mono _ _)
      | (with_reducible exact LeO.refl _)
      | (with_reducible exact LeO.none _)
      | (with_reducible refine LeO.ite ?_ ?_)
      | (with_reducible refine LeO.bind ?_ (fun _ => ?_))
      | exact ih0 _ _
      | exact ih1 _ _ _ _ _ _ _ _
      | exact ih2 _ _ _ _ _ _ _
      | exact ih3 _ _ _ _ _
      | exact escape_Items.mono _ _
      | exact escape_Plain.mono _ _
      | exact escape_Value.mono _ _
      | exact trystlaw08_Same.mono _ _ _
      | exact trystlaw09_awake.mono _
      | exact trystref08_Items.mono _ _
      | exact trystref08_Value.mono _ _
      | exact LeO.none _
      | refine LeO.ite ?_ ?_
      | refine LeO.bind ?_ (fun _ => ?_)
theorem trystlaw09_EscapeReads.mono : ∀ a0 k, LeO (trystlaw09_EscapeReads.f k a0) (trystlaw09_EscapeReads.f (k + 1) a0) := by
  intro a0 k
  obtain ⟨ih0, ih1, ih2, ih3⟩ := trystlaw09_EscapeReads.mono_l k
  unfold trystlaw09_EscapeReads.f
  repeat' first
      | (with_reducible exact ih0 _ _)
      | (with_reducible exact ih1 _ _ _ _ _ _ _ _)
      | (with_reducible exact ih2 _ _ _ _ _ _ _)
      | (with_reducible exact ih3 _ _ _ _ _)
      | (with_reducible exact escape_Items.mono _ _)
      | (with_reducible exact escape_Plain.mono _ _)
      | (with_reducible exact escape_Value.mono _ _)
      | (with_reducible exact trystlaw08_Same.mono _ _ _)
      | (with_reducible exact trystlaw09_awake.mono _)
      | (with_reducible exact trystref08_Items.mono _ _)
      | (with_reducible exact trystref08_Value.mono _ _)
      | (with_reducible exact LeO.refl _)
      | (with_reducible exact LeO.none _)
      | (with_reducible refine LeO.ite ?_ ?_)
      | (with_reducible refine LeO.bind ?_ (fun _ => ?_))
      | exact ih0 _ _
      | exact ih1 _ _ _ _ _ _ _ _
      | exact ih2 _ _ _ _ _ _ _
      | exact ih3 _ _ _ _ _
      | exact escape_Items.mono _ _
      | exact escape_Plain.mono _ _
      | exact escape_Value.mono _ _
      | exact trystlaw08_Same.mono _ _ _
      | exact trystlaw09_awake.mono _
      | exact trystref08_Items.mono _ _
      | exact trystref08_Value.mono _ _
      | exact LeO.none _
      | refine LeO.ite ?_ ?_
      | refine LeO.bind ?_ (fun _ => ?_)
set_option maxHeartbeats 8000000 in
set_option maxRecDepth 100000 in
theorem trystlaw09_EscapeReads.calls (k : Nat) (a0 : ByteArray) (r : Bool) (w : World) (hG : GG w) (h : trystlaw09_EscapeReads.f k a0 = some r) :
    Calls Tryd.prog 4 #[.string a0] w fun e w' => e = .returned (.bool r) ∧ Below w.heap.size w w' := by
  have HB := Aside0.mk (Below.refl w.heap.size w)
  have H : ((trystlaw09_awake.f k).bind fun t189 => (if t189 = true then (trystlaw09_EscapeReads.j0 k a0 (decide ((a0.size : Int) > 5000))) else (trystlaw09_EscapeReads.j0 k a0 true))) = some r := h
  clear h
  have HC2 := Aside0.mk H
  clear H
  go_enter Tryd.func4, Tryd.ntmps4
  go_upto_region 1 with (fail)
  go_cut [19] (fun v19 wc => ∃ (kq : Nat) (x19_1 : Bool), v19 = .bool x19_1 ∧ Aside0 (trystlaw09_EscapeReads.j0 kq a0 x19_1 = some r) ∧ Aside0 (kq ≤ k) ∧ Aside0 (Below w.heap.size w wc))
  case first =>
    have H := HC2.out
    clear HC2
    replace H := Option.bind_eq_some_iff.mp H
    obtain ⟨t189, A30, H⟩ := H
    replace H : (if t189 = true then (trystlaw09_EscapeReads.j0 k a0 (decide ((a0.size : Int) > 5000))) else (trystlaw09_EscapeReads.j0 k a0 true)) = some r := H
    have A3 := Aside0.mk A30
    clear A30
    by_cases c4 : t189 = true
    · subst c4
      have H1 : (trystlaw09_EscapeReads.j0 k a0 (decide ((a0.size : Int) > 5000))) = some r := by rw [if_pos rfl] at H; exact H
      clear H
      have H := H1
      clear H1
      have H' := Aside0.mk H
      clear H
      go_wp2_with (first | ((with_reducible refine gate_callee (f := 12) rfl ?_); refine goesL_ (some 13) rfl rfl Tryd.func12 (by kernel_rfl) rfl #[] rfl (by (try simp only [List.map_toArray, List.map_cons, List.map_nil]); first | done | rfl | (simp only [List.length_drop, List.length_take]; rfl)) ?_; (with_reducible refine (trystlaw09_awake.calls k  true _ (by first | (with_reducible exact hG) | exact GG.below hG (by repeat (first | (with_reducible first | exact HB.out | apply below_alloc | apply pw_below_drewN | apply below_drew1) | exact HB.out))) A3.out).mono ?_); rintro e w5 ⟨rfl, hb⟩; refine ⟨_, rfl, ?_⟩; have n0_ := Aside0.mk (below_step (by repeat (first | (with_reducible first | exact HB.out | apply below_alloc | apply pw_below_drewN | apply below_drew1) | exact HB.out)) hb); clear HB; have HB := n0_; clear n0_; (try clear hb); (try clear hb2); (try clear hk); (try clear hi)))
      go_meet
      case rel => exact ⟨_, (decide ((a0.size : Int) > 5000)), (by first | rfl | (simp; done) | (simp [bne_nil_isEmpty, beq_nil_isEmpty]; done) | (simp [*]; done)), H', ⟨by first | omega | exact Nat.le_refl _⟩, ⟨by repeat (first | (with_reducible first | exact HB.out | apply below_alloc | apply pw_below_drewN | apply below_drew1) | exact HB.out)⟩⟩
    · replace c4 := Bool.eq_false_iff.mpr c4
      subst c4
      have H1 : (trystlaw09_EscapeReads.j0 k a0 true) = some r := by rw [if_neg (show ¬ (false = true) by decide)] at H; exact H
      clear H
      have H := H1
      clear H1
      have H' := Aside0.mk H
      clear H
      go_wp2_with (first | ((with_reducible refine gate_callee (f := 12) rfl ?_); refine goesL_ (some 13) rfl rfl Tryd.func12 (by kernel_rfl) rfl #[] rfl (by (try simp only [List.map_toArray, List.map_cons, List.map_nil]); first | done | rfl | (simp only [List.length_drop, List.length_take]; rfl)) ?_; (with_reducible refine (trystlaw09_awake.calls k  false _ (by first | (with_reducible exact hG) | exact GG.below hG (by repeat (first | (with_reducible first | exact HB.out | apply below_alloc | apply pw_below_drewN | apply below_drew1) | exact HB.out))) A3.out).mono ?_); rintro e w6 ⟨rfl, hb⟩; refine ⟨_, rfl, ?_⟩; have n0_ := Aside0.mk (below_step (by repeat (first | (with_reducible first | exact HB.out | apply below_alloc | apply pw_below_drewN | apply below_drew1) | exact HB.out)) hb); clear HB; have HB := n0_; clear n0_; (try clear hb); (try clear hb2); (try clear hk); (try clear hi)))
      go_meet
      case rel => exact ⟨_, (true), (by first | rfl | (simp; done) | (simp [bne_nil_isEmpty, beq_nil_isEmpty]; done) | (simp [*]; done)), H', ⟨by first | omega | exact Nat.le_refl _⟩, ⟨by repeat (first | (with_reducible first | exact HB.out | apply below_alloc | apply pw_below_drewN | apply below_drew1) | exact HB.out)⟩⟩
  case rest =>
    clear HC2
    try clear c1
    try clear p2
    try clear c4
    obtain ⟨kq, x19_1, rfl, HA, HJ1, HB⟩ := hcut
    cases kq with
    | zero => exact absurd HA.out (by simp [trystlaw09_EscapeReads.j0])
    | succ kj1 =>
      have H := HA.out
      clear HA
      simp only [trystlaw09_EscapeReads.j0] at H
      by_cases c7 : x19_1 = true
      · subst c7
        have H1 : ((trystlaw09_awake.f kj1).bind fun t190 => (some t190)) = some r := by rw [if_pos rfl] at H; exact H
        clear H
        have H := H1
        clear H1
        replace H := Option.bind_eq_some_iff.mp H
        obtain ⟨t190, A80, H⟩ := H
        replace H : (some t190) = some r := H
        have A8 := Aside0.mk A80
        clear A80
        obtain rfl := Option.some.inj H
        go_wp2_with (first | ((with_reducible refine gate_callee (f := 12) rfl ?_); refine goesL_ (some 20) rfl rfl Tryd.func12 (by kernel_rfl) rfl #[] rfl (by (try simp only [List.map_toArray, List.map_cons, List.map_nil]); first | done | rfl | (simp only [List.length_drop, List.length_take]; rfl)) ?_; (with_reducible refine (trystlaw09_awake.calls kj1  t190 _ (by first | (with_reducible exact hG) | exact GG.below hG (by repeat (first | (with_reducible first | exact HB.out | apply below_alloc | apply pw_below_drewN | apply below_drew1) | exact HB.out))) A8.out).mono ?_); rintro e w9 ⟨rfl, hb⟩; refine ⟨_, rfl, ?_⟩; have n0_ := Aside0.mk (below_step (by repeat (first | (with_reducible first | exact HB.out | apply below_alloc | apply pw_below_drewN | apply below_drew1) | exact HB.out)) hb); clear HB; have HB := n0_; clear n0_; (try clear hb); (try clear hb2); (try clear hk); (try clear hi)))
        go_ret
        exact ⟨by first | rfl | (simp [errW_none, errW_some] <;> rfl) | (simp [*, errW_none, errW_some] <;> rfl), by repeat (first | (with_reducible first | exact HB.out | apply below_alloc | apply pw_below_drewN | apply below_drew1) | exact HB.out)⟩
      · replace c7 := Bool.eq_false_iff.mpr c7
        subst c7
        have H1 : ((trystref08_Items.f kj1 a0).bind fun bt191 => ((escape_Plain.f kj1 a0).bind fun bt195 => ((escape_Items.f kj1 a0).bind fun bt197 => ((escape_Value.f kj1 a0).bind fun bt201 => ((trystref08_Value.f kj1 a0).bind fun bt203 => (if bt201.1.toList = bt203.1.toList then (trystlaw09_EscapeReads.j1 kj1 a0 bt191.1 bt191.2 bt195.1 bt195.2 bt197.1 bt197.2 (bt201.2 != bt203.2)) else (trystlaw09_EscapeReads.j1 kj1 a0 bt191.1 bt191.2 bt195.1 bt195.2 bt197.1 bt197.2 true))))))) = some r := by rw [if_neg (show ¬ (false = true) by decide)] at H; exact H
        clear H
        have H := H1
        clear H1
        replace H := Option.bind_eq_some_iff.mp H
        obtain ⟨⟨t191, t192⟩, A100, H⟩ := H
        replace H : ((escape_Plain.f kj1 a0).bind fun bt195 => ((escape_Items.f kj1 a0).bind fun bt197 => ((escape_Value.f kj1 a0).bind fun bt201 => ((trystref08_Value.f kj1 a0).bind fun bt203 => (if bt201.1.toList = bt203.1.toList then (trystlaw09_EscapeReads.j1 kj1 a0 t191 t192 bt195.1 bt195.2 bt197.1 bt197.2 (bt201.2 != bt203.2)) else (trystlaw09_EscapeReads.j1 kj1 a0 t191 t192 bt195.1 bt195.2 bt197.1 bt197.2 true)))))) = some r := H
        have A10 := Aside0.mk A100
        clear A100
        replace H := Option.bind_eq_some_iff.mp H
        obtain ⟨⟨t195, t196⟩, A110, H⟩ := H
        replace H : ((escape_Items.f kj1 a0).bind fun bt197 => ((escape_Value.f kj1 a0).bind fun bt201 => ((trystref08_Value.f kj1 a0).bind fun bt203 => (if bt201.1.toList = bt203.1.toList then (trystlaw09_EscapeReads.j1 kj1 a0 t191 t192 t195 t196 bt197.1 bt197.2 (bt201.2 != bt203.2)) else (trystlaw09_EscapeReads.j1 kj1 a0 t191 t192 t195 t196 bt197.1 bt197.2 true))))) = some r := H
        have A11 := Aside0.mk A110
        clear A110
        replace H := Option.bind_eq_some_iff.mp H
        obtain ⟨⟨t197, t198⟩, A120, H⟩ := H
        replace H : ((escape_Value.f kj1 a0).bind fun bt201 => ((trystref08_Value.f kj1 a0).bind fun bt203 => (if bt201.1.toList = bt203.1.toList then (trystlaw09_EscapeReads.j1 kj1 a0 t191 t192 t195 t196 t197 t198 (bt201.2 != bt203.2)) else (trystlaw09_EscapeReads.j1 kj1 a0 t191 t192 t195 t196 t197 t198 true)))) = some r := H
        have A12 := Aside0.mk A120
        clear A120
        replace H := Option.bind_eq_some_iff.mp H
        obtain ⟨⟨t201, t202⟩, A130, H⟩ := H
        replace H : ((trystref08_Value.f kj1 a0).bind fun bt203 => (if t201.toList = bt203.1.toList then (trystlaw09_EscapeReads.j1 kj1 a0 t191 t192 t195 t196 t197 t198 (t202 != bt203.2)) else (trystlaw09_EscapeReads.j1 kj1 a0 t191 t192 t195 t196 t197 t198 true))) = some r := H
        have A13 := Aside0.mk A130
        clear A130
        replace H := Option.bind_eq_some_iff.mp H
        obtain ⟨⟨t203, t204⟩, A140, H⟩ := H
        replace H : (if t201.toList = t203.toList then (trystlaw09_EscapeReads.j1 kj1 a0 t191 t192 t195 t196 t197 t198 (t202 != t204)) else (trystlaw09_EscapeReads.j1 kj1 a0 t191 t192 t195 t196 t197 t198 true)) = some r := H
        have A14 := Aside0.mk A140
        clear A140
        have HC15 := Aside0.mk H
        clear H
        go_upto_region 8 with (first | ((with_reducible refine gate_callee (f := 17) rfl ?_); refine goesL_ (some 23) rfl rfl Tryd.func17 (by kernel_rfl) rfl #[.string a0] rfl (by (try simp only [List.map_toArray, List.map_cons, List.map_nil]); first | done | rfl | (simp only [List.length_drop, List.length_take]; rfl)) ?_; (with_reducible refine (trystref08_Items.calls kj1 a0 t191 t192 _ (by first | (with_reducible exact hG) | exact GG.below hG (by repeat (first | (with_reducible first | exact HB.out | apply below_alloc | apply pw_below_drewN | apply below_drew1) | exact HB.out))) A10.out).mono ?_); rintro e w16 ⟨v193, rfl, ho0, hb⟩; refine ⟨_, rfl, ?_⟩; have n0_ := Aside0.mk (Kd.R_lower ho0 (below_size (by repeat (first | (with_reducible first | exact HB.out | apply below_alloc | apply pw_below_drewN | apply below_drew1) | exact HB.out)))); have n1_ := Aside0.mk (below_step (by repeat (first | (with_reducible first | exact HB.out | apply below_alloc | apply pw_below_drewN | apply below_drew1) | exact HB.out)) hb); clear HB; have HO194 := n0_; have HB := n1_; clear n0_ n1_; (try clear hb); (try clear hb2); (try clear hk); (try clear hi); (try clear ho0)) | ((with_reducible refine gate_callee (f := 18) rfl ?_); refine goesL_ (some 28) rfl rfl Tryd.func18 (by kernel_rfl) rfl #[.string a0] rfl (by (try simp only [List.map_toArray, List.map_cons, List.map_nil]); first | done | rfl | (simp only [List.length_drop, List.length_take]; rfl)) ?_; (with_reducible refine (escape_Plain.calls kj1 a0 t195 t196 _ (by first | (with_reducible exact hG) | exact GG.below hG (by repeat (first | (with_reducible first | exact HB.out | apply below_alloc | apply pw_below_drewN | apply below_drew1) | exact HB.out))) A11.out).mono ?_); rintro e w17 ⟨rfl, hb⟩; refine ⟨_, rfl, ?_⟩; have n0_ := Aside0.mk (Kd.R_below (by (with_reducible repeat (first | apply Kd.R_alloc | apply Kd.R_drewN | apply Kd.R_drew)); exact HO194.out) hb); have n1_ := Aside0.mk (below_step (by repeat (first | (with_reducible first | exact HB.out | apply below_alloc | apply pw_below_drewN | apply below_drew1) | exact HB.out)) hb); clear HO194; clear HB; have HO194 := n0_; have HB := n1_; clear n0_ n1_; (try clear hb); (try clear hb2); (try clear hk); (try clear hi)) | ((with_reducible refine gate_callee (f := 15) rfl ?_); refine goesL_ (some 33) rfl rfl Tryd.func15 (by kernel_rfl) rfl #[.string a0] rfl (by (try simp only [List.map_toArray, List.map_cons, List.map_nil]); first | done | rfl | (simp only [List.length_drop, List.length_take]; rfl)) ?_; (with_reducible refine (escape_Items.calls kj1 a0 t197 t198 _ (by first | (with_reducible exact hG) | exact GG.below hG (by repeat (first | (with_reducible first | exact HB.out | apply below_alloc | apply pw_below_drewN | apply below_drew1) | exact HB.out))) A12.out).mono ?_); rintro e w18 ⟨v199, rfl, ho0, hb⟩; refine ⟨_, rfl, ?_⟩; have n0_ := Aside0.mk (Kd.R_elder' (by (with_reducible repeat (first | apply Kd.R_alloc | apply Kd.R_drewN | apply Kd.R_drew)); exact HO194.out) (Kd.R_base ho0) hb); have n1_ := Aside0.mk (Kd.R_lower (Kd.R_new' ho0 (Kd.R_lt (by (with_reducible repeat (first | apply Kd.R_alloc | apply Kd.R_drewN | apply Kd.R_drew)); exact HO194.out))) (below_size (by repeat (first | (with_reducible first | exact HB.out | apply below_alloc | apply pw_below_drewN | apply below_drew1) | exact HB.out)))); have n2_ := Aside0.mk (below_step (by repeat (first | (with_reducible first | exact HB.out | apply below_alloc | apply pw_below_drewN | apply below_drew1) | exact HB.out)) hb); clear HO194; clear HB; have HO194 := n0_; have HO200 := n1_; have HB := n2_; clear n0_ n1_ n2_; (try clear hb); (try clear hb2); (try clear hk); (try clear hi); (try clear ho0)) | ((with_reducible refine gate_callee (f := 19) rfl ?_); refine goesL_ (some 38) rfl rfl Tryd.func19 (by kernel_rfl) rfl #[.string a0] rfl (by (try simp only [List.map_toArray, List.map_cons, List.map_nil]); first | done | rfl | (simp only [List.length_drop, List.length_take]; rfl)) ?_; (with_reducible refine (escape_Value.calls kj1 a0 t201 t202 _ (by first | (with_reducible exact hG) | exact GG.below hG (by repeat (first | (with_reducible first | exact HB.out | apply below_alloc | apply pw_below_drewN | apply below_drew1) | exact HB.out))) A13.out).mono ?_); rintro e w19 ⟨rfl, hb⟩; refine ⟨_, rfl, ?_⟩; have n0_ := Aside0.mk (Kd.R_below (by (with_reducible repeat (first | apply Kd.R_alloc | apply Kd.R_drewN | apply Kd.R_drew)); exact HO194.out) hb); have n1_ := Aside0.mk (Kd.R_below (by (with_reducible repeat (first | apply Kd.R_alloc | apply Kd.R_drewN | apply Kd.R_drew)); exact HO200.out) hb); have n2_ := Aside0.mk (below_step (by repeat (first | (with_reducible first | exact HB.out | apply below_alloc | apply pw_below_drewN | apply below_drew1) | exact HB.out)) hb); clear HO194; clear HO200; clear HB; have HO194 := n0_; have HO200 := n1_; have HB := n2_; clear n0_ n1_ n2_; (try clear hb); (try clear hb2); (try clear hk); (try clear hi)) | ((with_reducible refine gate_callee (f := 20) rfl ?_); refine goesL_ (some 43) rfl rfl Tryd.func20 (by kernel_rfl) rfl #[.string a0] rfl (by (try simp only [List.map_toArray, List.map_cons, List.map_nil]); first | done | rfl | (simp only [List.length_drop, List.length_take]; rfl)) ?_; (with_reducible refine (trystref08_Value.calls kj1 a0 t203 t204 _ (by first | (with_reducible exact hG) | exact GG.below hG (by repeat (first | (with_reducible first | exact HB.out | apply below_alloc | apply pw_below_drewN | apply below_drew1) | exact HB.out))) A14.out).mono ?_); rintro e w20 ⟨rfl, hb⟩; refine ⟨_, rfl, ?_⟩; have n0_ := Aside0.mk (Kd.R_below (by (with_reducible repeat (first | apply Kd.R_alloc | apply Kd.R_drewN | apply Kd.R_drew)); exact HO194.out) hb); have n1_ := Aside0.mk (Kd.R_below (by (with_reducible repeat (first | apply Kd.R_alloc | apply Kd.R_drewN | apply Kd.R_drew)); exact HO200.out) hb); have n2_ := Aside0.mk (below_step (by repeat (first | (with_reducible first | exact HB.out | apply below_alloc | apply pw_below_drewN | apply below_drew1) | exact HB.out)) hb); clear HO194; clear HO200; clear HB; have HO194 := n0_; have HO200 := n1_; have HB := n2_; clear n0_ n1_ n2_; (try clear hb); (try clear hb2); (try clear hk); (try clear hi)))
        (try simp only [Act.put, List.setIfInBounds_toArray, List.set_cons_zero, List.set_cons_succ])
        go_cut [53] (fun v53 wc => ∃ (kq : Nat) (x53_14 : Bool), v53 = .bool x53_14 ∧ Aside0 (trystlaw09_EscapeReads.j1 kq a0 t191 t192 t195 t196 t197 t198 x53_14 = some r) ∧ Aside0 (kq ≤ kj1) ∧ Aside0 (Kd.R Kd.string 9 wc w.heap.size (fun k_ => some k_ ≠ (v199 : Value).ownBlock) v193 t191) ∧ Aside0 (Kd.R Kd.string 9 wc w.heap.size (fun k_ => some k_ ≠ (v193 : Value).ownBlock) v199 t197) ∧ Aside0 (Below w.heap.size w wc))
        case first =>
          have H := HC15.out
          clear HC15
          by_cases c21 : t201.toList = t203.toList
          · rw [if_pos c21] at H
            have c21b0 : (t201.toList == t203.toList) = true := beq_iff_eq.mpr c21
            have c21b1 : (t201.toList != t203.toList) = false := bne_eq_false_iff_eq.mpr c21
            clear c21
            (first | rw [c21b0] | (simp only [i64_w, i32_w]; rw [c21b0]) | skip)
            have H' := Aside0.mk H
            clear H
            go_wp2
            go_meet
            case rel => exact ⟨_, ((t202 != t204)), (by first | rfl | (simp; done) | (simp [bne_nil_isEmpty, beq_nil_isEmpty]; done) | (simp [*]; done)), H', ⟨by have := HJ1.out; first | omega | exact Nat.le_refl _⟩, ⟨by (with_reducible repeat (first | apply Kd.R_alloc | apply Kd.R_drewN | apply Kd.R_drew)); exact Kd.R_mono HO194.out (fun _ hk => hk.2)⟩, ⟨by (with_reducible repeat (first | apply Kd.R_alloc | apply Kd.R_drewN | apply Kd.R_drew)); exact Kd.R_mono HO200.out (fun _ hk => hk.2)⟩, ⟨by repeat (first | (with_reducible first | exact HB.out | apply below_alloc | apply pw_below_drewN | apply below_drew1) | exact HB.out)⟩⟩
          · rw [if_neg c21] at H
            have c21b0 : (t201.toList == t203.toList) = false := beq_eq_false_iff_ne.mpr c21
            have c21b1 : (t201.toList != t203.toList) = true := bne_iff_ne.mpr c21
            (first | rw [c21b0] | (simp only [i64_w, i32_w]; rw [c21b0]) | skip)
            have H' := Aside0.mk H
            clear H
            go_wp2
            go_meet
            case rel => exact ⟨_, (true), (by first | rfl | (simp; done) | (simp [bne_nil_isEmpty, beq_nil_isEmpty]; done) | (simp [*]; done)), H', ⟨by have := HJ1.out; first | omega | exact Nat.le_refl _⟩, ⟨by (with_reducible repeat (first | apply Kd.R_alloc | apply Kd.R_drewN | apply Kd.R_drew)); exact Kd.R_mono HO194.out (fun _ hk => hk.2)⟩, ⟨by (with_reducible repeat (first | apply Kd.R_alloc | apply Kd.R_drewN | apply Kd.R_drew)); exact Kd.R_mono HO200.out (fun _ hk => hk.2)⟩, ⟨by repeat (first | (with_reducible first | exact HB.out | apply below_alloc | apply pw_below_drewN | apply below_drew1) | exact HB.out)⟩⟩
        case rest =>
          clear HC15
          try clear c1
          try clear c2
          try clear p2
          try clear c4
          try clear c7
          try clear c12
          try clear c15
          try clear c17
          try clear c18
          try clear c19
          try clear c20
          try clear c21
          try clear c21b0
          try clear c21b1
          try clear p2
          obtain ⟨kq, x53_14, rfl, HA, HJ14, HO_3, HO_7, HB⟩ := hcut
          cases kq with
          | zero => exact absurd HA.out (by simp [trystlaw09_EscapeReads.j1])
          | succ kj14 =>
            have H := HA.out
            clear HA
            simp only [trystlaw09_EscapeReads.j1] at H
            by_cases c22 : x53_14 = true
            · subst c22
              have H1 : (some false) = some r := by rw [if_pos rfl] at H; exact H
              clear H
              have H := H1
              clear H1
              obtain rfl := Option.some.inj H
              go_wp2
              go_ret
              exact ⟨by first | rfl | (simp [errW_none, errW_some] <;> rfl) | (simp [*, errW_none, errW_some] <;> rfl), by repeat (first | (with_reducible first | exact HB.out | apply below_alloc | apply pw_below_drewN | apply below_drew1) | exact HB.out)⟩
            · replace c22 := Bool.eq_false_iff.mpr c22
              subst c22
              have H1 : (if t192 = 0 then (if (t191.length : Int) = 1 then (if t196 = 0 then (if 0 < (t191.length : Int) then (trystlaw09_EscapeReads.j2 kj14 a0 t191 t195 t196 t197 t198 (t195.toList != (rdOf ByteArray.empty t191 0).toList)) else (none)) else (trystlaw09_EscapeReads.j2 kj14 a0 t191 t195 t196 t197 t198 true)) else (trystlaw09_EscapeReads.j2 kj14 a0 t191 t195 t196 t197 t198 false)) else (if t196 = t192 then (if t198 = t192 then (if t195.toList = ([] : List UInt8) then (some ((t197.length : Int) == 0)) else (some false)) else (some false)) else (some false))) = some r := by rw [if_neg (show ¬ (false = true) by decide)] at H; exact H
              clear H
              have H := H1
              clear H1
              by_cases c23 : t192 = 0
              · rw [if_pos c23] at H
                have c23b0 : (t192 == 0) = true := beq_iff_eq.mpr c23
                have c23b1 : (t192 != 0) = false := bne_eq_false_iff_eq.mpr c23
                clear c23
                have HC24 := Aside0.mk H
                clear H
                go_upto_region 12 with (fail)
                go_cut [74] (fun v74 wc => ∃ (kq : Nat) (x74_23 : Bool), v74 = .bool x74_23 ∧ Aside0 (trystlaw09_EscapeReads.j2 kq a0 t191 t195 t196 t197 t198 x74_23 = some r) ∧ Aside0 (kq ≤ kj14) ∧ Aside0 (Kd.R Kd.string 9 wc w.heap.size (fun k_ => some k_ ≠ (v199 : Value).ownBlock) v193 t191) ∧ Aside0 (Kd.R Kd.string 9 wc w.heap.size (fun k_ => some k_ ≠ (v193 : Value).ownBlock) v199 t197) ∧ Aside0 (Below w.heap.size w wc))
                case first =>
                  have H := HC24.out
                  clear HC24
                  by_cases c25 : (t191.length : Int) = 1
                  · rw [if_pos c25] at H
                    have c25b0 : ((t191.length : Int) == 1) = true := beq_iff_eq.mpr c25
                    have c25b1 : ((t191.length : Int) != 1) = false := bne_eq_false_iff_eq.mpr c25
                    clear c25
                    (first | rw [c25b0] | (simp only [i64_w, i32_w]; rw [c25b0]) | skip)
                    by_cases c26 : t196 = 0
                    · rw [if_pos c26] at H
                      have c26b0 : (t196 == 0) = true := beq_iff_eq.mpr c26
                      have c26b1 : (t196 != 0) = false := bne_eq_false_iff_eq.mpr c26
                      clear c26
                      by_cases c27 : 0 < (t191.length : Int)
                      · rw [if_pos c27] at H
                        have c27b0 : decide (0 < (t191.length : Int)) = true := decide_eq_true c27
                        have c27b1 : decide (0 < t191.length) = true := decide_eq_true (by omega)
                        clear c27
                        have H' := Aside0.mk H
                        clear H
                        obtain ⟨Ao28, co28, eo28⟩ := Kd.R_slice HO_3.out
                        subst eo28
                        have p205 : 0 ≤ (0 : Int) := (by omega)
                        have q205 : 0 < (t191.length : Int) := of_decide_eq_true (by first | (with_reducible assumption) | assumption)
                        obtain ⟨ad205, e205, hx205_0⟩ := Kd.at_string (Kd.R_reads' HO_3.out).2.2 0 p205 q205
                        cases e205
                        have qi205 : (0 < t191.length) = True := eq_true (by omega)
                        (try rw [show ((0 : Int)).toNat = 0 from rfl] at hx205_0)
                        (try rw [Addr.add_zero'] at hx205_0)
                        replace p205 := eq_true p205
                        replace q205 := eq_true q205
                        go_wp2
                        go_meet
                        case rel => exact ⟨_, ((t195.toList != (rdOf ByteArray.empty t191 0).toList)), (by first | rfl | (simp; done) | (simp [bne_nil_isEmpty, beq_nil_isEmpty]; done) | (simp [*]; done)), H', ⟨by have := HJ1.out; have := HJ14.out; first | omega | exact Nat.le_refl _⟩, ⟨by (with_reducible repeat (first | apply Kd.R_alloc | apply Kd.R_drewN | apply Kd.R_drew)); exact HO_3.out⟩, ⟨by (with_reducible repeat (first | apply Kd.R_alloc | apply Kd.R_drewN | apply Kd.R_drew)); exact HO_7.out⟩, ⟨by repeat (first | (with_reducible first | exact HB.out | apply below_alloc | apply pw_below_drewN | apply below_drew1) | exact HB.out)⟩⟩
                      · rw [if_neg c27] at H
                        exact absurd H (by simp)
                    · rw [if_neg c26] at H
                      have c26b0 : (t196 == 0) = false := beq_eq_false_iff_ne.mpr c26
                      have c26b1 : (t196 != 0) = true := bne_iff_ne.mpr c26
                      have H' := Aside0.mk H
                      clear H
                      obtain ⟨Ao29, co29, eo29⟩ := Kd.R_slice HO_3.out
                      subst eo29
                      go_wp2
                      go_meet
                      case rel => exact ⟨_, (true), (by first | rfl | (simp; done) | (simp [bne_nil_isEmpty, beq_nil_isEmpty]; done) | (simp [*]; done)), H', ⟨by have := HJ1.out; have := HJ14.out; first | omega | exact Nat.le_refl _⟩, ⟨by (with_reducible repeat (first | apply Kd.R_alloc | apply Kd.R_drewN | apply Kd.R_drew)); exact HO_3.out⟩, ⟨by (with_reducible repeat (first | apply Kd.R_alloc | apply Kd.R_drewN | apply Kd.R_drew)); exact HO_7.out⟩, ⟨by repeat (first | (with_reducible first | exact HB.out | apply below_alloc | apply pw_below_drewN | apply below_drew1) | exact HB.out)⟩⟩
                  · rw [if_neg c25] at H
                    have c25b0 : ((t191.length : Int) == 1) = false := beq_eq_false_iff_ne.mpr c25
                    have c25b1 : ((t191.length : Int) != 1) = true := bne_iff_ne.mpr c25
                    (first | rw [c25b0] | (simp only [i64_w, i32_w]; rw [c25b0]) | skip)
                    have H' := Aside0.mk H
                    clear H
                    obtain ⟨Ao30, co30, eo30⟩ := Kd.R_slice HO_3.out
                    subst eo30
                    go_wp2
                    go_meet
                    case rel => exact ⟨_, (false), (by first | rfl | (simp; done) | (simp [bne_nil_isEmpty, beq_nil_isEmpty]; done) | (simp [*]; done)), H', ⟨by have := HJ1.out; have := HJ14.out; first | omega | exact Nat.le_refl _⟩, ⟨by (with_reducible repeat (first | apply Kd.R_alloc | apply Kd.R_drewN | apply Kd.R_drew)); exact HO_3.out⟩, ⟨by (with_reducible repeat (first | apply Kd.R_alloc | apply Kd.R_drewN | apply Kd.R_drew)); exact HO_7.out⟩, ⟨by repeat (first | (with_reducible first | exact HB.out | apply below_alloc | apply pw_below_drewN | apply below_drew1) | exact HB.out)⟩⟩
                case rest =>
                  clear HC24
                  try clear c1
                  try clear c2
                  try clear p2
                  try clear q2
                  try clear hx2
                  try clear qi2
                  try clear c4
                  try clear c7
                  try clear c12
                  try clear c15
                  try clear c17
                  try clear c18
                  try clear c19
                  try clear c20
                  try clear p20
                  try clear q20
                  try clear hx20
                  try clear qi20
                  try clear c21
                  try clear c21b0
                  try clear c21b1
                  try clear c22
                  try clear c23
                  try clear c23b0
                  try clear c23b1
                  try clear c25
                  try clear c25b0
                  try clear c25b1
                  try clear c26
                  try clear c26b0
                  try clear c26b1
                  try clear c27
                  try clear c27b0
                  try clear c27b1
                  try clear hx205_0
                  try clear p2
                  try clear p205
                  try clear q205
                  obtain ⟨kq, x74_23, rfl, HA, HJ23, HO_3, HO_7, HB⟩ := hcut
                  cases kq with
                  | zero => exact absurd HA.out (by simp [trystlaw09_EscapeReads.j2])
                  | succ kj23 =>
                    have H := HA.out
                    clear HA
                    simp only [trystlaw09_EscapeReads.j2] at H
                    have HC31 := Aside0.mk H
                    clear H
                    go_upto_if 74 with (fail)
                    go_cut [74] (fun v74 wc => ∃ (kq : Nat) (x74_30 : Bool), v74 = .bool x74_30 ∧ Aside0 (trystlaw09_EscapeReads.j3 kq a0 t191 t197 t198 x74_30 = some r) ∧ Aside0 (kq ≤ kj23) ∧ Aside0 (Kd.R Kd.string 9 wc w.heap.size (fun k_ => some k_ ≠ (v199 : Value).ownBlock) v193 t191) ∧ Aside0 (Kd.R Kd.string 9 wc w.heap.size (fun k_ => some k_ ≠ (v193 : Value).ownBlock) v199 t197) ∧ Aside0 (Below w.heap.size w wc))
                    case first =>
                      have H := HC31.out
                      clear HC31
                      by_cases c32 : x74_23 = true
                      · subst c32
                        have H1 : (trystlaw09_EscapeReads.j3 kj23 a0 t191 t197 t198 true) = some r := by rw [if_pos rfl] at H; exact H
                        clear H
                        have H := H1
                        clear H1
                        have H' := Aside0.mk H
                        clear H
                        go_wp2
                        go_meet
                        case rel => exact ⟨_, (true), (by first | rfl | (simp; done) | (simp [bne_nil_isEmpty, beq_nil_isEmpty]; done) | (simp [*]; done)), H', ⟨by have := HJ1.out; have := HJ14.out; have := HJ23.out; first | omega | exact Nat.le_refl _⟩, ⟨by (with_reducible repeat (first | apply Kd.R_alloc | apply Kd.R_drewN | apply Kd.R_drew)); exact HO_3.out⟩, ⟨by (with_reducible repeat (first | apply Kd.R_alloc | apply Kd.R_drewN | apply Kd.R_drew)); exact HO_7.out⟩, ⟨by repeat (first | (with_reducible first | exact HB.out | apply below_alloc | apply pw_below_drewN | apply below_drew1) | exact HB.out)⟩⟩
                      · replace c32 := Bool.eq_false_iff.mpr c32
                        subst c32
                        have H1 : (if (t191.length : Int) > 1 then (if t196 = 7 then (trystlaw09_EscapeReads.j3 kj23 a0 t191 t197 t198 (t195.toList != ([] : List UInt8))) else (trystlaw09_EscapeReads.j3 kj23 a0 t191 t197 t198 true)) else (trystlaw09_EscapeReads.j3 kj23 a0 t191 t197 t198 false)) = some r := by rw [if_neg (show ¬ (false = true) by decide)] at H; exact H
                        clear H
                        have H := H1
                        clear H1
                        by_cases c33 : (t191.length : Int) > 1
                        · rw [if_pos c33] at H
                          have c33b0 : decide (1 < (t191.length : Int)) = true := decide_eq_true c33
                          have c33b1 : decide (1 < t191.length) = true := decide_eq_true (by omega)
                          clear c33
                          (first | rw [c33b0] | (simp only [i64_w, i32_w]; rw [c33b0]) | skip)
                          by_cases c34 : t196 = 7
                          · rw [if_pos c34] at H
                            have c34b0 : (t196 == 7) = true := beq_iff_eq.mpr c34
                            have c34b1 : (t196 != 7) = false := bne_eq_false_iff_eq.mpr c34
                            clear c34
                            have H' := Aside0.mk H
                            clear H
                            obtain ⟨Ao35, co35, eo35⟩ := Kd.R_slice HO_3.out
                            subst eo35
                            go_wp2
                            go_meet
                            case rel => exact ⟨_, ((t195.toList != ([] : List UInt8))), (by first | rfl | (simp; done) | (simp [bne_nil_isEmpty, beq_nil_isEmpty]; done) | (simp [*]; done)), H', ⟨by have := HJ1.out; have := HJ14.out; have := HJ23.out; first | omega | exact Nat.le_refl _⟩, ⟨by (with_reducible repeat (first | apply Kd.R_alloc | apply Kd.R_drewN | apply Kd.R_drew)); exact HO_3.out⟩, ⟨by (with_reducible repeat (first | apply Kd.R_alloc | apply Kd.R_drewN | apply Kd.R_drew)); exact HO_7.out⟩, ⟨by repeat (first | (with_reducible first | exact HB.out | apply below_alloc | apply pw_below_drewN | apply below_drew1) | exact HB.out)⟩⟩
                          · rw [if_neg c34] at H
                            have c34b0 : (t196 == 7) = false := beq_eq_false_iff_ne.mpr c34
                            have c34b1 : (t196 != 7) = true := bne_iff_ne.mpr c34
                            have H' := Aside0.mk H
                            clear H
                            obtain ⟨Ao36, co36, eo36⟩ := Kd.R_slice HO_3.out
                            subst eo36
                            go_wp2
                            go_meet
                            case rel => exact ⟨_, (true), (by first | rfl | (simp; done) | (simp [bne_nil_isEmpty, beq_nil_isEmpty]; done) | (simp [*]; done)), H', ⟨by have := HJ1.out; have := HJ14.out; have := HJ23.out; first | omega | exact Nat.le_refl _⟩, ⟨by (with_reducible repeat (first | apply Kd.R_alloc | apply Kd.R_drewN | apply Kd.R_drew)); exact HO_3.out⟩, ⟨by (with_reducible repeat (first | apply Kd.R_alloc | apply Kd.R_drewN | apply Kd.R_drew)); exact HO_7.out⟩, ⟨by repeat (first | (with_reducible first | exact HB.out | apply below_alloc | apply pw_below_drewN | apply below_drew1) | exact HB.out)⟩⟩
                        · rw [if_neg c33] at H
                          have c33b0 : decide (1 < (t191.length : Int)) = false := decide_eq_false c33
                          have c33b1 : decide (1 < t191.length) = false := decide_eq_false (by omega)
                          clear c33
                          (first | rw [c33b0] | (simp only [i64_w, i32_w]; rw [c33b0]) | skip)
                          have H' := Aside0.mk H
                          clear H
                          obtain ⟨Ao37, co37, eo37⟩ := Kd.R_slice HO_3.out
                          subst eo37
                          go_wp2
                          go_meet
                          case rel => exact ⟨_, (false), (by first | rfl | (simp; done) | (simp [bne_nil_isEmpty, beq_nil_isEmpty]; done) | (simp [*]; done)), H', ⟨by have := HJ1.out; have := HJ14.out; have := HJ23.out; first | omega | exact Nat.le_refl _⟩, ⟨by (with_reducible repeat (first | apply Kd.R_alloc | apply Kd.R_drewN | apply Kd.R_drew)); exact HO_3.out⟩, ⟨by (with_reducible repeat (first | apply Kd.R_alloc | apply Kd.R_drewN | apply Kd.R_drew)); exact HO_7.out⟩, ⟨by repeat (first | (with_reducible first | exact HB.out | apply below_alloc | apply pw_below_drewN | apply below_drew1) | exact HB.out)⟩⟩
                    case rest =>
                      clear HC31
                      try clear c1
                      try clear c2
                      try clear p2
                      try clear q2
                      try clear hx2
                      try clear qi2
                      try clear c3
                      try clear c4
                      try clear c7
                      try clear c12
                      try clear c15
                      try clear c17
                      try clear c18
                      try clear c19
                      try clear c20
                      try clear p20
                      try clear q20
                      try clear hx20
                      try clear qi20
                      try clear c21
                      try clear c21b0
                      try clear c21b1
                      try clear c22
                      try clear c23
                      try clear c23b0
                      try clear c23b1
                      try clear c25
                      try clear c25b0
                      try clear c25b1
                      try clear c26
                      try clear c26b0
                      try clear c26b1
                      try clear c27
                      try clear c27b0
                      try clear c27b1
                      try clear c32
                      try clear c33
                      try clear c33b0
                      try clear c33b1
                      try clear c34
                      try clear c34b0
                      try clear c34b1
                      try clear hx205_0
                      try clear p2
                      try clear p20
                      try clear p205
                      try clear q2
                      try clear q20
                      try clear q205
                      obtain ⟨kq, x74_30, rfl, HA, HJ30, HO_3, HO_7, HB⟩ := hcut
                      cases kq with
                      | zero => exact absurd HA.out (by simp [trystlaw09_EscapeReads.j3])
                      | succ kj30 =>
                        have H := HA.out
                        clear HA
                        simp only [trystlaw09_EscapeReads.j3] at H
                        by_cases c38 : x74_30 = true
                        · subst c38
                          have H1 : (some false) = some r := by rw [if_pos rfl] at H; exact H
                          clear H
                          have H := H1
                          clear H1
                          obtain rfl := Option.some.inj H
                          go_wp2
                          go_ret
                          exact ⟨by first | rfl | (simp [errW_none, errW_some] <;> rfl) | (simp [*, errW_none, errW_some] <;> rfl), by repeat (first | (with_reducible first | exact HB.out | apply below_alloc | apply pw_below_drewN | apply below_drew1) | exact HB.out)⟩
                        · replace c38 := Bool.eq_false_iff.mpr c38
                          subst c38
                          have H1 : (if a0.toList = ([] : List UInt8) then (if t198 = 7 then (some ((t197.length : Int) == 0)) else (some false)) else (if t198 = 0 then ((trystlaw08_Same.f kj30 t191 t197).bind fun t206 => (some t206)) else (some false))) = some r := by rw [if_neg (show ¬ (false = true) by decide)] at H; exact H
                          clear H
                          have H := H1
                          clear H1
                          by_cases c39 : a0.toList = ([] : List UInt8)
                          · rw [if_pos c39] at H
                            have c39b0 : (a0.toList == ([] : List UInt8)) = true := beq_iff_eq.mpr c39
                            have c39b1 : (a0.toList != ([] : List UInt8)) = false := bne_eq_false_iff_eq.mpr c39
                            clear c39
                            by_cases c40 : t198 = 7
                            · rw [if_pos c40] at H
                              have c40b0 : (t198 == 7) = true := beq_iff_eq.mpr c40
                              have c40b1 : (t198 != 7) = false := bne_eq_false_iff_eq.mpr c40
                              clear c40
                              obtain rfl := Option.some.inj H
                              obtain ⟨Ao41, co41, eo41⟩ := Kd.R_slice HO_7.out
                              subst eo41
                              go_wp2
                              go_ret
                              exact ⟨by first | rfl | (simp [errW_none, errW_some] <;> rfl) | (simp [*, errW_none, errW_some] <;> rfl), by repeat (first | (with_reducible first | exact HB.out | apply below_alloc | apply pw_below_drewN | apply below_drew1) | exact HB.out)⟩
                            · rw [if_neg c40] at H
                              have c40b0 : (t198 == 7) = false := beq_eq_false_iff_ne.mpr c40
                              have c40b1 : (t198 != 7) = true := bne_iff_ne.mpr c40
                              obtain rfl := Option.some.inj H
                              go_wp2
                              go_ret
                              exact ⟨by first | rfl | (simp [errW_none, errW_some] <;> rfl) | (simp [*, errW_none, errW_some] <;> rfl), by repeat (first | (with_reducible first | exact HB.out | apply below_alloc | apply pw_below_drewN | apply below_drew1) | exact HB.out)⟩
                          · rw [if_neg c39] at H
                            have c39b0 : (a0.toList == ([] : List UInt8)) = false := beq_eq_false_iff_ne.mpr c39
                            have c39b1 : (a0.toList != ([] : List UInt8)) = true := bne_iff_ne.mpr c39
                            by_cases c42 : t198 = 0
                            · rw [if_pos c42] at H
                              have c42b0 : (t198 == 0) = true := beq_iff_eq.mpr c42
                              have c42b1 : (t198 != 0) = false := bne_eq_false_iff_eq.mpr c42
                              clear c42
                              replace H := Option.bind_eq_some_iff.mp H
                              obtain ⟨t206, A430, H⟩ := H
                              replace H : (some t206) = some r := H
                              have A43 := Aside0.mk A430
                              clear A430
                              obtain rfl := Option.some.inj H
                              obtain ⟨Ao44, co44, eo44⟩ := Kd.R_slice HO_3.out
                              subst eo44
                              obtain ⟨Ao45, co45, eo45⟩ := Kd.R_slice HO_7.out
                              subst eo45
                              go_wp2_with (first | (go_at_call 16; (with_reducible refine (trystlaw08_Same.calls kj30 _ _ t191 _ _ t197 t206 _ (by first | (with_reducible exact hG) | exact GG.below hG (by repeat (first | (with_reducible first | exact HB.out | apply below_alloc | apply pw_below_drewN | apply below_drew1) | exact HB.out))) ?side1 ?side2 ?side3 ?side4 A43.out).mono ?_); (case side1 => repeat (first | exact (Kd.R_reads' HO_3.out).2.2 | (with_reducible refine Kd.C_alloc ?_ _) | (with_reducible refine Kd.C_drewN ?_ _) | (with_reducible refine Kd.C_drew ?_))); (case side2 => exact (Kd.R_reads' HO_3.out).2.1); (case side3 => repeat (first | exact (Kd.R_reads' HO_7.out).2.2 | (with_reducible refine Kd.C_alloc ?_ _) | (with_reducible refine Kd.C_drewN ?_ _) | (with_reducible refine Kd.C_drew ?_))); (case side4 => exact (Kd.R_reads' HO_7.out).2.1); rintro e w' ⟨rfl, ⟨nd, rfl⟩⟩))
                              go_ret
                              exact ⟨by first | rfl | (simp [errW_none, errW_some] <;> rfl) | (simp [*, errW_none, errW_some] <;> rfl), by repeat (first | (with_reducible first | exact HB.out | apply below_alloc | apply pw_below_drewN | apply below_drew1) | exact HB.out)⟩
                            · rw [if_neg c42] at H
                              have c42b0 : (t198 == 0) = false := beq_eq_false_iff_ne.mpr c42
                              have c42b1 : (t198 != 0) = true := bne_iff_ne.mpr c42
                              obtain rfl := Option.some.inj H
                              go_wp2
                              go_ret
                              exact ⟨by first | rfl | (simp [errW_none, errW_some] <;> rfl) | (simp [*, errW_none, errW_some] <;> rfl), by repeat (first | (with_reducible first | exact HB.out | apply below_alloc | apply pw_below_drewN | apply below_drew1) | exact HB.out)⟩
              · rw [if_neg c23] at H
                have c23b0 : (t192 == 0) = false := beq_eq_false_iff_ne.mpr c23
                have c23b1 : (t192 != 0) = true := bne_iff_ne.mpr c23
                by_cases c46 : t196 = t192
                · rw [if_pos c46] at H
                  have c46b0 : (t196 == t192) = true := beq_iff_eq.mpr c46
                  have c46b1 : (t196 != t192) = false := bne_eq_false_iff_eq.mpr c46
                  clear c46
                  by_cases c47 : t198 = t192
                  · rw [if_pos c47] at H
                    have c47b0 : (t198 == t192) = true := beq_iff_eq.mpr c47
                    have c47b1 : (t198 != t192) = false := bne_eq_false_iff_eq.mpr c47
                    clear c47
                    by_cases c48 : t195.toList = ([] : List UInt8)
                    · rw [if_pos c48] at H
                      have c48b0 : (t195.toList == ([] : List UInt8)) = true := beq_iff_eq.mpr c48
                      have c48b1 : (t195.toList != ([] : List UInt8)) = false := bne_eq_false_iff_eq.mpr c48
                      clear c48
                      obtain rfl := Option.some.inj H
                      obtain ⟨Ao49, co49, eo49⟩ := Kd.R_slice HO_7.out
                      subst eo49
                      go_wp2
                      go_ret
                      exact ⟨by first | rfl | (simp [errW_none, errW_some] <;> rfl) | (simp [*, errW_none, errW_some] <;> rfl), by repeat (first | (with_reducible first | exact HB.out | apply below_alloc | apply pw_below_drewN | apply below_drew1) | exact HB.out)⟩
                    · rw [if_neg c48] at H
                      have c48b0 : (t195.toList == ([] : List UInt8)) = false := beq_eq_false_iff_ne.mpr c48
                      have c48b1 : (t195.toList != ([] : List UInt8)) = true := bne_iff_ne.mpr c48
                      obtain rfl := Option.some.inj H
                      go_wp2
                      go_ret
                      exact ⟨by first | rfl | (simp [errW_none, errW_some] <;> rfl) | (simp [*, errW_none, errW_some] <;> rfl), by repeat (first | (with_reducible first | exact HB.out | apply below_alloc | apply pw_below_drewN | apply below_drew1) | exact HB.out)⟩
                  · rw [if_neg c47] at H
                    have c47b0 : (t198 == t192) = false := beq_eq_false_iff_ne.mpr c47
                    have c47b1 : (t198 != t192) = true := bne_iff_ne.mpr c47
                    obtain rfl := Option.some.inj H
                    go_wp2
                    go_ret
                    exact ⟨by first | rfl | (simp [errW_none, errW_some] <;> rfl) | (simp [*, errW_none, errW_some] <;> rfl), by repeat (first | (with_reducible first | exact HB.out | apply below_alloc | apply pw_below_drewN | apply below_drew1) | exact HB.out)⟩
                · rw [if_neg c46] at H
                  have c46b0 : (t196 == t192) = false := beq_eq_false_iff_ne.mpr c46
                  have c46b1 : (t196 != t192) = true := bne_iff_ne.mpr c46
                  obtain rfl := Option.some.inj H
                  go_wp2
                  go_ret
                  exact ⟨by first | rfl | (simp [errW_none, errW_some] <;> rfl) | (simp [*, errW_none, errW_some] <;> rfl), by repeat (first | (with_reducible first | exact HB.out | apply below_alloc | apply pw_below_drewN | apply below_drew1) | exact HB.out)⟩

/-- THE ONE PURE STATEMENT of trystlaw09_EscapeReads: yours. -/
def trystlaw09_EscapeReads.Pure : Prop := ∀ (a0 : ByteArray), a0.size ≤ 140737488351232 → ∃ k, trystlaw09_EscapeReads.f k a0 = some true
theorem trystlaw09_EscapeReads.walk (P : trystlaw09_EscapeReads.Pure) (a0 : ByteArray) (w : World) (hG : GG w) (w0 : a0.size ≤ 140737488351232) :
    Calls Tryd.prog 4 #[.string a0] w fun e w' => e = .returned (.bool true) ∧ Below w.heap.size w w' := by
  obtain ⟨k, h⟩ := P a0 w0
  refine (trystlaw09_EscapeReads.calls k a0 true w hG h).mono ?_
  rintro e w' ⟨rfl, hd⟩
  exact ⟨rfl, hd⟩

/-! ### fold_goesOn: function 50 -/
def fold_goesOn.f (a0 : Int) : Option (Bool) := if a0 = 32 then (some true) else (some (a0 == 9))
set_option maxHeartbeats 8000000 in
set_option maxRecDepth 100000 in
theorem fold_goesOn.calls (a0 : Int) (r : Bool) (w : World) (hG : GG w) (h : fold_goesOn.f a0 = some r) :
    Calls Tryd.prog 50 #[.int .u8 a0] w fun e w' => e = .returned (.bool r) ∧ Drawn0 w w' := by
  have H : (if a0 = 32 then (some true) else (some (a0 == 9))) = some r := h
  clear h
  by_cases c2 : a0 = 32
  · rw [if_pos c2] at H
    have c2b0 : (a0 == 32) = true := beq_iff_eq.mpr c2
    have c2b1 : (a0 != 32) = false := bne_eq_false_iff_eq.mpr c2
    clear c2
    obtain rfl := Option.some.inj H
    go_enter Tryd.func50, Tryd.ntmps50
    go_wp2
    go_ret
    exact ⟨by first | rfl | (simp; done) | (simp [bne_nil_isEmpty, beq_nil_isEmpty]; done) | (simp [*]; done), by repeat (first | exact Drawn0.refl _ | apply Drawn0.step)⟩
  · rw [if_neg c2] at H
    have c2b0 : (a0 == 32) = false := beq_eq_false_iff_ne.mpr c2
    have c2b1 : (a0 != 32) = true := bne_iff_ne.mpr c2
    obtain rfl := Option.some.inj H
    go_enter Tryd.func50, Tryd.ntmps50
    go_wp2
    go_ret
    exact ⟨by first | rfl | (simp; done) | (simp [bne_nil_isEmpty, beq_nil_isEmpty]; done) | (simp [*]; done), by repeat (first | exact Drawn0.refl _ | apply Drawn0.step)⟩

end Go.Proofs.YtknmbalhbecdhaaDoor.Print
