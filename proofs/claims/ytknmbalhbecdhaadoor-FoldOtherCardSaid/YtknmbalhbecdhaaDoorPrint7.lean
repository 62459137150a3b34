-- Written by xprint.py (a program of this claim's session) out of the translation. Lean checks it.
import Derived.Test.YtknmbalhbecdhaaDoorPrint0
import Derived.Test.YtknmbalhbecdhaaDoorPrint1
import Derived.Test.YtknmbalhbecdhaaDoorPrint2
import Derived.Test.YtknmbalhbecdhaaDoorPrint3
import Derived.Test.YtknmbalhbecdhaaDoorPrint5
import Derived.Test.YtknmbalhbecdhaaDoorPrint6
import Derived.Test.YtknmbalhbecdhaaDoorFoldFold
namespace Go.Proofs.YtknmbalhbecdhaaDoor.Print
open Go.RowKit Go.Proofs.YtknmbalhbecdhaaDoorW.PrintWords Go.Proofs.YtknmbalhbecdhaaDoorW.PrintLast Go.Proofs.YtknmbalhbecdhaaDoorW.PrintMore
attribute [local go_sem] max2_int min2_int max_two min_two max_three min_three max_four min_four   -- for this text's walks alone
set_option linter.unusedVariables false
set_option linter.unusedSimpArgs false

/-! ### trystlaw08_FoldReads: function 8 -/
def trystlaw08_FoldReads.j0 : Nat → ByteArray → Bool → Option (Bool)
  | 0, _, _ => none
  | k + 1, x0, x15 => if x15 = true then ((trystlaw08_awake.f).bind fun t147 => (some t147)) else ((fold_Unfold.f k x0).bind fun bt148 => ((trystref08_Unfold.f k x0).bind fun bt153 => ((trystlaw08_Same.f k bt148.1 bt153.1).bind fun t158 => (if t158 = true then (if bt148.2.1 = bt153.2.1 then (some (bt148.2.2 == bt153.2.2)) else (some false)) else (some false)))))
def trystlaw08_FoldReads.f (k : Nat) (a0 : ByteArray) : Option (Bool) := (trystlaw08_awake.f).bind fun t146 => (if t146 = true then (trystlaw08_FoldReads.j0 k a0 (decide ((a0.size : Int) > 30000))) else (trystlaw08_FoldReads.j0 k a0 true))
theorem trystlaw08_FoldReads.mono_l : ∀ k, (∀ y0 y1, LeO (trystlaw08_FoldReads.j0 k y0 y1) (trystlaw08_FoldReads.j0 (k + 1) y0 y1))
  | 0 => fun _ _ r h => by simp [trystlaw08_FoldReads.j0] at h
  | k + 1 => by
    have ih0 := trystlaw08_FoldReads.mono_l k
    · intro y0 y1
      unfold trystlaw08_FoldReads.j0
      repeat' first
      | (with_reducible exact ih0 _ _)
      | (with_reducible exact fold_Unfold.mono _ _)
      | (with_reducible exact trystlaw08_Same.mono _ _ _)
      | (with_reducible exact trystref08_Unfold.mono _ _)
      | (with_reducible exact LeO.refl _)
      | (with_reducible exact LeO.none _)
      | (with_reducible refine LeO.ite ?_ ?_)
      | (with_reducible refine LeO.bind ?_ (fun _ => ?_))
      | exact ih0 _ _
      | exact fold_Unfold.mono _ _
      | exact trystlaw08_Same.mono _ _ _
      | exact trystref08_Unfold.mono _ _
      | exact LeO.none _
      | refine LeO.ite ?_ ?_
      | refine LeO.bind ?_ (fun _ => ?_)
theorem trystlaw08_FoldReads.mono : ∀ a0 k, LeO (trystlaw08_FoldReads.f k a0) (trystlaw08_FoldReads.f (k + 1) a0) := by
  intro a0 k
  have ih0 := trystlaw08_FoldReads.mono_l k
  unfold trystlaw08_FoldReads.f
  repeat' first
      | (with_reducible exact ih0 _ _)
      | (with_reducible exact fold_Unfold.mono _ _)
      | (with_reducible exact trystlaw08_Same.mono _ _ _)
      | (with_reducible exact trystref08_Unfold.mono _ _)
      | (with_reducible exact LeO.refl _)
      | (with_reducible exact LeO.none _)
      | (with_reducible refine LeO.ite ?_ ?_)
      | (with_reducible refine LeO.bind ?_ (fun _ => ?_))
      | exact ih0 _ _
      | exact fold_Unfold.mono _ _
      | exact trystlaw08_Same.mono _ _ _
      | exact trystref08_Unfold.mono _ _
      | exact LeO.none _
      | refine LeO.ite ?_ ?_
      | refine LeO.bind ?_ (fun _ => ?_)
set_option maxHeartbeats 8000000 in
set_option maxRecDepth 100000 in
theorem trystlaw08_FoldReads.calls (k : Nat) (a0 : ByteArray) (r : Bool) (w : World) (hG : GG w) (h : trystlaw08_FoldReads.f k a0 = some r) :
    Calls Tryd.prog 8 #[.string a0] w fun e w' => e = .returned (.bool r) ∧ Below w.heap.size w w' := by
  have HB := Aside0.mk (Below.refl w.heap.size w)
  have H : ((trystlaw08_awake.f).bind fun t146 => (if t146 = true then (trystlaw08_FoldReads.j0 k a0 (decide ((a0.size : Int) > 30000))) else (trystlaw08_FoldReads.j0 k a0 true))) = some r := h
  clear h
  have HC2 := Aside0.mk H
  clear H
  go_enter Tryd.func8, Tryd.ntmps8
  go_upto_region 1 with (fail)
  go_cut [15] (fun v15 wc => ∃ (kq : Nat) (x15_1 : Bool), v15 = .bool x15_1 ∧ Aside0 (trystlaw08_FoldReads.j0 kq a0 x15_1 = some r) ∧ Aside0 (kq ≤ k) ∧ Aside0 (Below w.heap.size w wc))
  case first =>
    have H := HC2.out
    clear HC2
    replace H := Option.bind_eq_some_iff.mp H
    obtain ⟨t146, A30, H⟩ := H
    replace H : (if t146 = true then (trystlaw08_FoldReads.j0 k a0 (decide ((a0.size : Int) > 30000))) else (trystlaw08_FoldReads.j0 k a0 true)) = some r := H
    have A3 := Aside0.mk A30
    clear A30
    by_cases c4 : t146 = true
    · subst c4
      have H1 : (trystlaw08_FoldReads.j0 k a0 (decide ((a0.size : Int) > 30000))) = some r := by rw [if_pos rfl] at H; exact H
      clear H
      have H := H1
      clear H1
      have H' := Aside0.mk H
      clear H
      go_wp2_with (first | ((with_reducible refine gate_callee (f := 25) rfl ?_); refine goesL_ (some 9) rfl rfl Tryd.func25 (by kernel_rfl) rfl #[] rfl (by (try simp only [List.map_toArray, List.map_cons, List.map_nil]); first | done | rfl | (simp only [List.length_drop, List.length_take]; rfl)) ?_; (with_reducible refine (trystlaw08_awake.calls  true _ (by first | (with_reducible exact hG) | exact GG.below hG (by repeat (first | (with_reducible first | exact HB.out | apply below_alloc | apply pw_below_drewN | apply below_drew1) | exact HB.out))) A3.out).mono ?_); rintro e w5 ⟨rfl, hb⟩; refine ⟨_, rfl, ?_⟩; have n0_ := Aside0.mk (below_step (by repeat (first | (with_reducible first | exact HB.out | apply below_alloc | apply pw_below_drewN | apply below_drew1) | exact HB.out)) hb); clear HB; have HB := n0_; clear n0_; (try clear hb); (try clear hb2); (try clear hk); (try clear hi)))
      go_meet
      case rel => exact ⟨_, (decide ((a0.size : Int) > 30000)), (by first | rfl | (simp; done) | (simp [bne_nil_isEmpty, beq_nil_isEmpty]; done) | (simp [*]; done)), H', ⟨by first | omega | exact Nat.le_refl _⟩, ⟨by repeat (first | (with_reducible first | exact HB.out | apply below_alloc | apply pw_below_drewN | apply below_drew1) | exact HB.out)⟩⟩
    · replace c4 := Bool.eq_false_iff.mpr c4
      subst c4
      have H1 : (trystlaw08_FoldReads.j0 k a0 true) = some r := by rw [if_neg (show ¬ (false = true) by decide)] at H; exact H
      clear H
      have H := H1
      clear H1
      have H' := Aside0.mk H
      clear H
      go_wp2_with (first | ((with_reducible refine gate_callee (f := 25) rfl ?_); refine goesL_ (some 9) rfl rfl Tryd.func25 (by kernel_rfl) rfl #[] rfl (by (try simp only [List.map_toArray, List.map_cons, List.map_nil]); first | done | rfl | (simp only [List.length_drop, List.length_take]; rfl)) ?_; (with_reducible refine (trystlaw08_awake.calls  false _ (by first | (with_reducible exact hG) | exact GG.below hG (by repeat (first | (with_reducible first | exact HB.out | apply below_alloc | apply pw_below_drewN | apply below_drew1) | exact HB.out))) A3.out).mono ?_); rintro e w6 ⟨rfl, hb⟩; refine ⟨_, rfl, ?_⟩; have n0_ := Aside0.mk (below_step (by repeat (first | (with_reducible first | exact HB.out | apply below_alloc | apply pw_below_drewN | apply below_drew1) | exact HB.out)) hb); clear HB; have HB := n0_; clear n0_; (try clear hb); (try clear hb2); (try clear hk); (try clear hi)))
      go_meet
      case rel => exact ⟨_, (true), (by first | rfl | (simp; done) | (simp [bne_nil_isEmpty, beq_nil_isEmpty]; done) | (simp [*]; done)), H', ⟨by first | omega | exact Nat.le_refl _⟩, ⟨by repeat (first | (with_reducible first | exact HB.out | apply below_alloc | apply pw_below_drewN | apply below_drew1) | exact HB.out)⟩⟩
  case rest =>
    clear HC2
    try clear c2
    try clear p2
    try clear c4
    obtain ⟨kq, x15_1, rfl, HA, HJ1, HB⟩ := hcut
    cases kq with
    | zero => exact absurd HA.out (by simp [trystlaw08_FoldReads.j0])
    | succ kj1 =>
      have H := HA.out
      clear HA
      simp only [trystlaw08_FoldReads.j0] at H
      by_cases c7 : x15_1 = true
      · subst c7
        have H1 : ((trystlaw08_awake.f).bind fun t147 => (some t147)) = some r := by rw [if_pos rfl] at H; exact H
        clear H
        have H := H1
        clear H1
        replace H := Option.bind_eq_some_iff.mp H
        obtain ⟨t147, A80, H⟩ := H
        replace H : (some t147) = some r := H
        have A8 := Aside0.mk A80
        clear A80
        obtain rfl := Option.some.inj H
        go_wp2_with (first | ((with_reducible refine gate_callee (f := 25) rfl ?_); refine goesL_ (some 16) rfl rfl Tryd.func25 (by kernel_rfl) rfl #[] rfl (by (try simp only [List.map_toArray, List.map_cons, List.map_nil]); first | done | rfl | (simp only [List.length_drop, List.length_take]; rfl)) ?_; (with_reducible refine (trystlaw08_awake.calls  t147 _ (by first | (with_reducible exact hG) | exact GG.below hG (by repeat (first | (with_reducible first | exact HB.out | apply below_alloc | apply pw_below_drewN | apply below_drew1) | exact HB.out))) A8.out).mono ?_); rintro e w9 ⟨rfl, hb⟩; refine ⟨_, rfl, ?_⟩; have n0_ := Aside0.mk (below_step (by repeat (first | (with_reducible first | exact HB.out | apply below_alloc | apply pw_below_drewN | apply below_drew1) | exact HB.out)) hb); clear HB; have HB := n0_; clear n0_; (try clear hb); (try clear hb2); (try clear hk); (try clear hi)))
        go_ret
        exact ⟨by first | rfl | (simp [errW_none, errW_some] <;> rfl) | (simp [*, errW_none, errW_some] <;> rfl), by repeat (first | (with_reducible first | exact HB.out | apply below_alloc | apply pw_below_drewN | apply below_drew1) | exact HB.out)⟩
      · replace c7 := Bool.eq_false_iff.mpr c7
        subst c7
        have H1 : ((fold_Unfold.f kj1 a0).bind fun bt148 => ((trystref08_Unfold.f kj1 a0).bind fun bt153 => ((trystlaw08_Same.f kj1 bt148.1 bt153.1).bind fun t158 => (if t158 = true then (if bt148.2.1 = bt153.2.1 then (some (bt148.2.2 == bt153.2.2)) else (some false)) else (some false))))) = some r := by rw [if_neg (show ¬ (false = true) by decide)] at H; exact H
        clear H
        have H := H1
        clear H1
        replace H := Option.bind_eq_some_iff.mp H
        obtain ⟨⟨t148, t149, t150⟩, A100, H⟩ := H
        replace H : ((trystref08_Unfold.f kj1 a0).bind fun bt153 => ((trystlaw08_Same.f kj1 t148 bt153.1).bind fun t158 => (if t158 = true then (if t149 = bt153.2.1 then (some (t150 == bt153.2.2)) else (some false)) else (some false)))) = some r := H
        have A10 := Aside0.mk A100
        clear A100
        replace H := Option.bind_eq_some_iff.mp H
        obtain ⟨⟨t153, t154, t155⟩, A110, H⟩ := H
        replace H : ((trystlaw08_Same.f kj1 t148 t153).bind fun t158 => (if t158 = true then (if t149 = t154 then (some (t150 == t155)) else (some false)) else (some false))) = some r := H
        have A11 := Aside0.mk A110
        clear A110
        replace H := Option.bind_eq_some_iff.mp H
        obtain ⟨t158, A120, H⟩ := H
        replace H : (if t158 = true then (if t149 = t154 then (some (t150 == t155)) else (some false)) else (some false)) = some r := H
        have A12 := Aside0.mk A120
        clear A120
        by_cases c13 : t158 = true
        · subst c13
          have H1 : (if t149 = t154 then (some (t150 == t155)) else (some false)) = some r := by rw [if_pos rfl] at H; exact H
          clear H
          have H := H1
          clear H1
          by_cases c14 : t149 = t154
          · rw [if_pos c14] at H
            have c14b0 : (t149 == t154) = true := beq_iff_eq.mpr c14
            have c14b1 : (t149 != t154) = false := bne_eq_false_iff_eq.mpr c14
            clear c14
            obtain rfl := Option.some.inj H
            go_wp2_with (first | ((with_reducible refine gate_callee (f := 29) rfl ?_); refine goesL_ (some 19) rfl rfl Tryd.func29 (by kernel_rfl) rfl #[.string a0] rfl (by (try simp only [List.map_toArray, List.map_cons, List.map_nil]); first | done | rfl | (simp only [List.length_drop, List.length_take]; rfl)) ?_; (with_reducible refine (fold_Unfold.calls kj1 a0 t148 t149 t150 _ (by first | (with_reducible exact hG) | exact GG.below hG (by repeat (first | (with_reducible first | exact HB.out | apply below_alloc | apply pw_below_drewN | apply below_drew1) | exact HB.out))) A10.out).mono ?_); rintro e w15 ⟨v151, rfl, ho0, hb⟩; refine ⟨_, rfl, ?_⟩; have n0_ := Aside0.mk (Kd.R_lower ho0 (below_size (by repeat (first | (with_reducible first | exact HB.out | apply below_alloc | apply pw_below_drewN | apply below_drew1) | exact HB.out)))); have n1_ := Aside0.mk (below_step (by repeat (first | (with_reducible first | exact HB.out | apply below_alloc | apply pw_below_drewN | apply below_drew1) | exact HB.out)) hb); clear HB; have HO152 := n0_; have HB := n1_; clear n0_ n1_; (try clear hb); (try clear hb2); (try clear hk); (try clear hi); (try clear ho0)) | ((with_reducible refine gate_callee (f := 30) rfl ?_); refine goesL_ (some 25) rfl rfl Tryd.func30 (by kernel_rfl) rfl #[.string a0] rfl (by (try simp only [List.map_toArray, List.map_cons, List.map_nil]); first | done | rfl | (simp only [List.length_drop, List.length_take]; rfl)) ?_; (with_reducible refine (trystref08_Unfold.calls kj1 a0 t153 t154 t155 _ (by first | (with_reducible exact hG) | exact GG.below hG (by repeat (first | (with_reducible first | exact HB.out | apply below_alloc | apply pw_below_drewN | apply below_drew1) | exact HB.out))) A11.out).mono ?_); rintro e w16 ⟨v156, rfl, ho0, hb⟩; refine ⟨_, rfl, ?_⟩; have n0_ := Aside0.mk (Kd.R_elder' (by (with_reducible repeat (first | apply Kd.R_alloc | apply Kd.R_drewN | apply Kd.R_drew)); exact HO152.out) (Kd.R_base ho0) hb); have n1_ := Aside0.mk (Kd.R_lower (Kd.R_new' ho0 (Kd.R_lt (by (with_reducible repeat (first | apply Kd.R_alloc | apply Kd.R_drewN | apply Kd.R_drew)); exact HO152.out))) (below_size (by repeat (first | (with_reducible first | exact HB.out | apply below_alloc | apply pw_below_drewN | apply below_drew1) | exact HB.out)))); have n2_ := Aside0.mk (below_step (by repeat (first | (with_reducible first | exact HB.out | apply below_alloc | apply pw_below_drewN | apply below_drew1) | exact HB.out)) hb); clear HO152; clear HB; have HO152 := n0_; have HO157 := n1_; have HB := n2_; clear n0_ n1_ n2_; (try clear hb); (try clear hb2); (try clear hk); (try clear hi); (try clear ho0); obtain ⟨Ao17, co17, eo17⟩ := Kd.R_slice HO152.out; subst eo17; obtain ⟨Ao18, co18, eo18⟩ := Kd.R_slice HO157.out; subst eo18) | ((with_reducible refine gate_callee (f := 16) rfl ?_); refine goesL_ (some 31) rfl rfl Tryd.func16 (by kernel_rfl) rfl #[.slice Ao17 t148.length co17, .slice Ao18 t153.length co18] rfl (by (try simp only [List.map_toArray, List.map_cons, List.map_nil]); first | done | rfl | (simp only [List.length_drop, List.length_take]; rfl)) ?_; (with_reducible refine (trystlaw08_Same.calls kj1 _ _ t148 _ _ t153 true _ (by first | (with_reducible exact hG) | exact GG.below hG (by repeat (first | (with_reducible first | exact HB.out | apply below_alloc | apply pw_below_drewN | apply below_drew1) | exact HB.out))) ?side1 ?side2 ?side3 ?side4 A12.out).mono ?_); (case side1 => repeat (first | exact (Kd.R_reads' HO152.out).2.2 | (with_reducible refine Kd.C_alloc ?_ _) | (with_reducible refine Kd.C_drewN ?_ _) | (with_reducible refine Kd.C_drew ?_))); (case side2 => exact (Kd.R_reads' HO152.out).2.1); (case side3 => repeat (first | exact (Kd.R_reads' HO157.out).2.2 | (with_reducible refine Kd.C_alloc ?_ _) | (with_reducible refine Kd.C_drewN ?_ _) | (with_reducible refine Kd.C_drew ?_))); (case side4 => exact (Kd.R_reads' HO157.out).2.1); rintro e w' ⟨rfl, ⟨nd, rfl⟩⟩; refine ⟨_, rfl, ?_⟩))
            go_ret
            exact ⟨by first | rfl | (simp [errW_none, errW_some] <;> rfl) | (simp [*, errW_none, errW_some] <;> rfl), by repeat (first | (with_reducible first | exact HB.out | apply below_alloc | apply pw_below_drewN | apply below_drew1) | exact HB.out)⟩
          · rw [if_neg c14] at H
            have c14b0 : (t149 == t154) = false := beq_eq_false_iff_ne.mpr c14
            have c14b1 : (t149 != t154) = true := bne_iff_ne.mpr c14
            obtain rfl := Option.some.inj H
            go_wp2_with (first | ((with_reducible refine gate_callee (f := 29) rfl ?_); refine goesL_ (some 19) rfl rfl Tryd.func29 (by kernel_rfl) rfl #[.string a0] rfl (by (try simp only [List.map_toArray, List.map_cons, List.map_nil]); first | done | rfl | (simp only [List.length_drop, List.length_take]; rfl)) ?_; (with_reducible refine (fold_Unfold.calls kj1 a0 t148 t149 t150 _ (by first | (with_reducible exact hG) | exact GG.below hG (by repeat (first | (with_reducible first | exact HB.out | apply below_alloc | apply pw_below_drewN | apply below_drew1) | exact HB.out))) A10.out).mono ?_); rintro e w19 ⟨v151, rfl, ho0, hb⟩; refine ⟨_, rfl, ?_⟩; have n0_ := Aside0.mk (Kd.R_lower ho0 (below_size (by repeat (first | (with_reducible first | exact HB.out | apply below_alloc | apply pw_below_drewN | apply below_drew1) | exact HB.out)))); have n1_ := Aside0.mk (below_step (by repeat (first | (with_reducible first | exact HB.out | apply below_alloc | apply pw_below_drewN | apply below_drew1) | exact HB.out)) hb); clear HB; have HO152 := n0_; have HB := n1_; clear n0_ n1_; (try clear hb); (try clear hb2); (try clear hk); (try clear hi); (try clear ho0)) | ((with_reducible refine gate_callee (f := 30) rfl ?_); refine goesL_ (some 25) rfl rfl Tryd.func30 (by kernel_rfl) rfl #[.string a0] rfl (by (try simp only [List.map_toArray, List.map_cons, List.map_nil]); first | done | rfl | (simp only [List.length_drop, List.length_take]; rfl)) ?_; (with_reducible refine (trystref08_Unfold.calls kj1 a0 t153 t154 t155 _ (by first | (with_reducible exact hG) | exact GG.below hG (by repeat (first | (with_reducible first | exact HB.out | apply below_alloc | apply pw_below_drewN | apply below_drew1) | exact HB.out))) A11.out).mono ?_); rintro e w20 ⟨v156, rfl, ho0, hb⟩; refine ⟨_, rfl, ?_⟩; have n0_ := Aside0.mk (Kd.R_elder' (by (with_reducible repeat (first | apply Kd.R_alloc | apply Kd.R_drewN | apply Kd.R_drew)); exact HO152.out) (Kd.R_base ho0) hb); have n1_ := Aside0.mk (Kd.R_lower (Kd.R_new' ho0 (Kd.R_lt (by (with_reducible repeat (first | apply Kd.R_alloc | apply Kd.R_drewN | apply Kd.R_drew)); exact HO152.out))) (below_size (by repeat (first | (with_reducible first | exact HB.out | apply below_alloc | apply pw_below_drewN | apply below_drew1) | exact HB.out)))); have n2_ := Aside0.mk (below_step (by repeat (first | (with_reducible first | exact HB.out | apply below_alloc | apply pw_below_drewN | apply below_drew1) | exact HB.out)) hb); clear HO152; clear HB; have HO152 := n0_; have HO157 := n1_; have HB := n2_; clear n0_ n1_ n2_; (try clear hb); (try clear hb2); (try clear hk); (try clear hi); (try clear ho0); obtain ⟨Ao21, co21, eo21⟩ := Kd.R_slice HO152.out; subst eo21; obtain ⟨Ao22, co22, eo22⟩ := Kd.R_slice HO157.out; subst eo22) | ((with_reducible refine gate_callee (f := 16) rfl ?_); refine goesL_ (some 31) rfl rfl Tryd.func16 (by kernel_rfl) rfl #[.slice Ao21 t148.length co21, .slice Ao22 t153.length co22] rfl (by (try simp only [List.map_toArray, List.map_cons, List.map_nil]); first | done | rfl | (simp only [List.length_drop, List.length_take]; rfl)) ?_; (with_reducible refine (trystlaw08_Same.calls kj1 _ _ t148 _ _ t153 true _ (by first | (with_reducible exact hG) | exact GG.below hG (by repeat (first | (with_reducible first | exact HB.out | apply below_alloc | apply pw_below_drewN | apply below_drew1) | exact HB.out))) ?side1 ?side2 ?side3 ?side4 A12.out).mono ?_); (case side1 => repeat (first | exact (Kd.R_reads' HO152.out).2.2 | (with_reducible refine Kd.C_alloc ?_ _) | (with_reducible refine Kd.C_drewN ?_ _) | (with_reducible refine Kd.C_drew ?_))); (case side2 => exact (Kd.R_reads' HO152.out).2.1); (case side3 => repeat (first | exact (Kd.R_reads' HO157.out).2.2 | (with_reducible refine Kd.C_alloc ?_ _) | (with_reducible refine Kd.C_drewN ?_ _) | (with_reducible refine Kd.C_drew ?_))); (case side4 => exact (Kd.R_reads' HO157.out).2.1); rintro e w' ⟨rfl, ⟨nd, rfl⟩⟩; refine ⟨_, rfl, ?_⟩))
            go_ret
            exact ⟨by first | rfl | (simp [errW_none, errW_some] <;> rfl) | (simp [*, errW_none, errW_some] <;> rfl), by repeat (first | (with_reducible first | exact HB.out | apply below_alloc | apply pw_below_drewN | apply below_drew1) | exact HB.out)⟩
        · replace c13 := Bool.eq_false_iff.mpr c13
          subst c13
          have H1 : (some false) = some r := by rw [if_neg (show ¬ (false = true) by decide)] at H; exact H
          clear H
          have H := H1
          clear H1
          obtain rfl := Option.some.inj H
          go_wp2_with (first | ((with_reducible refine gate_callee (f := 29) rfl ?_); refine goesL_ (some 19) rfl rfl Tryd.func29 (by kernel_rfl) rfl #[.string a0] rfl (by (try simp only [List.map_toArray, List.map_cons, List.map_nil]); first | done | rfl | (simp only [List.length_drop, List.length_take]; rfl)) ?_; (with_reducible refine (fold_Unfold.calls kj1 a0 t148 t149 t150 _ (by first | (with_reducible exact hG) | exact GG.below hG (by repeat (first | (with_reducible first | exact HB.out | apply below_alloc | apply pw_below_drewN | apply below_drew1) | exact HB.out))) A10.out).mono ?_); rintro e w23 ⟨v151, rfl, ho0, hb⟩; refine ⟨_, rfl, ?_⟩; have n0_ := Aside0.mk (Kd.R_lower ho0 (below_size (by repeat (first | (with_reducible first | exact HB.out | apply below_alloc | apply pw_below_drewN | apply below_drew1) | exact HB.out)))); have n1_ := Aside0.mk (below_step (by repeat (first | (with_reducible first | exact HB.out | apply below_alloc | apply pw_below_drewN | apply below_drew1) | exact HB.out)) hb); clear HB; have HO152 := n0_; have HB := n1_; clear n0_ n1_; (try clear hb); (try clear hb2); (try clear hk); (try clear hi); (try clear ho0)) | ((with_reducible refine gate_callee (f := 30) rfl ?_); refine goesL_ (some 25) rfl rfl Tryd.func30 (by kernel_rfl) rfl #[.string a0] rfl (by (try simp only [List.map_toArray, List.map_cons, List.map_nil]); first | done | rfl | (simp only [List.length_drop, List.length_take]; rfl)) ?_; (with_reducible refine (trystref08_Unfold.calls kj1 a0 t153 t154 t155 _ (by first | (with_reducible exact hG) | exact GG.below hG (by repeat (first | (with_reducible first | exact HB.out | apply below_alloc | apply pw_below_drewN | apply below_drew1) | exact HB.out))) A11.out).mono ?_); rintro e w24 ⟨v156, rfl, ho0, hb⟩; refine ⟨_, rfl, ?_⟩; have n0_ := Aside0.mk (Kd.R_elder' (by (with_reducible repeat (first | apply Kd.R_alloc | apply Kd.R_drewN | apply Kd.R_drew)); exact HO152.out) (Kd.R_base ho0) hb); have n1_ := Aside0.mk (Kd.R_lower (Kd.R_new' ho0 (Kd.R_lt (by (with_reducible repeat (first | apply Kd.R_alloc | apply Kd.R_drewN | apply Kd.R_drew)); exact HO152.out))) (below_size (by repeat (first | (with_reducible first | exact HB.out | apply below_alloc | apply pw_below_drewN | apply below_drew1) | exact HB.out)))); have n2_ := Aside0.mk (below_step (by repeat (first | (with_reducible first | exact HB.out | apply below_alloc | apply pw_below_drewN | apply below_drew1) | exact HB.out)) hb); clear HO152; clear HB; have HO152 := n0_; have HO157 := n1_; have HB := n2_; clear n0_ n1_ n2_; (try clear hb); (try clear hb2); (try clear hk); (try clear hi); (try clear ho0); obtain ⟨Ao25, co25, eo25⟩ := Kd.R_slice HO152.out; subst eo25; obtain ⟨Ao26, co26, eo26⟩ := Kd.R_slice HO157.out; subst eo26) | ((with_reducible refine gate_callee (f := 16) rfl ?_); refine goesL_ (some 31) rfl rfl Tryd.func16 (by kernel_rfl) rfl #[.slice Ao25 t148.length co25, .slice Ao26 t153.length co26] rfl (by (try simp only [List.map_toArray, List.map_cons, List.map_nil]); first | done | rfl | (simp only [List.length_drop, List.length_take]; rfl)) ?_; (with_reducible refine (trystlaw08_Same.calls kj1 _ _ t148 _ _ t153 false _ (by first | (with_reducible exact hG) | exact GG.below hG (by repeat (first | (with_reducible first | exact HB.out | apply below_alloc | apply pw_below_drewN | apply below_drew1) | exact HB.out))) ?side1 ?side2 ?side3 ?side4 A12.out).mono ?_); (case side1 => repeat (first | exact (Kd.R_reads' HO152.out).2.2 | (with_reducible refine Kd.C_alloc ?_ _) | (with_reducible refine Kd.C_drewN ?_ _) | (with_reducible refine Kd.C_drew ?_))); (case side2 => exact (Kd.R_reads' HO152.out).2.1); (case side3 => repeat (first | exact (Kd.R_reads' HO157.out).2.2 | (with_reducible refine Kd.C_alloc ?_ _) | (with_reducible refine Kd.C_drewN ?_ _) | (with_reducible refine Kd.C_drew ?_))); (case side4 => exact (Kd.R_reads' HO157.out).2.1); rintro e w' ⟨rfl, ⟨nd, rfl⟩⟩; refine ⟨_, rfl, ?_⟩))
          go_ret
          exact ⟨by first | rfl | (simp [errW_none, errW_some] <;> rfl) | (simp [*, errW_none, errW_some] <;> rfl), by repeat (first | (with_reducible first | exact HB.out | apply below_alloc | apply pw_below_drewN | apply below_drew1) | exact HB.out)⟩

/-- THE ONE PURE STATEMENT of trystlaw08_FoldReads: yours. -/
def trystlaw08_FoldReads.Pure : Prop := ∀ (a0 : ByteArray), a0.size ≤ 140737488351232 → ∃ k, trystlaw08_FoldReads.f k a0 = some true
theorem trystlaw08_FoldReads.walk (P : trystlaw08_FoldReads.Pure) (a0 : ByteArray) (w : World) (hG : GG w) (w0 : a0.size ≤ 140737488351232) :
    Calls Tryd.prog 8 #[.string a0] w fun e w' => e = .returned (.bool true) ∧ Below w.heap.size w w' := by
  obtain ⟨k, h⟩ := P a0 w0
  refine (trystlaw08_FoldReads.calls k a0 true w hG h).mono ?_
  rintro e w' ⟨rfl, hd⟩
  exact ⟨rfl, hd⟩

/-! ### trystlaw08_few: function 26 -/
def trystlaw08_few.l0 : Nat → List ByteArray → Int → Int → Int → Option (Bool)
  | 0, _, _, _, _ => none
  | k + 1, x0, x3, x6, x7 => if x7 < x6 then (if 0 ≤ x7 then (if x7 < (x0.length : Int) then (if (wrap64 ((wrap64 (x3 + ((rdOf ByteArray.empty x0 x7).size : Int))) + 1)) > 30000 then (some false) else (trystlaw08_few.l0 k x0 (wrap64 ((wrap64 (x3 + ((rdOf ByteArray.empty x0 x7).size : Int))) + 1)) x6 (wrap64 (x7 + 1)))) else (none)) else (none)) else (some true)
def trystlaw08_few.f (k : Nat) (l0 : List ByteArray) : Option (Bool) := trystlaw08_few.l0 k l0 0 (l0.length : Int) 0
theorem trystlaw08_few.mono_l : ∀ k, (∀ y0 y1 y2 y3, LeO (trystlaw08_few.l0 k y0 y1 y2 y3) (trystlaw08_few.l0 (k + 1) y0 y1 y2 y3))
  | 0 => fun _ _ _ _ r h => by simp [trystlaw08_few.l0] at h
  | k + 1 => by
    have ih0 := trystlaw08_few.mono_l k
    · intro y0 y1 y2 y3
      unfold trystlaw08_few.l0
      repeat' first
      | (with_reducible exact ih0 _ _ _ _)
      | (with_reducible exact LeO.refl _)
      | (with_reducible exact LeO.none _)
      | (with_reducible refine LeO.ite ?_ ?_)
      | (with_reducible refine LeO.bind ?_ (fun _ => ?_))
      | exact ih0 _ _ _ _
      | exact LeO.none _
      | refine LeO.ite ?_ ?_
      | refine LeO.bind ?_ (fun _ => ?_)
theorem trystlaw08_few.mono : ∀ a0 k, LeO (trystlaw08_few.f k a0) (trystlaw08_few.f (k + 1) a0) := by
  intro a0 k
  have ih0 := trystlaw08_few.mono_l k
  unfold trystlaw08_few.f
  repeat' first
      | (with_reducible exact ih0 _ _ _ _)
      | (with_reducible exact LeO.refl _)
      | (with_reducible exact LeO.none _)
      | (with_reducible refine LeO.ite ?_ ?_)
      | (with_reducible refine LeO.bind ?_ (fun _ => ?_))
      | exact ih0 _ _ _ _
      | exact LeO.none _
      | refine LeO.ite ?_ ?_
      | refine LeO.bind ?_ (fun _ => ?_)
set_option maxHeartbeats 8000000 in
set_option maxRecDepth 100000 in
theorem trystlaw08_few.calls (k : Nat) (A0 : Option Addr) (c0 : Nat) (l0 : List ByteArray) (r : Bool) (w : World) (hG : GG w) (hr0 : Kd.C Kd.string w A0 l0.length l0) (hc0 : l0.length ≤ c0) (h : trystlaw08_few.f k l0 = some r) :
    Calls Tryd.prog 26 #[.slice A0 l0.length c0] w fun e w' => e = .returned (.bool r) ∧ Drawn0 w w' := by
  have HR0 := Aside0.mk hr0
  have HC0 := Aside0.mk hc0
  clear hr0 hc0
  have H : (trystlaw08_few.l0 k l0 0 (l0.length : Int) 0) = some r := h
  clear h
  have H' := Aside0.mk H
  clear H
  go_enter Tryd.func26, Tryd.ntmps26
  go_wp2
  go_loopg [3, 7] k (fun kq v3 v7 w' => ∃ (x3_1 : Int) (x7_1 : Int), v3 = .int .i64 x3_1 ∧ v7 = .int .i64 x7_1 ∧ Aside0 (trystlaw08_few.l0 kq l0 x3_1 (l0.length : Int) x7_1 = some r) ∧ Aside0 (kq ≤ k) ∧ Drawn0 w w')
  case atStart => exact ⟨(0), (0), (by first | rfl | (simp; done) | (simp [bne_nil_isEmpty, beq_nil_isEmpty]; done) | (simp [*]; done)), (by first | rfl | (simp; done) | (simp [bne_nil_isEmpty, beq_nil_isEmpty]; done) | (simp [*]; done)), H', ⟨Nat.le_refl _⟩, by repeat (first | exact Drawn0.refl _ | apply Drawn0.step)⟩
  case round =>
    clear H'
    obtain ⟨x3_1, x7_1, rfl, rfl, HA, HK1, ⟨m1, rfl⟩⟩ := hrel
    cases gk with
    | zero => exact absurd HA.out (by simp [trystlaw08_few.l0])
    | succ k1 =>
      have H := HA.out
      clear HA
      simp only [trystlaw08_few.l0] at H
      by_cases c2 : x7_1 < (l0.length : Int)
      · rw [if_pos c2] at H
        have c2b0 : decide (x7_1 < (l0.length : Int)) = true := decide_eq_true c2
        clear c2
        by_cases c3 : 0 ≤ x7_1
        · rw [if_pos c3] at H
          have c3b0 : decide (0 ≤ x7_1) = true := decide_eq_true c3
          clear c3
          by_cases c4 : x7_1 < (l0.length : Int)
          · rw [if_pos c4] at H
            have c4b0 : decide (x7_1 < (l0.length : Int)) = true := decide_eq_true c4
            clear c4
            by_cases c5 : (wrap64 ((wrap64 (x3_1 + ((rdOf ByteArray.empty l0 x7_1).size : Int))) + 1)) > 30000
            · rw [if_pos c5] at H
              have c5b0 : decide (30000 < (wrap64 ((wrap64 (x3_1 + ((rdOf ByteArray.empty l0 x7_1).size : Int))) + 1))) = true := decide_eq_true c5
              clear c5
              obtain rfl := Option.some.inj H
              have p159 : 0 ≤ (x7_1 : Int) := of_decide_eq_true (by first | (with_reducible assumption) | assumption)
              have q159 : x7_1 < (l0.length : Int) := of_decide_eq_true (by first | (with_reducible assumption) | assumption)
              obtain ⟨ad159, e159, hx159_0⟩ := Kd.at_string HR0.out x7_1 p159 q159
              cases e159
              replace p159 := eq_true p159
              replace q159 := eq_true q159
              go_wp2
              go_ret
              exact ⟨by first | rfl | (simp; done) | (simp [bne_nil_isEmpty, beq_nil_isEmpty]; done) | (simp [*]; done), by repeat (first | exact Drawn0.refl _ | apply Drawn0.step)⟩
            · rw [if_neg c5] at H
              have c5b0 : decide (30000 < (wrap64 ((wrap64 (x3_1 + ((rdOf ByteArray.empty l0 x7_1).size : Int))) + 1))) = false := decide_eq_false c5
              clear c5
              have H' := Aside0.mk H
              clear H
              have p159 : 0 ≤ (x7_1 : Int) := of_decide_eq_true (by first | (with_reducible assumption) | assumption)
              have q159 : x7_1 < (l0.length : Int) := of_decide_eq_true (by first | (with_reducible assumption) | assumption)
              obtain ⟨ad159, e159, hx159_0⟩ := Kd.at_string HR0.out x7_1 p159 q159
              cases e159
              replace p159 := eq_true p159
              replace q159 := eq_true q159
              go_wp2
              go_roundg k1
              case measure => have := HK1.out; omega
              case rel => exact ⟨(wrap64 ((wrap64 (x3_1 + ((rdOf ByteArray.empty l0 x7_1).size : Int))) + 1)), (wrap64 (x7_1 + 1)), (by first | rfl | (simp; done) | (simp [bne_nil_isEmpty, beq_nil_isEmpty]; done) | (simp [*]; done)), (by first | rfl | (simp; done) | (simp [bne_nil_isEmpty, beq_nil_isEmpty]; done) | (simp [*]; done)), H', ⟨by have := HK1.out; omega⟩, by repeat (first | exact Drawn0.refl _ | apply Drawn0.step)⟩
          · rw [if_neg c4] at H
            exact absurd H (by simp)
        · rw [if_neg c3] at H
          exact absurd H (by simp)
      · rw [if_neg c2] at H
        have c2b0 : decide (x7_1 < (l0.length : Int)) = false := decide_eq_false c2
        clear c2
        obtain rfl := Option.some.inj H
        go_wp2
        go_ret
        exact ⟨by first | rfl | (simp; done) | (simp [bne_nil_isEmpty, beq_nil_isEmpty]; done) | (simp [*]; done), by repeat (first | exact Drawn0.refl _ | apply Drawn0.step)⟩

/-! ### trystlaw08_FoldBack: function 9 -/
mutual
def trystlaw08_FoldBack.j0 : Nat → List ByteArray → Bool → Option (Bool)
  | 0, _, _ => none
  | k + 1, x0, x17 => if x17 = true then ((trystlaw08_awake.f).bind fun t162 => (some t162)) else ((fold_Fold.f x0).bind fun bt163 => (if bt163.2 = 0 then (trystlaw08_FoldBack.l0 k x0 bt163.1 0 (bt163.1.size : Int) 0) else (some (bt163.1.toList == ([] : List UInt8)))))
def trystlaw08_FoldBack.l0 : Nat → List ByteArray → ByteArray → Int → Int → Int → Option (Bool)
  | 0, _, _, _, _, _ => none
  | k + 1, x0, x3, x5, x29, x30 => if x30 < x29 then (if 0 ≤ x30 then (if x30 < (x3.size : Int) then (if (bt x3 x30) = 10 then (if 0 > 76 then (some false) else (if 0 = 76 then (if (bt x3 x30) = 13 then (trystlaw08_FoldBack.l0 k x0 x3 0 x29 (wrap64 (x30 + 1))) else (some false)) else (trystlaw08_FoldBack.l0 k x0 x3 0 x29 (wrap64 (x30 + 1))))) else (if (wrap64 (x5 + 1)) > 76 then (some false) else (if (wrap64 (x5 + 1)) = 76 then (if (bt x3 x30) = 13 then (trystlaw08_FoldBack.l0 k x0 x3 (wrap64 (x5 + 1)) x29 (wrap64 (x30 + 1))) else (some false)) else (trystlaw08_FoldBack.l0 k x0 x3 (wrap64 (x5 + 1)) x29 (wrap64 (x30 + 1)))))) else (none)) else (none)) else (trystlaw08_FoldBack.l1 k x0 x3 (x0.length : Int) 0)
def trystlaw08_FoldBack.l1 : Nat → List ByteArray → ByteArray → Int → Int → Option (Bool)
  | 0, _, _, _, _ => none
  | k + 1, x0, x3, x53, x54 => if x54 < x53 then (if 0 ≤ x54 then (if x54 < (x0.length : Int) then ((trystref08_UTF.f k (rdOf ByteArray.empty x0 x54)).bind fun t166 => (if t166 = true then (trystlaw08_FoldBack.l1 k x0 x3 x53 (wrap64 (x54 + 1))) else (some true))) else (none)) else (none)) else ((fold_Unfold.f k x3).bind fun bt167 => (if bt167.2.2 = 0 then (if bt167.2.1 = 0 then ((trystlaw08_Same.f k x0 bt167.1).bind fun t172 => (some t172)) else (some false)) else (some false)))
end
def trystlaw08_FoldBack.f (k : Nat) (l0 : List ByteArray) : Option (Bool) := (trystlaw08_awake.f).bind fun t160 => (if t160 = true then ((trystlaw08_few.f k l0).bind fun t161 => (trystlaw08_FoldBack.j0 k l0 (!t161))) else (trystlaw08_FoldBack.j0 k l0 true))
theorem trystlaw08_FoldBack.mono_l : ∀ k, (∀ y0 y1, LeO (trystlaw08_FoldBack.j0 k y0 y1) (trystlaw08_FoldBack.j0 (k + 1) y0 y1)) ∧ (∀ y0 y1 y2 y3 y4, LeO (trystlaw08_FoldBack.l0 k y0 y1 y2 y3 y4) (trystlaw08_FoldBack.l0 (k + 1) y0 y1 y2 y3 y4)) ∧ (∀ y0 y1 y2 y3, LeO (trystlaw08_FoldBack.l1 k y0 y1 y2 y3) (trystlaw08_FoldBack.l1 (k + 1) y0 y1 y2 y3))
  | 0 => ⟨fun _ _ r h => by simp [trystlaw08_FoldBack.j0] at h, fun _ _ _ _ _ r h => by simp [trystlaw08_FoldBack.l0] at h, fun _ _ _ _ r h => by simp [trystlaw08_FoldBack.l1] at h⟩
  | k + 1 => by
    obtain ⟨ih0, ih1, ih2⟩ := trystlaw08_FoldBack.mono_l k
    refine ⟨?_, ?_, ?_⟩
    · intro y0 y1
      unfold trystlaw08_FoldBack.j0
      repeat' first
      | (with_reducible exact ih0 _ _)
      | (with_reducible exact ih1 _ _ _ _ _)
      | (with_reducible exact ih2 _ _ _ _)
      | (with_reducible exact fold_Unfold.mono _ _)
      | (with_reducible exact trystlaw08_Same.mono _ _ _)
      | (with_reducible exact trystlaw08_few.mono _ _)
      | (with_reducible exact trystref08_UTF.mono _ _)
      | (with_reducible exact LeO.refl _)
      | (with_reducible exact LeO.none _)
      | (with_reducible refine LeO.ite ?_ ?_)
      | (with_reducible refine LeO.bind ?_ (fun _ => ?_))
      | exact ih0 _ _
      | exact ih1 _ _ _ _ _
      | exact ih2 _ _ _ _
      | exact fold_Unfold.mono _ _
      | exact trystlaw08_Same.mono _ _ _
      | exact trystlaw08_few.mono _ _
      | exact trystref08_UTF.mono _ _
      | exact LeO.none _
      | refine LeO.ite ?_ ?_
      | refine LeO.bind ?_ (fun _ => ?_)
    · intro y0 y1 y2 y3 y4
      unfold trystlaw08_FoldBack.l0
      repeat' first
      | (with_reducible exact ih0 _ _)
      | (with_reducible exact ih1 _ _ _ _ _)
      | (with_reducible exact ih2 _ _ _ _)
      | (with_reducible exact fold_Unfold.mono _ _)
      | (with_reducible exact trystlaw08_Same.mono _ _ _)
      | (with_reducible exact trystlaw08_few.mono _ _)
      | (with_reducible exact trystref08_UTF.mono _ _)
      | (with_reducible exact LeO.refl _)
      | (with_reducible exact LeO.none _)
      | (with_reducible refine LeO.ite ?_ ?_)
      | (with_reducible refine LeO.bind ?_ (fun _ => ?_))
      | exact ih0 _ _
      | exact ih1 _ _ _ _ _
      | exact ih2 _ _ _ _
      | exact fold_Unfold.mono _ _
      | exact trystlaw08_Same.mono _ _ _
      | exact trystlaw08_few.mono _ _
      | exact trystref08_UTF.mono _ _
      | exact LeO.none _
      | refine LeO.ite ?_ ?_
      | refine LeO.bind ?_ (fun _ => ?_)
    · intro y0 y1 y2 y3
      unfold trystlaw08_FoldBack.l1
      repeat' first
      | (with_reducible exact ih0 _ _)
      | (with_reducible exact ih1 _ _ _ _ _)
      | (with_reducible exact ih2 _ _ _ _)
      | (with_reducible exact fold_Unfold.mono _ _)
      | (with_reducible exact trystlaw08_Same.mono _ _ _)
      | (with_reducible exact trystlaw08_few.mono _ _)
      | (with_reducible exact trystref08_UTF.mono _ _)
      | (with_reducible exact LeO.refl _)
      | (with_reducible exact LeO.none _)
      | (with_reducible refine LeO.ite ?_ ?_)
      | (with_reducible refine LeO.bind ?_ (fun _ => ?_))
      | exact ih0 _ _
      | exact ih1 _ _ _ _ _
      | exact ih2 _ _ _ _
      | exact fold_Unfold.mono _ _
      | exact trystlaw08_Same.mono _ _ _
      | exact trystlaw08_few.mono _ _
      | exact trystref08_UTF.mono _ _
      | exact LeO.none _
      | refine LeO.ite ?_ ?_
      | refine LeO.bind ?_ (fun _ => ?_)
theorem trystlaw08_FoldBack.mono : ∀ a0 k, LeO (trystlaw08_FoldBack.f k a0) (trystlaw08_FoldBack.f (k + 1) a0) := by
  intro a0 k
  obtain ⟨ih0, ih1, ih2⟩ := trystlaw08_FoldBack.mono_l k
  unfold trystlaw08_FoldBack.f
  repeat' first
      | (with_reducible exact ih0 _ _)
      | (with_reducible exact ih1 _ _ _ _ _)
      | (with_reducible exact ih2 _ _ _ _)
      | (with_reducible exact fold_Unfold.mono _ _)
      | (with_reducible exact trystlaw08_Same.mono _ _ _)
      | (with_reducible exact trystlaw08_few.mono _ _)
      | (with_reducible exact trystref08_UTF.mono _ _)
      | (with_reducible exact LeO.refl _)
      | (with_reducible exact LeO.none _)
      | (with_reducible refine LeO.ite ?_ ?_)
      | (with_reducible refine LeO.bind ?_ (fun _ => ?_))
      | exact ih0 _ _
      | exact ih1 _ _ _ _ _
      | exact ih2 _ _ _ _
      | exact fold_Unfold.mono _ _
      | exact trystlaw08_Same.mono _ _ _
      | exact trystlaw08_few.mono _ _
      | exact trystref08_UTF.mono _ _
      | exact LeO.none _
      | refine LeO.ite ?_ ?_
      | refine LeO.bind ?_ (fun _ => ?_)
set_option maxHeartbeats 8000000 in
set_option maxRecDepth 100000 in
theorem trystlaw08_FoldBack.calls (k : Nat) (A0 : Option Addr) (c0 : Nat) (l0 : List ByteArray) (r : Bool) (w : World) (hG : GG w) (hr0 : Kd.C Kd.string w A0 l0.length l0) (hc0 : l0.length ≤ c0) (h : trystlaw08_FoldBack.f k l0 = some r) :
    Calls Tryd.prog 9 #[.slice A0 l0.length c0] w fun e w' => e = .returned (.bool r) ∧ Below w.heap.size w w' := by
  have HR0 := Aside0.mk hr0
  have HC0 := Aside0.mk hc0
  clear hr0 hc0
  have HB := Aside0.mk (Below.refl w.heap.size w)
  have H : ((trystlaw08_awake.f).bind fun t160 => (if t160 = true then ((trystlaw08_few.f k l0).bind fun t161 => (trystlaw08_FoldBack.j0 k l0 (!t161))) else (trystlaw08_FoldBack.j0 k l0 true))) = some r := h
  clear h
  have HC2 := Aside0.mk H
  clear H
  go_enter Tryd.func9, Tryd.ntmps9
  go_upto_region 1 with (fail)
  go_cut [17] (fun v17 wc => ∃ (kq : Nat) (x17_1 : Bool), v17 = .bool x17_1 ∧ Aside0 (trystlaw08_FoldBack.j0 kq l0 x17_1 = some r) ∧ Aside0 (kq ≤ k) ∧ Aside0 (Below w.heap.size w wc))
  case first =>
    have H := HC2.out
    clear HC2
    replace H := Option.bind_eq_some_iff.mp H
    obtain ⟨t160, A30, H⟩ := H
    replace H : (if t160 = true then ((trystlaw08_few.f k l0).bind fun t161 => (trystlaw08_FoldBack.j0 k l0 (!t161))) else (trystlaw08_FoldBack.j0 k l0 true)) = some r := H
    have A3 := Aside0.mk A30
    clear A30
    by_cases c4 : t160 = true
    · subst c4
      have H1 : ((trystlaw08_few.f k l0).bind fun t161 => (trystlaw08_FoldBack.j0 k l0 (!t161))) = some r := by rw [if_pos rfl] at H; exact H
      clear H
      have H := H1
      clear H1
      replace H := Option.bind_eq_some_iff.mp H
      obtain ⟨t161, A50, H⟩ := H
      replace H : (trystlaw08_FoldBack.j0 k l0 (!t161)) = some r := H
      have A5 := Aside0.mk A50
      clear A50
      have H' := Aside0.mk H
      clear H
      go_wp2_with (first | ((with_reducible refine gate_callee (f := 25) rfl ?_); refine goesL_ (some 11) rfl rfl Tryd.func25 (by kernel_rfl) rfl #[] rfl (by (try simp only [List.map_toArray, List.map_cons, List.map_nil]); first | done | rfl | (simp only [List.length_drop, List.length_take]; rfl)) ?_; (with_reducible refine (trystlaw08_awake.calls  true _ (by first | (with_reducible exact hG) | exact GG.below hG (by repeat (first | (with_reducible first | exact HB.out | apply below_alloc | apply pw_below_drewN | apply below_drew1) | exact HB.out))) A3.out).mono ?_); rintro e w6 ⟨rfl, hb⟩; refine ⟨_, rfl, ?_⟩; have n0_ := Aside0.mk (below_step (by repeat (first | (with_reducible first | exact HB.out | apply below_alloc | apply pw_below_drewN | apply below_drew1) | exact HB.out)) hb); clear HB; have HB := n0_; clear n0_; (try clear hb); (try clear hb2); (try clear hk); (try clear hi)) | (go_at_call 26; (with_reducible refine (trystlaw08_few.calls k _ _ l0 t161 _ (by first | (with_reducible exact hG) | exact GG.below hG (by repeat (first | (with_reducible first | exact HB.out | apply below_alloc | apply pw_below_drewN | apply below_drew1) | exact HB.out))) ?side1 ?side2 A5.out).mono ?_); (case side1 => repeat (first | exact (Kd.C_below HR0.out HB.out) | (with_reducible refine Kd.C_alloc ?_ _) | (with_reducible refine Kd.C_drewN ?_ _) | (with_reducible refine Kd.C_drew ?_))); (case side2 => exact HC0.out); rintro e w' ⟨rfl, ⟨nd, rfl⟩⟩))
      go_meet
      case rel => exact ⟨_, (!t161), (by first | rfl | (simp; done) | (simp [bne_nil_isEmpty, beq_nil_isEmpty]; done) | (simp [*]; done)), H', ⟨by first | omega | exact Nat.le_refl _⟩, ⟨by repeat (first | (with_reducible first | exact HB.out | apply below_alloc | apply pw_below_drewN | apply below_drew1) | exact HB.out)⟩⟩
    · replace c4 := Bool.eq_false_iff.mpr c4
      subst c4
      have H1 : (trystlaw08_FoldBack.j0 k l0 true) = some r := by rw [if_neg (show ¬ (false = true) by decide)] at H; exact H
      clear H
      have H := H1
      clear H1
      have H' := Aside0.mk H
      clear H
      go_wp2_with (first | ((with_reducible refine gate_callee (f := 25) rfl ?_); refine goesL_ (some 11) rfl rfl Tryd.func25 (by kernel_rfl) rfl #[] rfl (by (try simp only [List.map_toArray, List.map_cons, List.map_nil]); first | done | rfl | (simp only [List.length_drop, List.length_take]; rfl)) ?_; (with_reducible refine (trystlaw08_awake.calls  false _ (by first | (with_reducible exact hG) | exact GG.below hG (by repeat (first | (with_reducible first | exact HB.out | apply below_alloc | apply pw_below_drewN | apply below_drew1) | exact HB.out))) A3.out).mono ?_); rintro e w7 ⟨rfl, hb⟩; refine ⟨_, rfl, ?_⟩; have n0_ := Aside0.mk (below_step (by repeat (first | (with_reducible first | exact HB.out | apply below_alloc | apply pw_below_drewN | apply below_drew1) | exact HB.out)) hb); clear HB; have HB := n0_; clear n0_; (try clear hb); (try clear hb2); (try clear hk); (try clear hi)))
      go_meet
      case rel => exact ⟨_, (true), (by first | rfl | (simp; done) | (simp [bne_nil_isEmpty, beq_nil_isEmpty]; done) | (simp [*]; done)), H', ⟨by first | omega | exact Nat.le_refl _⟩, ⟨by repeat (first | (with_reducible first | exact HB.out | apply below_alloc | apply pw_below_drewN | apply below_drew1) | exact HB.out)⟩⟩
  case rest =>
    clear HC2
    try clear c2
    try clear p2
    try clear c4
    obtain ⟨kq, x17_1, rfl, HA, HJ1, HB⟩ := hcut
    cases kq with
    | zero => exact absurd HA.out (by simp [trystlaw08_FoldBack.j0])
    | succ kj1 =>
      have H := HA.out
      clear HA
      simp only [trystlaw08_FoldBack.j0] at H
      by_cases c8 : x17_1 = true
      · subst c8
        have H1 : ((trystlaw08_awake.f).bind fun t162 => (some t162)) = some r := by rw [if_pos rfl] at H; exact H
        clear H
        have H := H1
        clear H1
        replace H := Option.bind_eq_some_iff.mp H
        obtain ⟨t162, A90, H⟩ := H
        replace H : (some t162) = some r := H
        have A9 := Aside0.mk A90
        clear A90
        obtain rfl := Option.some.inj H
        go_wp2_with (first | ((with_reducible refine gate_callee (f := 25) rfl ?_); refine goesL_ (some 18) rfl rfl Tryd.func25 (by kernel_rfl) rfl #[] rfl (by (try simp only [List.map_toArray, List.map_cons, List.map_nil]); first | done | rfl | (simp only [List.length_drop, List.length_take]; rfl)) ?_; (with_reducible refine (trystlaw08_awake.calls  t162 _ (by first | (with_reducible exact hG) | exact GG.below hG (by repeat (first | (with_reducible first | exact HB.out | apply below_alloc | apply pw_below_drewN | apply below_drew1) | exact HB.out))) A9.out).mono ?_); rintro e w10 ⟨rfl, hb⟩; refine ⟨_, rfl, ?_⟩; have n0_ := Aside0.mk (below_step (by repeat (first | (with_reducible first | exact HB.out | apply below_alloc | apply pw_below_drewN | apply below_drew1) | exact HB.out)) hb); clear HB; have HB := n0_; clear n0_; (try clear hb); (try clear hb2); (try clear hk); (try clear hi)))
        go_ret
        exact ⟨by first | rfl | (simp [errW_none, errW_some] <;> rfl) | (simp [*, errW_none, errW_some] <;> rfl), by repeat (first | (with_reducible first | exact HB.out | apply below_alloc | apply pw_below_drewN | apply below_drew1) | exact HB.out)⟩
      · replace c8 := Bool.eq_false_iff.mpr c8
        subst c8
        have H1 : ((fold_Fold.f l0).bind fun bt163 => (if bt163.2 = 0 then (trystlaw08_FoldBack.l0 kj1 l0 bt163.1 0 (bt163.1.size : Int) 0) else (some (bt163.1.toList == ([] : List UInt8))))) = some r := by rw [if_neg (show ¬ (false = true) by decide)] at H; exact H
        clear H
        have H := H1
        clear H1
        replace H := Option.bind_eq_some_iff.mp H
        obtain ⟨⟨t163, t164⟩, A110, H⟩ := H
        replace H : (if t164 = 0 then (trystlaw08_FoldBack.l0 kj1 l0 t163 0 (t163.size : Int) 0) else (some (t163.toList == ([] : List UInt8)))) = some r := H
        have A11 := Aside0.mk A110
        clear A110
        by_cases c12 : t164 = 0
        · rw [if_pos c12] at H
          have c12b0 : (t164 == 0) = true := beq_iff_eq.mpr c12
          have c12b1 : (t164 != 0) = false := bne_eq_false_iff_eq.mpr c12
          clear c12
          have H' := Aside0.mk H
          clear H
          go_wp2_with (first | ((with_reducible refine gate_callee (f := 27) rfl ?_); refine goesL_ (some 21) rfl rfl Tryd.func27 (by kernel_rfl) rfl #[.slice A0 l0.length c0] rfl (by (try simp only [List.map_toArray, List.map_cons, List.map_nil]); first | done | rfl | (simp only [List.length_drop, List.length_take]; rfl)) ?_; (with_reducible refine (fold_Fold.calls _ _ l0 t163 t164 _ (by first | (with_reducible exact hG) | exact GG.below hG (by repeat (first | (with_reducible first | exact HB.out | apply below_alloc | apply pw_below_drewN | apply below_drew1) | exact HB.out))) ?side1 ?side2 A11.out).mono ?_); (case side1 => repeat (first | exact (Kd.C_below HR0.out HB.out) | (with_reducible refine Kd.C_alloc ?_ _) | (with_reducible refine Kd.C_drewN ?_ _) | (with_reducible refine Kd.C_drew ?_))); (case side2 => exact HC0.out); rintro e w13 ⟨rfl, hb⟩; refine ⟨_, rfl, ?_⟩; have n0_ := Aside0.mk (below_step (by repeat (first | (with_reducible first | exact HB.out | apply below_alloc | apply pw_below_drewN | apply below_drew1) | exact HB.out)) hb); clear HB; have HB := n0_; clear n0_; (try clear hb); (try clear hb2); (try clear hk); (try clear hi)))
          go_loopg [5, 30] kj1 (fun kq v5 v30 w' => ∃ (x5_2 : Int) (x30_2 : Int), v5 = .int .i64 x5_2 ∧ v30 = .int .i64 x30_2 ∧ Aside0 (trystlaw08_FoldBack.l0 kq l0 t163 x5_2 (t163.size : Int) x30_2 = some r) ∧ Aside0 (kq ≤ kj1) ∧ Aside0 (Below w.heap.size w w'))
          case atStart => exact ⟨(0), (0), (by first | rfl | (simp; done) | (simp [bne_nil_isEmpty, beq_nil_isEmpty]; done) | (simp [*]; done)), (by first | rfl | (simp; done) | (simp [bne_nil_isEmpty, beq_nil_isEmpty]; done) | (simp [*]; done)), H', ⟨Nat.le_refl _⟩, ⟨by repeat (first | (with_reducible first | exact HB.out | apply below_alloc | apply pw_below_drewN | apply below_drew1) | exact HB.out)⟩⟩
          case round =>
            clear H'
            try clear c1
            try clear c2
            try clear p2
            try clear c4
            try clear c8
            try clear c9
            try clear c12
            try clear c12b0
            try clear c12b1
            try clear p2
            obtain ⟨x5_2, x30_2, rfl, rfl, HA, HK2, HB⟩ := hrel
            cases gk with
            | zero => exact absurd HA.out (by simp [trystlaw08_FoldBack.l0])
            | succ k2 =>
              have H := HA.out
              clear HA
              simp only [trystlaw08_FoldBack.l0] at H
              by_cases c14 : x30_2 < (t163.size : Int)
              · rw [if_pos c14] at H
                have c14b0 : decide (x30_2 < (t163.size : Int)) = true := decide_eq_true c14
                clear c14
                by_cases c15 : 0 ≤ x30_2
                · rw [if_pos c15] at H
                  have c15b0 : decide (0 ≤ x30_2) = true := decide_eq_true c15
                  clear c15
                  by_cases c16 : x30_2 < (t163.size : Int)
                  · rw [if_pos c16] at H
                    have c16b0 : decide (x30_2 < (t163.size : Int)) = true := decide_eq_true c16
                    clear c16
                    by_cases c18 : (bt t163 x30_2) = 10
                    · rw [if_pos c18] at H
                      have c18b0 : ((bt t163 x30_2) == 10) = true := beq_iff_eq.mpr c18
                      have c18b1 : ((bt t163 x30_2) != 10) = false := bne_eq_false_iff_eq.mpr c18
                      clear c18
                      by_cases c19 : 0 > 76
                      · exact absurd c19 (by decide)
                      · rw [if_neg c19] at H
                        have c19b0 : decide (76 < 0) = false := decide_eq_false c19
                        clear c19
                        by_cases c20 : 0 = 76
                        · exact absurd c20 (by decide)
                        · rw [if_neg c20] at H
                          have c20b0 : (0 == 76) = false := beq_eq_false_iff_ne.mpr c20
                          have c20b1 : (0 != 76) = true := bne_iff_ne.mpr c20
                          have H' := Aside0.mk H
                          clear H
                          have p17 : 0 ≤ (x30_2 : Int) := of_decide_eq_true (by first | (with_reducible assumption) | assumption)
                          have q17 : x30_2 < (t163.size : Int) := of_decide_eq_true (by first | (with_reducible assumption) | assumption)
                          have hx17 := bt_at t163 x30_2
                          replace p17 := eq_true p17
                          replace q17 := eq_true q17
                          go_wp2
                          go_roundg k2
                          case measure => have := HJ1.out; have := HK2.out; omega
                          case rel => exact ⟨(0), (wrap64 (x30_2 + 1)), (by first | rfl | (simp; done) | (simp [bne_nil_isEmpty, beq_nil_isEmpty]; done) | (simp [*]; done)), (by first | rfl | (simp; done) | (simp [bne_nil_isEmpty, beq_nil_isEmpty]; done) | (simp [*]; done)), H', ⟨by have := HJ1.out; have := HK2.out; omega⟩, ⟨by repeat (first | (with_reducible first | exact HB.out | apply below_alloc | apply pw_below_drewN | apply below_drew1) | exact HB.out)⟩⟩
                    · rw [if_neg c18] at H
                      have c18b0 : ((bt t163 x30_2) == 10) = false := beq_eq_false_iff_ne.mpr c18
                      have c18b1 : ((bt t163 x30_2) != 10) = true := bne_iff_ne.mpr c18
                      by_cases c23 : (wrap64 (x5_2 + 1)) > 76
                      · rw [if_pos c23] at H
                        have c23b0 : decide (76 < (wrap64 (x5_2 + 1))) = true := decide_eq_true c23
                        clear c23
                        obtain rfl := Option.some.inj H
                        have p17 : 0 ≤ (x30_2 : Int) := of_decide_eq_true (by first | (with_reducible assumption) | assumption)
                        have q17 : x30_2 < (t163.size : Int) := of_decide_eq_true (by first | (with_reducible assumption) | assumption)
                        have hx17 := bt_at t163 x30_2
                        replace p17 := eq_true p17
                        replace q17 := eq_true q17
                        go_wp2
                        go_ret
                        exact ⟨by first | rfl | (simp [errW_none, errW_some] <;> rfl) | (simp [*, errW_none, errW_some] <;> rfl), by repeat (first | (with_reducible first | exact HB.out | apply below_alloc | apply pw_below_drewN | apply below_drew1) | exact HB.out)⟩
                      · rw [if_neg c23] at H
                        have c23b0 : decide (76 < (wrap64 (x5_2 + 1))) = false := decide_eq_false c23
                        clear c23
                        by_cases c24 : (wrap64 (x5_2 + 1)) = 76
                        · rw [if_pos c24] at H
                          have c24b0 : ((wrap64 (x5_2 + 1)) == 76) = true := beq_iff_eq.mpr c24
                          have c24b1 : ((wrap64 (x5_2 + 1)) != 76) = false := bne_eq_false_iff_eq.mpr c24
                          clear c24
                          by_cases c26 : (bt t163 x30_2) = 13
                          · rw [if_pos c26] at H
                            have c26b0 : ((bt t163 x30_2) == 13) = true := beq_iff_eq.mpr c26
                            have c26b1 : ((bt t163 x30_2) != 13) = false := bne_eq_false_iff_eq.mpr c26
                            clear c26
                            have H' := Aside0.mk H
                            clear H
                            have p17 : 0 ≤ (x30_2 : Int) := of_decide_eq_true (by first | (with_reducible assumption) | assumption)
                            have q17 : x30_2 < (t163.size : Int) := of_decide_eq_true (by first | (with_reducible assumption) | assumption)
                            have hx17 := bt_at t163 x30_2
                            replace p17 := eq_true p17
                            replace q17 := eq_true q17
                            have p25 : 0 ≤ (x30_2 : Int) := of_decide_eq_true (by first | (with_reducible assumption) | assumption)
                            have q25 : x30_2 < (t163.size : Int) := of_decide_eq_true (by first | (with_reducible assumption) | assumption)
                            have hx25 := bt_at t163 x30_2
                            replace p25 := eq_true p25
                            replace q25 := eq_true q25
                            go_wp2
                            go_roundg k2
                            case measure => have := HJ1.out; have := HK2.out; omega
                            case rel => exact ⟨(wrap64 (x5_2 + 1)), (wrap64 (x30_2 + 1)), (by first | rfl | (simp; done) | (simp [bne_nil_isEmpty, beq_nil_isEmpty]; done) | (simp [*]; done)), (by first | rfl | (simp; done) | (simp [bne_nil_isEmpty, beq_nil_isEmpty]; done) | (simp [*]; done)), H', ⟨by have := HJ1.out; have := HK2.out; omega⟩, ⟨by repeat (first | (with_reducible first | exact HB.out | apply below_alloc | apply pw_below_drewN | apply below_drew1) | exact HB.out)⟩⟩
                          · rw [if_neg c26] at H
                            have c26b0 : ((bt t163 x30_2) == 13) = false := beq_eq_false_iff_ne.mpr c26
                            have c26b1 : ((bt t163 x30_2) != 13) = true := bne_iff_ne.mpr c26
                            obtain rfl := Option.some.inj H
                            have p17 : 0 ≤ (x30_2 : Int) := of_decide_eq_true (by first | (with_reducible assumption) | assumption)
                            have q17 : x30_2 < (t163.size : Int) := of_decide_eq_true (by first | (with_reducible assumption) | assumption)
                            have hx17 := bt_at t163 x30_2
                            replace p17 := eq_true p17
                            replace q17 := eq_true q17
                            have p25 : 0 ≤ (x30_2 : Int) := of_decide_eq_true (by first | (with_reducible assumption) | assumption)
                            have q25 : x30_2 < (t163.size : Int) := of_decide_eq_true (by first | (with_reducible assumption) | assumption)
                            have hx25 := bt_at t163 x30_2
                            replace p25 := eq_true p25
                            replace q25 := eq_true q25
                            go_wp2
                            go_ret
                            exact ⟨by first | rfl | (simp [errW_none, errW_some] <;> rfl) | (simp [*, errW_none, errW_some] <;> rfl), by repeat (first | (with_reducible first | exact HB.out | apply below_alloc | apply pw_below_drewN | apply below_drew1) | exact HB.out)⟩
                        · rw [if_neg c24] at H
                          have c24b0 : ((wrap64 (x5_2 + 1)) == 76) = false := beq_eq_false_iff_ne.mpr c24
                          have c24b1 : ((wrap64 (x5_2 + 1)) != 76) = true := bne_iff_ne.mpr c24
                          have H' := Aside0.mk H
                          clear H
                          have p17 : 0 ≤ (x30_2 : Int) := of_decide_eq_true (by first | (with_reducible assumption) | assumption)
                          have q17 : x30_2 < (t163.size : Int) := of_decide_eq_true (by first | (with_reducible assumption) | assumption)
                          have hx17 := bt_at t163 x30_2
                          replace p17 := eq_true p17
                          replace q17 := eq_true q17
                          go_wp2
                          go_roundg k2
                          case measure => have := HJ1.out; have := HK2.out; omega
                          case rel => exact ⟨(wrap64 (x5_2 + 1)), (wrap64 (x30_2 + 1)), (by first | rfl | (simp; done) | (simp [bne_nil_isEmpty, beq_nil_isEmpty]; done) | (simp [*]; done)), (by first | rfl | (simp; done) | (simp [bne_nil_isEmpty, beq_nil_isEmpty]; done) | (simp [*]; done)), H', ⟨by have := HJ1.out; have := HK2.out; omega⟩, ⟨by repeat (first | (with_reducible first | exact HB.out | apply below_alloc | apply pw_below_drewN | apply below_drew1) | exact HB.out)⟩⟩
                  · rw [if_neg c16] at H
                    exact absurd H (by simp)
                · rw [if_neg c15] at H
                  exact absurd H (by simp)
              · rw [if_neg c14] at H
                have c14b0 : decide (x30_2 < (t163.size : Int)) = false := decide_eq_false c14
                clear c14
                have H' := Aside0.mk H
                clear H
                go_wp2
                go_loopg [54] k2 (fun kq v54 w' => ∃ (x54_3 : Int), v54 = .int .i64 x54_3 ∧ Aside0 (trystlaw08_FoldBack.l1 kq l0 t163 (l0.length : Int) x54_3 = some r) ∧ Aside0 (kq ≤ k2) ∧ Aside0 (Below w.heap.size w w'))
                case atStart => exact ⟨(0), (by first | rfl | (simp; done) | (simp [bne_nil_isEmpty, beq_nil_isEmpty]; done) | (simp [*]; done)), H', ⟨Nat.le_refl _⟩, ⟨by repeat (first | (with_reducible first | exact HB.out | apply below_alloc | apply pw_below_drewN | apply below_drew1) | exact HB.out)⟩⟩
                case round =>
                  clear H'
                  try clear c1
                  try clear p1
                  try clear q1
                  try clear hx1
                  try clear c2
                  try clear p2
                  try clear q2
                  try clear hx2
                  try clear c4
                  try clear p6
                  try clear c8
                  try clear c9
                  try clear c12
                  try clear c12b0
                  try clear c12b1
                  try clear c14
                  try clear c14b0
                  try clear c15
                  try clear c15b0
                  try clear c16
                  try clear c16b0
                  try clear p17
                  try clear q17
                  try clear hx17
                  try clear c18
                  try clear c18b0
                  try clear c18b1
                  try clear c19
                  try clear c19b0
                  try clear c20
                  try clear c20b0
                  try clear c20b1
                  try clear p21
                  try clear q21
                  try clear hx21
                  try clear c22
                  try clear c22b0
                  try clear c22b1
                  try clear c23
                  try clear c23b0
                  try clear c24
                  try clear c24b0
                  try clear c24b1
                  try clear c25
                  try clear p25
                  try clear q25
                  try clear hx25
                  try clear c26
                  try clear c26b0
                  try clear c26b1
                  try clear p17
                  try clear p2
                  try clear p21
                  try clear p25
                  try clear q17
                  try clear q21
                  try clear q25
                  obtain ⟨x54_3, rfl, HA, HK3, HB⟩ := hrel
                  cases gk with
                  | zero => exact absurd HA.out (by simp [trystlaw08_FoldBack.l1])
                  | succ k3 =>
                    have H := HA.out
                    clear HA
                    simp only [trystlaw08_FoldBack.l1] at H
                    by_cases c27 : x54_3 < (l0.length : Int)
                    · rw [if_pos c27] at H
                      have c27b0 : decide (x54_3 < (l0.length : Int)) = true := decide_eq_true c27
                      clear c27
                      by_cases c28 : 0 ≤ x54_3
                      · rw [if_pos c28] at H
                        have c28b0 : decide (0 ≤ x54_3) = true := decide_eq_true c28
                        clear c28
                        by_cases c29 : x54_3 < (l0.length : Int)
                        · rw [if_pos c29] at H
                          have c29b0 : decide (x54_3 < (l0.length : Int)) = true := decide_eq_true c29
                          clear c29
                          replace H := Option.bind_eq_some_iff.mp H
                          obtain ⟨t166, A300, H⟩ := H
                          replace H : (if t166 = true then (trystlaw08_FoldBack.l1 k3 l0 t163 (l0.length : Int) (wrap64 (x54_3 + 1))) else (some true)) = some r := H
                          have A30 := Aside0.mk A300
                          clear A300
                          by_cases c31 : t166 = true
                          · subst c31
                            have H1 : (trystlaw08_FoldBack.l1 k3 l0 t163 (l0.length : Int) (wrap64 (x54_3 + 1))) = some r := by rw [if_pos rfl] at H; exact H
                            clear H
                            have H := H1
                            clear H1
                            have H' := Aside0.mk H
                            clear H
                            have p165 : 0 ≤ (x54_3 : Int) := of_decide_eq_true (by first | (with_reducible assumption) | assumption)
                            have q165 : x54_3 < (l0.length : Int) := of_decide_eq_true (by first | (with_reducible assumption) | assumption)
                            obtain ⟨ad165, e165, hx165_0⟩ := Kd.at_string HR0.out x54_3 p165 q165
                            cases e165
                            replace hx165_0 := (HB.out.cell (World.block_lt_of_cell? w _ hx165_0)).trans hx165_0
                            replace p165 := eq_true p165
                            replace q165 := eq_true q165
                            go_wp2_with (first | ((with_reducible refine gate_callee (f := 31) rfl ?_); refine goesL_ (some 61) rfl rfl Tryd.func31 (by kernel_rfl) rfl #[.string (rdOf ByteArray.empty l0 x54_3)] rfl (by (try simp only [List.map_toArray, List.map_cons, List.map_nil]); first | done | rfl | (simp only [List.length_drop, List.length_take]; rfl)) ?_; (with_reducible refine (trystref08_UTF.calls k3 (rdOf ByteArray.empty l0 x54_3) true _ (by first | (with_reducible exact hG) | exact GG.below hG (by repeat (first | (with_reducible first | exact HB.out | apply below_alloc | apply pw_below_drewN | apply below_drew1) | exact HB.out))) A30.out).mono ?_); rintro e w' ⟨rfl, ⟨nd, rfl⟩⟩; refine ⟨_, rfl, ?_⟩))
                            go_roundg k3
                            case measure => have := HJ1.out; have := HK2.out; have := HK3.out; omega
                            case rel => exact ⟨(wrap64 (x54_3 + 1)), (by first | rfl | (simp; done) | (simp [bne_nil_isEmpty, beq_nil_isEmpty]; done) | (simp [*]; done)), H', ⟨by have := HJ1.out; have := HK2.out; have := HK3.out; omega⟩, ⟨by repeat (first | (with_reducible first | exact HB.out | apply below_alloc | apply pw_below_drewN | apply below_drew1) | exact HB.out)⟩⟩
                          · replace c31 := Bool.eq_false_iff.mpr c31
                            subst c31
                            have H1 : (some true) = some r := by rw [if_neg (show ¬ (false = true) by decide)] at H; exact H
                            clear H
                            have H := H1
                            clear H1
                            obtain rfl := Option.some.inj H
                            have p165 : 0 ≤ (x54_3 : Int) := of_decide_eq_true (by first | (with_reducible assumption) | assumption)
                            have q165 : x54_3 < (l0.length : Int) := of_decide_eq_true (by first | (with_reducible assumption) | assumption)
                            obtain ⟨ad165, e165, hx165_0⟩ := Kd.at_string HR0.out x54_3 p165 q165
                            cases e165
                            replace hx165_0 := (HB.out.cell (World.block_lt_of_cell? w _ hx165_0)).trans hx165_0
                            replace p165 := eq_true p165
                            replace q165 := eq_true q165
                            go_wp2_with (first | ((with_reducible refine gate_callee (f := 31) rfl ?_); refine goesL_ (some 61) rfl rfl Tryd.func31 (by kernel_rfl) rfl #[.string (rdOf ByteArray.empty l0 x54_3)] rfl (by (try simp only [List.map_toArray, List.map_cons, List.map_nil]); first | done | rfl | (simp only [List.length_drop, List.length_take]; rfl)) ?_; (with_reducible refine (trystref08_UTF.calls k3 (rdOf ByteArray.empty l0 x54_3) false _ (by first | (with_reducible exact hG) | exact GG.below hG (by repeat (first | (with_reducible first | exact HB.out | apply below_alloc | apply pw_below_drewN | apply below_drew1) | exact HB.out))) A30.out).mono ?_); rintro e w' ⟨rfl, ⟨nd, rfl⟩⟩; refine ⟨_, rfl, ?_⟩))
                            go_ret
                            exact ⟨by first | rfl | (simp [errW_none, errW_some] <;> rfl) | (simp [*, errW_none, errW_some] <;> rfl), by repeat (first | (with_reducible first | exact HB.out | apply below_alloc | apply pw_below_drewN | apply below_drew1) | exact HB.out)⟩
                        · rw [if_neg c29] at H
                          exact absurd H (by simp)
                      · rw [if_neg c28] at H
                        exact absurd H (by simp)
                    · rw [if_neg c27] at H
                      have c27b0 : decide (x54_3 < (l0.length : Int)) = false := decide_eq_false c27
                      clear c27
                      replace H := Option.bind_eq_some_iff.mp H
                      obtain ⟨⟨t167, t168, t169⟩, A320, H⟩ := H
                      replace H : (if t169 = 0 then (if t168 = 0 then ((trystlaw08_Same.f k3 l0 t167).bind fun t172 => (some t172)) else (some false)) else (some false)) = some r := H
                      have A32 := Aside0.mk A320
                      clear A320
                      by_cases c33 : t169 = 0
                      · rw [if_pos c33] at H
                        have c33b0 : (t169 == 0) = true := beq_iff_eq.mpr c33
                        have c33b1 : (t169 != 0) = false := bne_eq_false_iff_eq.mpr c33
                        clear c33
                        by_cases c34 : t168 = 0
                        · rw [if_pos c34] at H
                          have c34b0 : (t168 == 0) = true := beq_iff_eq.mpr c34
                          have c34b1 : (t168 != 0) = false := bne_eq_false_iff_eq.mpr c34
                          clear c34
                          replace H := Option.bind_eq_some_iff.mp H
                          obtain ⟨t172, A350, H⟩ := H
                          replace H : (some t172) = some r := H
                          have A35 := Aside0.mk A350
                          clear A350
                          obtain rfl := Option.some.inj H
                          go_wp2_with (first | ((with_reducible refine gate_callee (f := 29) rfl ?_); refine goesL_ (some 66) rfl rfl Tryd.func29 (by kernel_rfl) rfl #[.string t163] rfl (by (try simp only [List.map_toArray, List.map_cons, List.map_nil]); first | done | rfl | (simp only [List.length_drop, List.length_take]; rfl)) ?_; (with_reducible refine (fold_Unfold.calls k3 t163 t167 t168 t169 _ (by first | (with_reducible exact hG) | exact GG.below hG (by repeat (first | (with_reducible first | exact HB.out | apply below_alloc | apply pw_below_drewN | apply below_drew1) | exact HB.out))) A32.out).mono ?_); rintro e w36 ⟨v170, rfl, ho0, hb⟩; refine ⟨_, rfl, ?_⟩; have n0_ := Aside0.mk (Kd.R_lower ho0 (below_size (by repeat (first | (with_reducible first | exact HB.out | apply below_alloc | apply pw_below_drewN | apply below_drew1) | exact HB.out)))); have n1_ := Aside0.mk (below_step (by repeat (first | (with_reducible first | exact HB.out | apply below_alloc | apply pw_below_drewN | apply below_drew1) | exact HB.out)) hb); clear HB; have HO171 := n0_; have HB := n1_; clear n0_ n1_; (try clear hb); (try clear hb2); (try clear hk); (try clear hi); (try clear ho0); obtain ⟨Ao37, co37, eo37⟩ := Kd.R_slice HO171.out; subst eo37) | (go_at_call 16; (with_reducible refine (trystlaw08_Same.calls k3 _ _ l0 _ _ t167 t172 _ (by first | (with_reducible exact hG) | exact GG.below hG (by repeat (first | (with_reducible first | exact HB.out | apply below_alloc | apply pw_below_drewN | apply below_drew1) | exact HB.out))) ?side1 ?side2 ?side3 ?side4 A35.out).mono ?_); (case side1 => repeat (first | exact (Kd.C_below HR0.out HB.out) | (with_reducible refine Kd.C_alloc ?_ _) | (with_reducible refine Kd.C_drewN ?_ _) | (with_reducible refine Kd.C_drew ?_))); (case side2 => exact HC0.out); (case side3 => repeat (first | exact (Kd.R_reads' HO171.out).2.2 | (with_reducible refine Kd.C_alloc ?_ _) | (with_reducible refine Kd.C_drewN ?_ _) | (with_reducible refine Kd.C_drew ?_))); (case side4 => exact (Kd.R_reads' HO171.out).2.1); rintro e w' ⟨rfl, ⟨nd, rfl⟩⟩))
                          go_ret
                          exact ⟨by first | rfl | (simp [errW_none, errW_some] <;> rfl) | (simp [*, errW_none, errW_some] <;> rfl), by repeat (first | (with_reducible first | exact HB.out | apply below_alloc | apply pw_below_drewN | apply below_drew1) | exact HB.out)⟩
                        · rw [if_neg c34] at H
                          have c34b0 : (t168 == 0) = false := beq_eq_false_iff_ne.mpr c34
                          have c34b1 : (t168 != 0) = true := bne_iff_ne.mpr c34
                          obtain rfl := Option.some.inj H
                          go_wp2_with (first | ((with_reducible refine gate_callee (f := 29) rfl ?_); refine goesL_ (some 66) rfl rfl Tryd.func29 (by kernel_rfl) rfl #[.string t163] rfl (by (try simp only [List.map_toArray, List.map_cons, List.map_nil]); first | done | rfl | (simp only [List.length_drop, List.length_take]; rfl)) ?_; (with_reducible refine (fold_Unfold.calls k3 t163 t167 t168 t169 _ (by first | (with_reducible exact hG) | exact GG.below hG (by repeat (first | (with_reducible first | exact HB.out | apply below_alloc | apply pw_below_drewN | apply below_drew1) | exact HB.out))) A32.out).mono ?_); rintro e w38 ⟨v170, rfl, ho0, hb⟩; refine ⟨_, rfl, ?_⟩; have n0_ := Aside0.mk (Kd.R_lower ho0 (below_size (by repeat (first | (with_reducible first | exact HB.out | apply below_alloc | apply pw_below_drewN | apply below_drew1) | exact HB.out)))); have n1_ := Aside0.mk (below_step (by repeat (first | (with_reducible first | exact HB.out | apply below_alloc | apply pw_below_drewN | apply below_drew1) | exact HB.out)) hb); clear HB; have HO171 := n0_; have HB := n1_; clear n0_ n1_; (try clear hb); (try clear hb2); (try clear hk); (try clear hi); (try clear ho0)))
                          go_ret
                          exact ⟨by first | rfl | (simp [errW_none, errW_some] <;> rfl) | (simp [*, errW_none, errW_some] <;> rfl), by repeat (first | (with_reducible first | exact HB.out | apply below_alloc | apply pw_below_drewN | apply below_drew1) | exact HB.out)⟩
                      · rw [if_neg c33] at H
                        have c33b0 : (t169 == 0) = false := beq_eq_false_iff_ne.mpr c33
                        have c33b1 : (t169 != 0) = true := bne_iff_ne.mpr c33
                        obtain rfl := Option.some.inj H
                        go_wp2_with (first | ((with_reducible refine gate_callee (f := 29) rfl ?_); refine goesL_ (some 66) rfl rfl Tryd.func29 (by kernel_rfl) rfl #[.string t163] rfl (by (try simp only [List.map_toArray, List.map_cons, List.map_nil]); first | done | rfl | (simp only [List.length_drop, List.length_take]; rfl)) ?_; (with_reducible refine (fold_Unfold.calls k3 t163 t167 t168 t169 _ (by first | (with_reducible exact hG) | exact GG.below hG (by repeat (first | (with_reducible first | exact HB.out | apply below_alloc | apply pw_below_drewN | apply below_drew1) | exact HB.out))) A32.out).mono ?_); rintro e w39 ⟨v170, rfl, ho0, hb⟩; refine ⟨_, rfl, ?_⟩; have n0_ := Aside0.mk (Kd.R_lower ho0 (below_size (by repeat (first | (with_reducible first | exact HB.out | apply below_alloc | apply pw_below_drewN | apply below_drew1) | exact HB.out)))); have n1_ := Aside0.mk (below_step (by repeat (first | (with_reducible first | exact HB.out | apply below_alloc | apply pw_below_drewN | apply below_drew1) | exact HB.out)) hb); clear HB; have HO171 := n0_; have HB := n1_; clear n0_ n1_; (try clear hb); (try clear hb2); (try clear hk); (try clear hi); (try clear ho0)))
                        go_ret
                        exact ⟨by first | rfl | (simp [errW_none, errW_some] <;> rfl) | (simp [*, errW_none, errW_some] <;> rfl), by repeat (first | (with_reducible first | exact HB.out | apply below_alloc | apply pw_below_drewN | apply below_drew1) | exact HB.out)⟩
        · rw [if_neg c12] at H
          have c12b0 : (t164 == 0) = false := beq_eq_false_iff_ne.mpr c12
          have c12b1 : (t164 != 0) = true := bne_iff_ne.mpr c12
          obtain rfl := Option.some.inj H
          go_wp2_with (first | ((with_reducible refine gate_callee (f := 27) rfl ?_); refine goesL_ (some 21) rfl rfl Tryd.func27 (by kernel_rfl) rfl #[.slice A0 l0.length c0] rfl (by (try simp only [List.map_toArray, List.map_cons, List.map_nil]); first | done | rfl | (simp only [List.length_drop, List.length_take]; rfl)) ?_; (with_reducible refine (fold_Fold.calls _ _ l0 t163 t164 _ (by first | (with_reducible exact hG) | exact GG.below hG (by repeat (first | (with_reducible first | exact HB.out | apply below_alloc | apply pw_below_drewN | apply below_drew1) | exact HB.out))) ?side1 ?side2 A11.out).mono ?_); (case side1 => repeat (first | exact (Kd.C_below HR0.out HB.out) | (with_reducible refine Kd.C_alloc ?_ _) | (with_reducible refine Kd.C_drewN ?_ _) | (with_reducible refine Kd.C_drew ?_))); (case side2 => exact HC0.out); rintro e w40 ⟨rfl, hb⟩; refine ⟨_, rfl, ?_⟩; have n0_ := Aside0.mk (below_step (by repeat (first | (with_reducible first | exact HB.out | apply below_alloc | apply pw_below_drewN | apply below_drew1) | exact HB.out)) hb); clear HB; have HB := n0_; clear n0_; (try clear hb); (try clear hb2); (try clear hk); (try clear hi)))
          go_ret
          exact ⟨by first | rfl | (simp [errW_none, errW_some] <;> rfl) | (simp [*, errW_none, errW_some] <;> rfl), by repeat (first | (with_reducible first | exact HB.out | apply below_alloc | apply pw_below_drewN | apply below_drew1) | exact HB.out)⟩

end Go.Proofs.YtknmbalhbecdhaaDoor.Print
