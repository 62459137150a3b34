-- Written by xprint.py (a program of this claim's session) out of the translation. Lean checks it.
import Derived.Test.YtknmbalhbecdhaaDoorPrint0
import Derived.Test.YtknmbalhbecdhaaDoorPrint2
import Derived.Test.YtknmbalhbecdhaaDoorPrint3
import Derived.Test.YtknmbalhbecdhaaDoorPrint5
namespace Go.Proofs.YtknmbalhbecdhaaDoor.Print
open Go.RowKit Go.Proofs.YtknmbalhbecdhaaDoorW.PrintWords Go.Proofs.YtknmbalhbecdhaaDoorW.PrintLast Go.Proofs.YtknmbalhbecdhaaDoorW.PrintMore
attribute [local go_sem] max2_int min2_int max_two min_two max_three min_three max_four min_four   -- for this text's walks alone
set_option linter.unusedVariables false
set_option linter.unusedSimpArgs false

/-! ### trystlaw08_FoldOther: function 10 -/
mutual
def trystlaw08_FoldOther.j0 : Nat → ByteArray → List Int → Bool → Bool → Bool → Option (Bool)
  | 0, _, _, _, _, _ => none
  | k + 1, x0, x1, x2, x3, x45 => if x45 = true then ((trystlaw08_awake.f).bind fun t175 => (some t175)) else (trystlaw08_FoldOther.l0 k x0 x1 x2 x3 (x0.size : Int) 0)
def trystlaw08_FoldOther.l0 : Nat → ByteArray → List Int → Bool → Bool → Int → Int → Option (Bool)
  | 0, _, _, _, _, _, _ => none
  | k + 1, x0, x1, x2, x3, x48, x49 => if x49 < x48 then (if 0 ≤ x49 then (if x49 < (x0.size : Int) then (if (bt x0 x49) = 13 then (some true) else (if (bt x0 x49) = 10 then (some true) else (trystlaw08_FoldOther.l0 k x0 x1 x2 x3 x48 (wrap64 (x49 + 1))))) else (none)) else (none)) else (if x3 = true then (trystlaw08_FoldOther.j2 k x0 x1 x2 (⟨#[10]⟩ : ByteArray) (⟨#[32]⟩ : ByteArray)) else (trystlaw08_FoldOther.j2 k x0 x1 x2 (⟨#[13, 10]⟩ : ByteArray) (⟨#[32]⟩ : ByteArray)))
def trystlaw08_FoldOther.j2 : Nat → ByteArray → List Int → Bool → ByteArray → ByteArray → Option (Bool)
  | 0, _, _, _, _, _ => none
  | k + 1, x0, x1, x2, x10, x11 => if x2 = true then (trystlaw08_FoldOther.j3 k x0 x1 x10 (⟨#[9]⟩ : ByteArray)) else (trystlaw08_FoldOther.j3 k x0 x1 x10 x11)
def trystlaw08_FoldOther.j3 : Nat → ByteArray → List Int → ByteArray → ByteArray → Option (Bool)
  | 0, _, _, _, _ => none
  | k + 1, x0, x1, x10, x11 => trystlaw08_FoldOther.l1 k x0 x1 x10 x11 (⟨#[]⟩ : ByteArray) (x0.size : Int) 0
def trystlaw08_FoldOther.l1 : Nat → ByteArray → List Int → ByteArray → ByteArray → ByteArray → Int → Int → Option (Bool)
  | 0, _, _, _, _, _, _, _ => none
  | k + 1, x0, x1, x10, x11, x12, x66, x67 => if x67 < x66 then (trystlaw08_FoldOther.l2 k x0 x1 x10 x11 x12 x67 false x66 x67 (x1.length : Int) 0) else (if x12.size + x10.size ≤ 9223372036854775807 then ((fold_Unfold.f k (x12 ++ x10)).bind fun bt176 => (if bt176.2.2 = 0 then (if bt176.2.1 = 0 then (if (bt176.1.length : Int) = 1 then (if 0 < (bt176.1.length : Int) then (some ((rdOf ByteArray.empty bt176.1 0).toList == x0.toList)) else (none)) else (some false)) else (some false)) else (some false))) else (none))
def trystlaw08_FoldOther.l2 : Nat → ByteArray → List Int → ByteArray → ByteArray → ByteArray → Int → Bool → Int → Int → Int → Int → Option (Bool)
  | 0, _, _, _, _, _, _, _, _, _, _, _ => none
  | k + 1, x0, x1, x10, x11, x12, x13, x14, x66, x67, x71, x72 => if x72 < x71 then (if x14 = true then (trystlaw08_FoldOther.l2 k x0 x1 x10 x11 x12 x13 true x66 x67 x71 (wrap64 (x72 + 1))) else (if x13 > 0 then (if 0 ≤ x72 then (if x72 < (x1.length : Int) then (if (x0.size : Int) = 0 then (none) else (trystlaw08_FoldOther.l2 k x0 x1 x10 x11 x12 x13 ((Int.tmod (wrap64 (rd x1 x72)) (x0.size : Int)) == x13) x66 x67 x71 (wrap64 (x72 + 1)))) else (none)) else (none)) else (trystlaw08_FoldOther.l2 k x0 x1 x10 x11 x12 x13 false x66 x67 x71 (wrap64 (x72 + 1))))) else (if x14 = true then (if x12.size + x10.size ≤ 9223372036854775807 then (if (x12 ++ x10).size + x11.size ≤ 9223372036854775807 then (if 0 ≤ x13 then (if x13 ≤ (wrap64 (x13 + 1)) then (if (wrap64 (x13 + 1)) ≤ (x0.size : Int) then (if ((x12 ++ x10) ++ x11).size + (x0.extract (x13 : Int).toNat ((wrap64 (x13 + 1)) : Int).toNat).size ≤ 9223372036854775807 then (trystlaw08_FoldOther.l1 k x0 x1 x10 x11 (((x12 ++ x10) ++ x11) ++ (x0.extract (x13 : Int).toNat ((wrap64 (x13 + 1)) : Int).toNat)) x66 (wrap64 (x67 + 1))) else (none)) else (none)) else (none)) else (none)) else (none)) else (none)) else (if 0 ≤ x13 then (if x13 ≤ (wrap64 (x13 + 1)) then (if (wrap64 (x13 + 1)) ≤ (x0.size : Int) then (if x12.size + (x0.extract (x13 : Int).toNat ((wrap64 (x13 + 1)) : Int).toNat).size ≤ 9223372036854775807 then (trystlaw08_FoldOther.l1 k x0 x1 x10 x11 (x12 ++ (x0.extract (x13 : Int).toNat ((wrap64 (x13 + 1)) : Int).toNat)) x66 (wrap64 (x67 + 1))) else (none)) else (none)) else (none)) else (none)))
end
def trystlaw08_FoldOther.f (k : Nat) (a0 : ByteArray) (l1 : List Int) (a2 : Bool) (a3 : Bool) : Option (Bool) := (trystlaw08_awake.f).bind fun t173 => (if t173 = true then (if (a0.size : Int) > 500 then (trystlaw08_FoldOther.j0 k a0 l1 a2 a3 true) else (if (a0.size : Int) = 0 then (trystlaw08_FoldOther.j0 k a0 l1 a2 a3 true) else (if 0 < (a0.size : Int) then (if (bt a0 0) = 32 then (trystlaw08_FoldOther.j0 k a0 l1 a2 a3 true) else (if (bt a0 0) = 9 then (trystlaw08_FoldOther.j0 k a0 l1 a2 a3 true) else ((trystref08_UTF.f k a0).bind fun t174 => (trystlaw08_FoldOther.j0 k a0 l1 a2 a3 (!t174))))) else (none)))) else (trystlaw08_FoldOther.j0 k a0 l1 a2 a3 true))
theorem trystlaw08_FoldOther.mono_l : ∀ k, (∀ y0 y1 y2 y3 y4, LeO (trystlaw08_FoldOther.j0 k y0 y1 y2 y3 y4) (trystlaw08_FoldOther.j0 (k + 1) y0 y1 y2 y3 y4)) ∧ (∀ y0 y1 y2 y3 y4 y5, LeO (trystlaw08_FoldOther.l0 k y0 y1 y2 y3 y4 y5) (trystlaw08_FoldOther.l0 (k + 1) y0 y1 y2 y3 y4 y5)) ∧ (∀ y0 y1 y2 y3 y4, LeO (trystlaw08_FoldOther.j2 k y0 y1 y2 y3 y4) (trystlaw08_FoldOther.j2 (k + 1) y0 y1 y2 y3 y4)) ∧ (∀ y0 y1 y2 y3, LeO (trystlaw08_FoldOther.j3 k y0 y1 y2 y3) (trystlaw08_FoldOther.j3 (k + 1) y0 y1 y2 y3)) ∧ (∀ y0 y1 y2 y3 y4 y5 y6, LeO (trystlaw08_FoldOther.l1 k y0 y1 y2 y3 y4 y5 y6) (trystlaw08_FoldOther.l1 (k + 1) y0 y1 y2 y3 y4 y5 y6)) ∧ (∀ y0 y1 y2 y3 y4 y5 y6 y7 y8 y9 y10, LeO (trystlaw08_FoldOther.l2 k y0 y1 y2 y3 y4 y5 y6 y7 y8 y9 y10) (trystlaw08_FoldOther.l2 (k + 1) y0 y1 y2 y3 y4 y5 y6 y7 y8 y9 y10))
  | 0 => ⟨fun _ _ _ _ _ r h => by simp [trystlaw08_FoldOther.j0] at h, fun _ _ _ _ _ _ r h => by simp [trystlaw08_FoldOther.l0] at h, fun _ _ _ _ _ r h => by simp [trystlaw08_FoldOther.j2] at h, fun _ _ _ _ r h => by simp [trystlaw08_FoldOther.j3] at h, fun _ _ _ _ _ _ _ r h => by simp [trystlaw08_FoldOther.l1] at h, fun _ _ _ _ _ _ _ _ _ _ _ r h => by simp [trystlaw08_FoldOther.l2] at h⟩
  | k + 1 => by
    obtain ⟨ih0, ih1, ih2, ih3, ih4, ih5⟩ := trystlaw08_FoldOther.mono_l k
    refine ⟨?_, ?_, ?_, ?_, ?_, ?_⟩
    · intro y0 y1 y2 y3 y4
      unfold trystlaw08_FoldOther.j0
      repeat' first
      | (with_reducible exact ih0 _ _ _ _ _)
      | (with_reducible exact ih1 _ _ _ _ _ _)
      | (with_reducible exact ih2 _ _ _ _ _)
      | (with_reducible exact ih3 _ _ _ _)
      | (with_reducible exact ih4 _ _ _ _ _ _ _)
      | (with_reducible exact ih5 _ _ _ _ _ _ _ _ _ _ _)
      | (with_reducible exact fold_Unfold.mono _ _)
      | (with_reducible exact trystref08_UTF.mono _ _)
      | (with_reducible exact LeO.refl _)
      | (with_reducible exact LeO.none _)
      | (with_reducible refine LeO.ite ?_ ?_)
      | (with_reducible refine LeO.bind ?_ (fun _ => ?_))
      | exact ih0 _ _ _ _ _
      | exact ih1 _ _ _ _ _ _
      | exact ih2 _ _ _ _ _
      | exact ih3 _ _ _ _
      | exact ih4 _ _ _ _ _ _ _
      | exact ih5 _ _ _ _ _ _ _ _ _ _ _
      | exact fold_Unfold.mono _ _
      | exact trystref08_UTF.mono _ _
      | exact LeO.none _
      | refine LeO.ite ?_ ?_
      | refine LeO.bind ?_ (fun _ => ?_)
    · intro y0 y1 y2 y3 y4 y5
      unfold trystlaw08_FoldOther.l0
      repeat' first
      | (with_reducible exact ih0 _ _ _ _ _)
      | (with_reducible exact ih1 _ _ _ _ _ _)
      | (with_reducible exact ih2 _ _ _ _ _)
      | (with_reducible exact ih3 _ _ _ _)
      | (with_reducible exact ih4 _ _ _ _ _ _ _)
      | (with_reducible exact ih5 _ _ _ _ _ _ _ _ _ _ _)
      | (with_reducible exact fold_Unfold.mono _ _)
      | (with_reducible exact trystref08_UTF.mono _ _)
      | (with_reducible exact LeO.refl _)
      | (with_reducible exact LeO.none _)
      | (with_reducible refine LeO.ite ?_ ?_)
      | (with_reducible refine LeO.bind ?_ (fun _ => ?_))
      | exact ih0 _ _ _ _ _
      | exact ih1 _ _ _ _ _ _
      | exact ih2 _ _ _ _ _
      | exact ih3 _ _ _ _
      | exact ih4 _ _ _ _ _ _ _
      | exact ih5 _ _ _ _ _ _ _ _ _ _ _
      | exact fold_Unfold.mono _ _
      | exact trystref08_UTF.mono _ _
      | exact LeO.none _
      | refine LeO.ite ?_ ?_
      | refine LeO.bind ?_ (fun _ => ?_)
    · intro y0 y1 y2 y3 y4
      unfold trystlaw08_FoldOther.j2
      repeat' first
      | (with_reducible exact ih0 _ _ _ _ _)
      | (with_reducible exact ih1 _ _ _ _ _ _)
      | (with_reducible exact ih2 _ _ _ _ _)
      | (with_reducible exact ih3 _ _ _ _)
      | (with_reducible exact ih4 _ _ _ _ _ _ _)
      | (with_reducible exact ih5 _ _ _ _ _ _ _ _ _ _ _)
      | (with_reducible exact fold_Unfold.mono _ _)
      | (with_reducible exact trystref08_UTF.mono _ _)
      | (with_reducible exact LeO.refl _)
      | (with_reducible exact LeO.none _)
      | (with_reducible refine LeO.ite ?_ ?_)
      | (with_reducible refine LeO.bind ?_ (fun _ => ?_))
      | exact ih0 _ _ _ _ _
      | exact ih1 _ _ _ _ _ _
      | exact ih2 _ _ _ _ _
      | exact ih3 _ _ _ _
      | exact ih4 _ _ _ _ _ _ _
      | exact ih5 _ _ _ _ _ _ _ _ _ _ _
      | exact fold_Unfold.mono _ _
      | exact trystref08_UTF.mono _ _
      | exact LeO.none _
      | refine LeO.ite ?_ ?_
      | refine LeO.bind ?_ (fun _ => ?_)
    · intro y0 y1 y2 y3
      unfold trystlaw08_FoldOther.j3
      repeat' first
      | (with_reducible exact ih0 _ _ _ _ _)
      | (with_reducible exact ih1 _ _ _ _ _ _)
      | (with_reducible exact ih2 _ _ _ _ _)
      | (with_reducible exact ih3 _ _ _ _)
      | (with_reducible exact ih4 _ _ _ _ _ _ _)
      | (with_reducible exact ih5 _ _ _ _ _ _ _ _ _ _ _)
      | (with_reducible exact fold_Unfold.mono _ _)
      | (with_reducible exact trystref08_UTF.mono _ _)
      | (with_reducible exact LeO.refl _)
      | (with_reducible exact LeO.none _)
      | (with_reducible refine LeO.ite ?_ ?_)
      | (with_reducible refine LeO.bind ?_ (fun _ => ?_))
      | exact ih0 _ _ _ _ _
      | exact ih1 _ _ _ _ _ _
      | exact ih2 _ _ _ _ _
      | exact ih3 _ _ _ _
      | exact ih4 _ _ _ _ _ _ _
      | exact ih5 _ _ _ _ _ _ _ _ _ _ _
      | exact fold_Unfold.mono _ _
      | exact trystref08_UTF.mono _ _
      | exact LeO.none _
      | refine LeO.ite ?_ ?_
      | refine LeO.bind ?_ (fun _ => ?_)
    · intro y0 y1 y2 y3 y4 y5 y6
      unfold trystlaw08_FoldOther.l1
      repeat' first
      | (with_reducible exact ih0 _ _ _ _ _)
      | (with_reducible exact ih1 _ _ _ _ _ _)
      | (with_reducible exact ih2 _ _ _ _ _)
      | (with_reducible exact ih3 _ _ _ _)
      | (with_reducible exact ih4 _ _ _ _ _ _ _)
      | (with_reducible exact ih5 _ _ _ _ _ _ _ _ _ _ _)
      | (with_reducible exact fold_Unfold.mono _ _)
      | (with_reducible exact trystref08_UTF.mono _ _)
      | (with_reducible exact LeO.refl _)
      | (with_reducible exact LeO.none _)
      | (with_reducible refine LeO.ite ?_ ?_)
      | (with_reducible refine LeO.bind ?_ (fun _ => ?_))
      | exact ih0 _ _ _ _ _
      | exact ih1 _ _ _ _ _ _
      | exact ih2 _ _ _ _ _
      | exact ih3 _ _ _ _
      | exact ih4 _ _ _ _ _ _ _
      | exact ih5 _ _ _ _ _ _ _ _ _ _ _
      | exact fold_Unfold.mono _ _
      | exact trystref08_UTF.mono _ _
      | exact LeO.none _
      | refine LeO.ite ?_ ?_
      | refine LeO.bind ?_ (fun _ => ?_)
    · intro y0 y1 y2 y3 y4 y5 y6 y7 y8 y9 y10
      unfold trystlaw08_FoldOther.l2
      repeat' first
      | (with_reducible exact ih0 _ _ _ _ _)
      | (with_reducible exact ih1 _ _ _ _ _ _)
      | (with_reducible exact ih2 _ _ _ _ _)
      | (with_reducible exact ih3 _ _ _ _)
      | (with_reducible exact ih4 _ _ _ _ _ _ _)
      | (with_reducible exact ih5 _ _ _ _ _ _ _ _ _ _ _)
      | (with_reducible exact fold_Unfold.mono _ _)
      | (with_reducible exact trystref08_UTF.mono _ _)
      | (with_reducible exact LeO.refl _)
      | (with_reducible exact LeO.none _)
      | (with_reducible refine LeO.ite ?_ ?_)
      | (with_reducible refine LeO.bind ?_ (fun _ => ?_))
      | exact ih0 _ _ _ _ _
      | exact ih1 _ _ _ _ _ _
      | exact ih2 _ _ _ _ _
      | exact ih3 _ _ _ _
      | exact ih4 _ _ _ _ _ _ _
      | exact ih5 _ _ _ _ _ _ _ _ _ _ _
      | exact fold_Unfold.mono _ _
      | exact trystref08_UTF.mono _ _
      | exact LeO.none _
      | refine LeO.ite ?_ ?_
      | refine LeO.bind ?_ (fun _ => ?_)
theorem trystlaw08_FoldOther.mono : ∀ a0 a1 a2 a3 k, LeO (trystlaw08_FoldOther.f k a0 a1 a2 a3) (trystlaw08_FoldOther.f (k + 1) a0 a1 a2 a3) := by
  intro a0 a1 a2 a3 k
  obtain ⟨ih0, ih1, ih2, ih3, ih4, ih5⟩ := trystlaw08_FoldOther.mono_l k
  unfold trystlaw08_FoldOther.f
  repeat' first
      | (with_reducible exact ih0 _ _ _ _ _)
      | (with_reducible exact ih1 _ _ _ _ _ _)
      | (with_reducible exact ih2 _ _ _ _ _)
      | (with_reducible exact ih3 _ _ _ _)
      | (with_reducible exact ih4 _ _ _ _ _ _ _)
      | (with_reducible exact ih5 _ _ _ _ _ _ _ _ _ _ _)
      | (with_reducible exact fold_Unfold.mono _ _)
      | (with_reducible exact trystref08_UTF.mono _ _)
      | (with_reducible exact LeO.refl _)
      | (with_reducible exact LeO.none _)
      | (with_reducible refine LeO.ite ?_ ?_)
      | (with_reducible refine LeO.bind ?_ (fun _ => ?_))
      | exact ih0 _ _ _ _ _
      | exact ih1 _ _ _ _ _ _
      | exact ih2 _ _ _ _ _
      | exact ih3 _ _ _ _
      | exact ih4 _ _ _ _ _ _ _
      | exact ih5 _ _ _ _ _ _ _ _ _ _ _
      | exact fold_Unfold.mono _ _
      | exact trystref08_UTF.mono _ _
      | exact LeO.none _
      | refine LeO.ite ?_ ?_
      | refine LeO.bind ?_ (fun _ => ?_)
set_option maxHeartbeats 8000000 in
set_option maxRecDepth 100000 in
theorem trystlaw08_FoldOther.calls (k : Nat) (a0 : ByteArray) (A1 : Option Addr) (c1 : Nat) (l1 : List Int) (a2 : Bool) (a3 : Bool) (r : Bool) (w : World) (hG : GG w) (hr1 : Kd.C (Kd.int .u16) w A1 l1.length l1) (hc1 : l1.length ≤ c1) (h : trystlaw08_FoldOther.f k a0 l1 a2 a3 = some r) :
    Calls Tryd.prog 10 #[.string a0, .slice A1 l1.length c1, .bool a2, .bool a3] w fun e w' => e = .returned (.bool r) ∧ Below w.heap.size w w' := by
  have HR1 := Aside0.mk hr1
  have HC1 := Aside0.mk hc1
  clear hr1 hc1
  have HB := Aside0.mk (Below.refl w.heap.size w)
  have H : ((trystlaw08_awake.f).bind fun t173 => (if t173 = true then (if (a0.size : Int) > 500 then (trystlaw08_FoldOther.j0 k a0 l1 a2 a3 true) else (if (a0.size : Int) = 0 then (trystlaw08_FoldOther.j0 k a0 l1 a2 a3 true) else (if 0 < (a0.size : Int) then (if (bt a0 0) = 32 then (trystlaw08_FoldOther.j0 k a0 l1 a2 a3 true) else (if (bt a0 0) = 9 then (trystlaw08_FoldOther.j0 k a0 l1 a2 a3 true) else ((trystref08_UTF.f k a0).bind fun t174 => (trystlaw08_FoldOther.j0 k a0 l1 a2 a3 (!t174))))) else (none)))) else (trystlaw08_FoldOther.j0 k a0 l1 a2 a3 true))) = some r := h
  clear h
  have HC5 := Aside0.mk H
  clear H
  go_enter Tryd.func10, Tryd.ntmps10
  go_upto_region 1 with (fail)
  go_cut [45] (fun v45 wc => ∃ (kq : Nat) (x45_4 : Bool), v45 = .bool x45_4 ∧ Aside0 (trystlaw08_FoldOther.j0 kq a0 l1 a2 a3 x45_4 = some r) ∧ Aside0 (kq ≤ k) ∧ Aside0 (Below w.heap.size w wc))
  case first =>
    have H := HC5.out
    clear HC5
    replace H := Option.bind_eq_some_iff.mp H
    obtain ⟨t173, A60, H⟩ := H
    replace H : (if t173 = true then (if (a0.size : Int) > 500 then (trystlaw08_FoldOther.j0 k a0 l1 a2 a3 true) else (if (a0.size : Int) = 0 then (trystlaw08_FoldOther.j0 k a0 l1 a2 a3 true) else (if 0 < (a0.size : Int) then (if (bt a0 0) = 32 then (trystlaw08_FoldOther.j0 k a0 l1 a2 a3 true) else (if (bt a0 0) = 9 then (trystlaw08_FoldOther.j0 k a0 l1 a2 a3 true) else ((trystref08_UTF.f k a0).bind fun t174 => (trystlaw08_FoldOther.j0 k a0 l1 a2 a3 (!t174))))) else (none)))) else (trystlaw08_FoldOther.j0 k a0 l1 a2 a3 true)) = some r := H
    have A6 := Aside0.mk A60
    clear A60
    by_cases c7 : t173 = true
    · subst c7
      have H1 : (if (a0.size : Int) > 500 then (trystlaw08_FoldOther.j0 k a0 l1 a2 a3 true) else (if (a0.size : Int) = 0 then (trystlaw08_FoldOther.j0 k a0 l1 a2 a3 true) else (if 0 < (a0.size : Int) then (if (bt a0 0) = 32 then (trystlaw08_FoldOther.j0 k a0 l1 a2 a3 true) else (if (bt a0 0) = 9 then (trystlaw08_FoldOther.j0 k a0 l1 a2 a3 true) else ((trystref08_UTF.f k a0).bind fun t174 => (trystlaw08_FoldOther.j0 k a0 l1 a2 a3 (!t174))))) else (none)))) = some r := by rw [if_pos rfl] at H; exact H
      clear H
      have H := H1
      clear H1
      by_cases c8 : (a0.size : Int) > 500
      · rw [if_pos c8] at H
        have c8b0 : decide (500 < (a0.size : Int)) = true := decide_eq_true c8
        have c8b1 : decide (500 < a0.size) = true := decide_eq_true (by omega)
        clear c8
        (first | rw [c8b0] | (simp only [i64_w, i32_w]; rw [c8b0]) | skip)
        have H' := Aside0.mk H
        clear H
        go_wp2_with (first | ((with_reducible refine gate_callee (f := 25) rfl ?_); refine goesL_ (some 19) rfl rfl Tryd.func25 (by kernel_rfl) rfl #[] rfl (by (try simp only [List.map_toArray, List.map_cons, List.map_nil]); first | done | rfl | (simp only [List.length_drop, List.length_take]; rfl)) ?_; (with_reducible refine (trystlaw08_awake.calls  true _ (by first | (with_reducible exact hG) | exact GG.below hG (by repeat (first | (with_reducible first | exact HB.out | apply below_alloc | apply pw_below_drewN | apply below_drew1) | exact HB.out))) A6.out).mono ?_); rintro e w9 ⟨rfl, hb⟩; refine ⟨_, rfl, ?_⟩; have n0_ := Aside0.mk (below_step (by repeat (first | (with_reducible first | exact HB.out | apply below_alloc | apply pw_below_drewN | apply below_drew1) | exact HB.out)) hb); clear HB; have HB := n0_; clear n0_; (try clear hb); (try clear hb2); (try clear hk); (try clear hi)))
        go_meet
        case rel => exact ⟨_, (true), (by first | rfl | (simp; done) | (simp [bne_nil_isEmpty, beq_nil_isEmpty]; done) | (simp [*]; done)), H', ⟨by first | omega | exact Nat.le_refl _⟩, ⟨by repeat (first | (with_reducible first | exact HB.out | apply below_alloc | apply pw_below_drewN | apply below_drew1) | exact HB.out)⟩⟩
      · rw [if_neg c8] at H
        have c8b0 : decide (500 < (a0.size : Int)) = false := decide_eq_false c8
        have c8b1 : decide (500 < a0.size) = false := decide_eq_false (by omega)
        clear c8
        (first | rw [c8b0] | (simp only [i64_w, i32_w]; rw [c8b0]) | skip)
        by_cases c10 : (a0.size : Int) = 0
        · rw [if_pos c10] at H
          have c10b0 : ((a0.size : Int) == 0) = true := beq_iff_eq.mpr c10
          have c10b1 : ((a0.size : Int) != 0) = false := bne_eq_false_iff_eq.mpr c10
          clear c10
          have H' := Aside0.mk H
          clear H
          go_wp2_with (first | ((with_reducible refine gate_callee (f := 25) rfl ?_); refine goesL_ (some 19) rfl rfl Tryd.func25 (by kernel_rfl) rfl #[] rfl (by (try simp only [List.map_toArray, List.map_cons, List.map_nil]); first | done | rfl | (simp only [List.length_drop, List.length_take]; rfl)) ?_; (with_reducible refine (trystlaw08_awake.calls  true _ (by first | (with_reducible exact hG) | exact GG.below hG (by repeat (first | (with_reducible first | exact HB.out | apply below_alloc | apply pw_below_drewN | apply below_drew1) | exact HB.out))) A6.out).mono ?_); rintro e w11 ⟨rfl, hb⟩; refine ⟨_, rfl, ?_⟩; have n0_ := Aside0.mk (below_step (by repeat (first | (with_reducible first | exact HB.out | apply below_alloc | apply pw_below_drewN | apply below_drew1) | exact HB.out)) hb); clear HB; have HB := n0_; clear n0_; (try clear hb); (try clear hb2); (try clear hk); (try clear hi)))
          go_meet
          case rel => exact ⟨_, (true), (by first | rfl | (simp; done) | (simp [bne_nil_isEmpty, beq_nil_isEmpty]; done) | (simp [*]; done)), H', ⟨by first | omega | exact Nat.le_refl _⟩, ⟨by repeat (first | (with_reducible first | exact HB.out | apply below_alloc | apply pw_below_drewN | apply below_drew1) | exact HB.out)⟩⟩
        · rw [if_neg c10] at H
          have c10b0 : ((a0.size : Int) == 0) = false := beq_eq_false_iff_ne.mpr c10
          have c10b1 : ((a0.size : Int) != 0) = true := bne_iff_ne.mpr c10
          by_cases c12 : 0 < (a0.size : Int)
          · rw [if_pos c12] at H
            have c12b0 : decide (0 < (a0.size : Int)) = true := decide_eq_true c12
            have c12b1 : decide (0 < a0.size) = true := decide_eq_true (by omega)
            clear c12
            by_cases c14 : (bt a0 0) = 32
            · rw [if_pos c14] at H
              have c14b0 : ((bt a0 0) == 32) = true := beq_iff_eq.mpr c14
              have c14b1 : ((bt a0 0) != 32) = false := bne_eq_false_iff_eq.mpr c14
              clear c14
              have H' := Aside0.mk H
              clear H
              go_wp2_with (first | ((with_reducible refine gate_callee (f := 25) rfl ?_); refine goesL_ (some 19) rfl rfl Tryd.func25 (by kernel_rfl) rfl #[] rfl (by (try simp only [List.map_toArray, List.map_cons, List.map_nil]); first | done | rfl | (simp only [List.length_drop, List.length_take]; rfl)) ?_; (with_reducible refine (trystlaw08_awake.calls  true _ (by first | (with_reducible exact hG) | exact GG.below hG (by repeat (first | (with_reducible first | exact HB.out | apply below_alloc | apply pw_below_drewN | apply below_drew1) | exact HB.out))) A6.out).mono ?_); rintro e w15 ⟨rfl, hb⟩; refine ⟨_, rfl, ?_⟩; have n0_ := Aside0.mk (below_step (by repeat (first | (with_reducible first | exact HB.out | apply below_alloc | apply pw_below_drewN | apply below_drew1) | exact HB.out)) hb); clear HB; have HB := n0_; clear n0_; (try clear hb); (try clear hb2); (try clear hk); (try clear hi); have p13 : 0 ≤ (0 : Int) := (by omega); have q13 : 0 < a0.size := (by have : (0 : Int) < (a0.size : Int) := of_decide_eq_true (by first | (with_reducible assumption) | assumption); omega); have hx13 : ∀ h : 0 < a0.size, ((a0[0]'h).toNat : Int) = bt a0 0 := bt_at a0 0; clear p13; have qi13 : (0 < (a0.size : Int)) = True := eq_true (of_decide_eq_true (by first | (with_reducible assumption) | assumption)); replace q13 := eq_true q13))
              go_meet
              case rel => exact ⟨_, (true), (by first | rfl | (simp; done) | (simp [bne_nil_isEmpty, beq_nil_isEmpty]; done) | (simp [*]; done)), H', ⟨by first | omega | exact Nat.le_refl _⟩, ⟨by repeat (first | (with_reducible first | exact HB.out | apply below_alloc | apply pw_below_drewN | apply below_drew1) | exact HB.out)⟩⟩
            · rw [if_neg c14] at H
              have c14b0 : ((bt a0 0) == 32) = false := beq_eq_false_iff_ne.mpr c14
              have c14b1 : ((bt a0 0) != 32) = true := bne_iff_ne.mpr c14
              by_cases c17 : (bt a0 0) = 9
              · rw [if_pos c17] at H
                have c17b0 : ((bt a0 0) == 9) = true := beq_iff_eq.mpr c17
                have c17b1 : ((bt a0 0) != 9) = false := bne_eq_false_iff_eq.mpr c17
                clear c17
                have H' := Aside0.mk H
                clear H
                go_wp2_with (first | ((with_reducible refine gate_callee (f := 25) rfl ?_); refine goesL_ (some 19) rfl rfl Tryd.func25 (by kernel_rfl) rfl #[] rfl (by (try simp only [List.map_toArray, List.map_cons, List.map_nil]); first | done | rfl | (simp only [List.length_drop, List.length_take]; rfl)) ?_; (with_reducible refine (trystlaw08_awake.calls  true _ (by first | (with_reducible exact hG) | exact GG.below hG (by repeat (first | (with_reducible first | exact HB.out | apply below_alloc | apply pw_below_drewN | apply below_drew1) | exact HB.out))) A6.out).mono ?_); rintro e w18 ⟨rfl, hb⟩; refine ⟨_, rfl, ?_⟩; have n0_ := Aside0.mk (below_step (by repeat (first | (with_reducible first | exact HB.out | apply below_alloc | apply pw_below_drewN | apply below_drew1) | exact HB.out)) hb); clear HB; have HB := n0_; clear n0_; (try clear hb); (try clear hb2); (try clear hk); (try clear hi); have p13 : 0 ≤ (0 : Int) := (by omega); have q13 : 0 < a0.size := (by have : (0 : Int) < (a0.size : Int) := of_decide_eq_true (by first | (with_reducible assumption) | assumption); omega); have hx13 : ∀ h : 0 < a0.size, ((a0[0]'h).toNat : Int) = bt a0 0 := bt_at a0 0; clear p13; have qi13 : (0 < (a0.size : Int)) = True := eq_true (of_decide_eq_true (by first | (with_reducible assumption) | assumption)); replace q13 := eq_true q13; have p16 : 0 ≤ (0 : Int) := (by omega); have q16 : 0 < a0.size := (by have : (0 : Int) < (a0.size : Int) := of_decide_eq_true (by first | (with_reducible assumption) | assumption); omega); have hx16 : ∀ h : 0 < a0.size, ((a0[0]'h).toNat : Int) = bt a0 0 := bt_at a0 0; clear p16; have qi16 : (0 < (a0.size : Int)) = True := eq_true (of_decide_eq_true (by first | (with_reducible assumption) | assumption)); replace q16 := eq_true q16))
                go_meet
                case rel => exact ⟨_, (true), (by first | rfl | (simp; done) | (simp [bne_nil_isEmpty, beq_nil_isEmpty]; done) | (simp [*]; done)), H', ⟨by first | omega | exact Nat.le_refl _⟩, ⟨by repeat (first | (with_reducible first | exact HB.out | apply below_alloc | apply pw_below_drewN | apply below_drew1) | exact HB.out)⟩⟩
              · rw [if_neg c17] at H
                have c17b0 : ((bt a0 0) == 9) = false := beq_eq_false_iff_ne.mpr c17
                have c17b1 : ((bt a0 0) != 9) = true := bne_iff_ne.mpr c17
                replace H := Option.bind_eq_some_iff.mp H
                obtain ⟨t174, A190, H⟩ := H
                replace H : (trystlaw08_FoldOther.j0 k a0 l1 a2 a3 (!t174)) = some r := H
                have A19 := Aside0.mk A190
                clear A190
                have H' := Aside0.mk H
                clear H
                go_wp2_with (first | ((with_reducible refine gate_callee (f := 25) rfl ?_); refine goesL_ (some 19) rfl rfl Tryd.func25 (by kernel_rfl) rfl #[] rfl (by (try simp only [List.map_toArray, List.map_cons, List.map_nil]); first | done | rfl | (simp only [List.length_drop, List.length_take]; rfl)) ?_; (with_reducible refine (trystlaw08_awake.calls  true _ (by first | (with_reducible exact hG) | exact GG.below hG (by repeat (first | (with_reducible first | exact HB.out | apply below_alloc | apply pw_below_drewN | apply below_drew1) | exact HB.out))) A6.out).mono ?_); rintro e w20 ⟨rfl, hb⟩; refine ⟨_, rfl, ?_⟩; have n0_ := Aside0.mk (below_step (by repeat (first | (with_reducible first | exact HB.out | apply below_alloc | apply pw_below_drewN | apply below_drew1) | exact HB.out)) hb); clear HB; have HB := n0_; clear n0_; (try clear hb); (try clear hb2); (try clear hk); (try clear hi); have p13 : 0 ≤ (0 : Int) := (by omega); have q13 : 0 < a0.size := (by have : (0 : Int) < (a0.size : Int) := of_decide_eq_true (by first | (with_reducible assumption) | assumption); omega); have hx13 : ∀ h : 0 < a0.size, ((a0[0]'h).toNat : Int) = bt a0 0 := bt_at a0 0; clear p13; have qi13 : (0 < (a0.size : Int)) = True := eq_true (of_decide_eq_true (by first | (with_reducible assumption) | assumption)); replace q13 := eq_true q13; have p16 : 0 ≤ (0 : Int) := (by omega); have q16 : 0 < a0.size := (by have : (0 : Int) < (a0.size : Int) := of_decide_eq_true (by first | (with_reducible assumption) | assumption); omega); have hx16 : ∀ h : 0 < a0.size, ((a0[0]'h).toNat : Int) = bt a0 0 := bt_at a0 0; clear p16; have qi16 : (0 < (a0.size : Int)) = True := eq_true (of_decide_eq_true (by first | (with_reducible assumption) | assumption)); replace q16 := eq_true q16) | (go_at_call 31; (with_reducible refine (trystref08_UTF.calls k a0 t174 _ (by first | (with_reducible exact hG) | exact GG.below hG (by repeat (first | (with_reducible first | exact HB.out | apply below_alloc | apply pw_below_drewN | apply below_drew1) | exact HB.out))) A19.out).mono ?_); rintro e w' ⟨rfl, ⟨nd, rfl⟩⟩))
                go_meet
                case rel => exact ⟨_, (!t174), (by first | rfl | (simp; done) | (simp [bne_nil_isEmpty, beq_nil_isEmpty]; done) | (simp [*]; done)), H', ⟨by first | omega | exact Nat.le_refl _⟩, ⟨by repeat (first | (with_reducible first | exact HB.out | apply below_alloc | apply pw_below_drewN | apply below_drew1) | exact HB.out)⟩⟩
          · rw [if_neg c12] at H
            exact absurd H (by simp)
    · replace c7 := Bool.eq_false_iff.mpr c7
      subst c7
      have H1 : (trystlaw08_FoldOther.j0 k a0 l1 a2 a3 true) = some r := by rw [if_neg (show ¬ (false = true) by decide)] at H; exact H
      clear H
      have H := H1
      clear H1
      have H' := Aside0.mk H
      clear H
      go_wp2_with (first | ((with_reducible refine gate_callee (f := 25) rfl ?_); refine goesL_ (some 19) rfl rfl Tryd.func25 (by kernel_rfl) rfl #[] rfl (by (try simp only [List.map_toArray, List.map_cons, List.map_nil]); first | done | rfl | (simp only [List.length_drop, List.length_take]; rfl)) ?_; (with_reducible refine (trystlaw08_awake.calls  false _ (by first | (with_reducible exact hG) | exact GG.below hG (by repeat (first | (with_reducible first | exact HB.out | apply below_alloc | apply pw_below_drewN | apply below_drew1) | exact HB.out))) A6.out).mono ?_); rintro e w21 ⟨rfl, hb⟩; refine ⟨_, rfl, ?_⟩; have n0_ := Aside0.mk (below_step (by repeat (first | (with_reducible first | exact HB.out | apply below_alloc | apply pw_below_drewN | apply below_drew1) | exact HB.out)) hb); clear HB; have HB := n0_; clear n0_; (try clear hb); (try clear hb2); (try clear hk); (try clear hi)))
      go_meet
      case rel => exact ⟨_, (true), (by first | rfl | (simp; done) | (simp [bne_nil_isEmpty, beq_nil_isEmpty]; done) | (simp [*]; done)), H', ⟨by first | omega | exact Nat.le_refl _⟩, ⟨by repeat (first | (with_reducible first | exact HB.out | apply below_alloc | apply pw_below_drewN | apply below_drew1) | exact HB.out)⟩⟩
  case rest =>
    clear HC5
    try clear c1
    try clear p1
    try clear q1
    try clear hx1
    try clear qi1
    try clear c2
    try clear p2
    try clear c7
    try clear c8
    try clear c8b0
    try clear c8b1
    try clear c10
    try clear c10b0
    try clear c10b1
    try clear c12
    try clear c12b0
    try clear c12b1
    try clear p13
    try clear q13
    try clear hx13
    try clear qi13
    try clear c14
    try clear c14b0
    try clear c14b1
    try clear p16
    try clear q16
    try clear hx16
    try clear qi16
    try clear c17
    try clear c17b0
    try clear c17b1
    try clear p13
    try clear p16
    try clear q13
    try clear q16
    obtain ⟨kq, x45_4, rfl, HA, HJ4, HB⟩ := hcut
    cases kq with
    | zero => exact absurd HA.out (by simp [trystlaw08_FoldOther.j0])
    | succ kj4 =>
      have H := HA.out
      clear HA
      simp only [trystlaw08_FoldOther.j0] at H
      by_cases c22 : x45_4 = true
      · subst c22
        have H1 : ((trystlaw08_awake.f).bind fun t175 => (some t175)) = some r := by rw [if_pos rfl] at H; exact H
        clear H
        have H := H1
        clear H1
        replace H := Option.bind_eq_some_iff.mp H
        obtain ⟨t175, A230, H⟩ := H
        replace H : (some t175) = some r := H
        have A23 := Aside0.mk A230
        clear A230
        obtain rfl := Option.some.inj H
        go_wp2_with (first | ((with_reducible refine gate_callee (f := 25) rfl ?_); refine goesL_ (some 46) rfl rfl Tryd.func25 (by kernel_rfl) rfl #[] rfl (by (try simp only [List.map_toArray, List.map_cons, List.map_nil]); first | done | rfl | (simp only [List.length_drop, List.length_take]; rfl)) ?_; (with_reducible refine (trystlaw08_awake.calls  t175 _ (by first | (with_reducible exact hG) | exact GG.below hG (by repeat (first | (with_reducible first | exact HB.out | apply below_alloc | apply pw_below_drewN | apply below_drew1) | exact HB.out))) A23.out).mono ?_); rintro e w24 ⟨rfl, hb⟩; refine ⟨_, rfl, ?_⟩; have n0_ := Aside0.mk (below_step (by repeat (first | (with_reducible first | exact HB.out | apply below_alloc | apply pw_below_drewN | apply below_drew1) | exact HB.out)) hb); clear HB; have HB := n0_; clear n0_; (try clear hb); (try clear hb2); (try clear hk); (try clear hi)))
        go_ret
        exact ⟨by first | rfl | (simp [errW_none, errW_some] <;> rfl) | (simp [*, errW_none, errW_some] <;> rfl), by repeat (first | (with_reducible first | exact HB.out | apply below_alloc | apply pw_below_drewN | apply below_drew1) | exact HB.out)⟩
      · replace c22 := Bool.eq_false_iff.mpr c22
        subst c22
        have H1 : (trystlaw08_FoldOther.l0 kj4 a0 l1 a2 a3 (a0.size : Int) 0) = some r := by rw [if_neg (show ¬ (false = true) by decide)] at H; exact H
        clear H
        have H := H1
        clear H1
        have H' := Aside0.mk H
        clear H
        go_wp2
        go_loopg [49] kj4 (fun kq v49 w' => ∃ (x49_2 : Int), v49 = .int .i64 x49_2 ∧ Aside0 (trystlaw08_FoldOther.l0 kq a0 l1 a2 a3 (a0.size : Int) x49_2 = some r) ∧ Aside0 (kq ≤ kj4) ∧ Aside0 (Below w.heap.size w w'))
        case atStart => exact ⟨(0), (by first | rfl | (simp; done) | (simp [bne_nil_isEmpty, beq_nil_isEmpty]; done) | (simp [*]; done)), H', ⟨Nat.le_refl _⟩, ⟨by repeat (first | (with_reducible first | exact HB.out | apply below_alloc | apply pw_below_drewN | apply below_drew1) | exact HB.out)⟩⟩
        case round =>
          clear H'
          try clear c1
          try clear p1
          try clear q1
          try clear hx1
          try clear qi1
          try clear c2
          try clear p2
          try clear c7
          try clear c8
          try clear c8b0
          try clear c8b1
          try clear c10
          try clear c10b0
          try clear c10b1
          try clear c12
          try clear c12b0
          try clear c12b1
          try clear p13
          try clear q13
          try clear hx13
          try clear qi13
          try clear c14
          try clear c14b0
          try clear c14b1
          try clear p16
          try clear q16
          try clear hx16
          try clear qi16
          try clear c17
          try clear c17b0
          try clear c17b1
          try clear c22
          try clear p1
          try clear p13
          try clear p16
          try clear p2
          try clear q1
          try clear q13
          try clear q16
          obtain ⟨x49_2, rfl, HA, HK2, HB⟩ := hrel
          cases gk with
          | zero => exact absurd HA.out (by simp [trystlaw08_FoldOther.l0])
          | succ k2 =>
            have H := HA.out
            clear HA
            simp only [trystlaw08_FoldOther.l0] at H
            by_cases c25 : x49_2 < (a0.size : Int)
            · rw [if_pos c25] at H
              have c25b0 : decide (x49_2 < (a0.size : Int)) = true := decide_eq_true c25
              clear c25
              by_cases c26 : 0 ≤ x49_2
              · rw [if_pos c26] at H
                have c26b0 : decide (0 ≤ x49_2) = true := decide_eq_true c26
                clear c26
                by_cases c27 : x49_2 < (a0.size : Int)
                · rw [if_pos c27] at H
                  have c27b0 : decide (x49_2 < (a0.size : Int)) = true := decide_eq_true c27
                  clear c27
                  by_cases c29 : (bt a0 x49_2) = 13
                  · rw [if_pos c29] at H
                    have c29b0 : ((bt a0 x49_2) == 13) = true := beq_iff_eq.mpr c29
                    have c29b1 : ((bt a0 x49_2) != 13) = false := bne_eq_false_iff_eq.mpr c29
                    clear c29
                    obtain rfl := Option.some.inj H
                    have p28 : 0 ≤ (x49_2 : Int) := of_decide_eq_true (by first | (with_reducible assumption) | assumption)
                    have q28 : x49_2 < (a0.size : Int) := of_decide_eq_true (by first | (with_reducible assumption) | assumption)
                    have hx28 := bt_at a0 x49_2
                    replace p28 := eq_true p28
                    replace q28 := eq_true q28
                    go_wp2
                    go_ret
                    exact ⟨by first | rfl | (simp [errW_none, errW_some] <;> rfl) | (simp [*, errW_none, errW_some] <;> rfl), by repeat (first | (with_reducible first | exact HB.out | apply below_alloc | apply pw_below_drewN | apply below_drew1) | exact HB.out)⟩
                  · rw [if_neg c29] at H
                    have c29b0 : ((bt a0 x49_2) == 13) = false := beq_eq_false_iff_ne.mpr c29
                    have c29b1 : ((bt a0 x49_2) != 13) = true := bne_iff_ne.mpr c29
                    by_cases c31 : (bt a0 x49_2) = 10
                    · rw [if_pos c31] at H
                      have c31b0 : ((bt a0 x49_2) == 10) = true := beq_iff_eq.mpr c31
                      have c31b1 : ((bt a0 x49_2) != 10) = false := bne_eq_false_iff_eq.mpr c31
                      clear c31
                      obtain rfl := Option.some.inj H
                      have p28 : 0 ≤ (x49_2 : Int) := of_decide_eq_true (by first | (with_reducible assumption) | assumption)
                      have q28 : x49_2 < (a0.size : Int) := of_decide_eq_true (by first | (with_reducible assumption) | assumption)
                      have hx28 := bt_at a0 x49_2
                      replace p28 := eq_true p28
                      replace q28 := eq_true q28
                      have p30 : 0 ≤ (x49_2 : Int) := of_decide_eq_true (by first | (with_reducible assumption) | assumption)
                      have q30 : x49_2 < (a0.size : Int) := of_decide_eq_true (by first | (with_reducible assumption) | assumption)
                      have hx30 := bt_at a0 x49_2
                      replace p30 := eq_true p30
                      replace q30 := eq_true q30
                      go_wp2
                      go_ret
                      exact ⟨by first | rfl | (simp [errW_none, errW_some] <;> rfl) | (simp [*, errW_none, errW_some] <;> rfl), by repeat (first | (with_reducible first | exact HB.out | apply below_alloc | apply pw_below_drewN | apply below_drew1) | exact HB.out)⟩
                    · rw [if_neg c31] at H
                      have c31b0 : ((bt a0 x49_2) == 10) = false := beq_eq_false_iff_ne.mpr c31
                      have c31b1 : ((bt a0 x49_2) != 10) = true := bne_iff_ne.mpr c31
                      have H' := Aside0.mk H
                      clear H
                      have p28 : 0 ≤ (x49_2 : Int) := of_decide_eq_true (by first | (with_reducible assumption) | assumption)
                      have q28 : x49_2 < (a0.size : Int) := of_decide_eq_true (by first | (with_reducible assumption) | assumption)
                      have hx28 := bt_at a0 x49_2
                      replace p28 := eq_true p28
                      replace q28 := eq_true q28
                      have p30 : 0 ≤ (x49_2 : Int) := of_decide_eq_true (by first | (with_reducible assumption) | assumption)
                      have q30 : x49_2 < (a0.size : Int) := of_decide_eq_true (by first | (with_reducible assumption) | assumption)
                      have hx30 := bt_at a0 x49_2
                      replace p30 := eq_true p30
                      replace q30 := eq_true q30
                      go_wp2
                      go_roundg k2
                      case measure => have := HJ4.out; have := HK2.out; omega
                      case rel => exact ⟨(wrap64 (x49_2 + 1)), (by first | rfl | (simp; done) | (simp [bne_nil_isEmpty, beq_nil_isEmpty]; done) | (simp [*]; done)), H', ⟨by have := HJ4.out; have := HK2.out; omega⟩, ⟨by repeat (first | (with_reducible first | exact HB.out | apply below_alloc | apply pw_below_drewN | apply below_drew1) | exact HB.out)⟩⟩
                · rw [if_neg c27] at H
                  exact absurd H (by simp)
              · rw [if_neg c26] at H
                exact absurd H (by simp)
            · rw [if_neg c25] at H
              have c25b0 : decide (x49_2 < (a0.size : Int)) = false := decide_eq_false c25
              clear c25
              have HC32 := Aside0.mk H
              clear H
              go_upto_if 63 with (fail)
              go_cut [10] (fun v10 wc => ∃ (kq : Nat) (x10_31 : ByteArray), v10 = .string x10_31 ∧ Aside0 (trystlaw08_FoldOther.j2 kq a0 l1 a2 x10_31 (⟨#[32]⟩ : ByteArray) = some r) ∧ Aside0 (kq ≤ k2) ∧ Aside0 (Below w.heap.size w wc))
              case first =>
                have H := HC32.out
                clear HC32
                by_cases c33 : a3 = true
                · subst c33
                  have H1 : (trystlaw08_FoldOther.j2 k2 a0 l1 a2 (⟨#[10]⟩ : ByteArray) (⟨#[32]⟩ : ByteArray)) = some r := by rw [if_pos rfl] at H; exact H
                  clear H
                  have H := H1
                  clear H1
                  have H' := Aside0.mk H
                  clear H
                  go_wp2
                  go_meet
                  case rel => exact ⟨_, ((⟨#[10]⟩ : ByteArray)), (by first | rfl | (simp; done) | (simp [bne_nil_isEmpty, beq_nil_isEmpty]; done) | (simp [*]; done)), H', ⟨by have := HJ4.out; have := HK2.out; first | omega | exact Nat.le_refl _⟩, ⟨by repeat (first | (with_reducible first | exact HB.out | apply below_alloc | apply pw_below_drewN | apply below_drew1) | exact HB.out)⟩⟩
                · replace c33 := Bool.eq_false_iff.mpr c33
                  subst c33
                  have H1 : (trystlaw08_FoldOther.j2 k2 a0 l1 a2 (⟨#[13, 10]⟩ : ByteArray) (⟨#[32]⟩ : ByteArray)) = some r := by rw [if_neg (show ¬ (false = true) by decide)] at H; exact H
                  clear H
                  have H := H1
                  clear H1
                  have H' := Aside0.mk H
                  clear H
                  go_wp2
                  go_meet
                  case rel => exact ⟨_, ((⟨#[13, 10]⟩ : ByteArray)), (by first | rfl | (simp; done) | (simp [bne_nil_isEmpty, beq_nil_isEmpty]; done) | (simp [*]; done)), H', ⟨by have := HJ4.out; have := HK2.out; first | omega | exact Nat.le_refl _⟩, ⟨by repeat (first | (with_reducible first | exact HB.out | apply below_alloc | apply pw_below_drewN | apply below_drew1) | exact HB.out)⟩⟩
              case rest =>
                clear HC32
                try clear c1
                try clear p1
                try clear q1
                try clear hx1
                try clear qi1
                try clear c2
                try clear p2
                try clear q2
                try clear hx2
                try clear c3
                try clear p3
                try clear q3
                try clear hx3
                try clear p6
                try clear c7
                try clear c8
                try clear c8b0
                try clear c8b1
                try clear c10
                try clear c10b0
                try clear c10b1
                try clear c12
                try clear c12b0
                try clear c12b1
                try clear p13
                try clear q13
                try clear hx13
                try clear qi13
                try clear c14
                try clear c14b0
                try clear c14b1
                try clear p16
                try clear q16
                try clear hx16
                try clear qi16
                try clear c17
                try clear c17b0
                try clear c17b1
                try clear c22
                try clear c25
                try clear c25b0
                try clear c26
                try clear c26b0
                try clear c27
                try clear c27b0
                try clear p28
                try clear q28
                try clear hx28
                try clear c29
                try clear c29b0
                try clear c29b1
                try clear p30
                try clear q30
                try clear hx30
                try clear c31
                try clear c31b0
                try clear c31b1
                try clear c33
                try clear p1
                try clear p13
                try clear p16
                try clear p2
                try clear p28
                try clear p30
                try clear q1
                try clear q13
                try clear q16
                try clear q28
                try clear q30
                obtain ⟨kq, x10_31, rfl, HA, HJ31, HB⟩ := hcut
                cases kq with
                | zero => exact absurd HA.out (by simp [trystlaw08_FoldOther.j2])
                | succ kj31 =>
                  have H := HA.out
                  clear HA
                  simp only [trystlaw08_FoldOther.j2] at H
                  have HC34 := Aside0.mk H
                  clear H
                  go_upto_if 64 with (fail)
                  go_cut [11] (fun v11 wc => ∃ (kq : Nat) (x11_33 : ByteArray), v11 = .string x11_33 ∧ Aside0 (trystlaw08_FoldOther.j3 kq a0 l1 x10_31 x11_33 = some r) ∧ Aside0 (kq ≤ kj31) ∧ Aside0 (Below w.heap.size w wc))
                  case first =>
                    have H := HC34.out
                    clear HC34
                    by_cases c35 : a2 = true
                    · subst c35
                      have H1 : (trystlaw08_FoldOther.j3 kj31 a0 l1 x10_31 (⟨#[9]⟩ : ByteArray)) = some r := by rw [if_pos rfl] at H; exact H
                      clear H
                      have H := H1
                      clear H1
                      have H' := Aside0.mk H
                      clear H
                      go_wp2
                      go_meet
                      case rel => exact ⟨_, ((⟨#[9]⟩ : ByteArray)), (by first | rfl | (simp; done) | (simp [bne_nil_isEmpty, beq_nil_isEmpty]; done) | (simp [*]; done)), H', ⟨by have := HJ4.out; have := HK2.out; have := HJ31.out; first | omega | exact Nat.le_refl _⟩, ⟨by repeat (first | (with_reducible first | exact HB.out | apply below_alloc | apply pw_below_drewN | apply below_drew1) | exact HB.out)⟩⟩
                    · replace c35 := Bool.eq_false_iff.mpr c35
                      subst c35
                      have H1 : (trystlaw08_FoldOther.j3 kj31 a0 l1 x10_31 (⟨#[32]⟩ : ByteArray)) = some r := by rw [if_neg (show ¬ (false = true) by decide)] at H; exact H
                      clear H
                      have H := H1
                      clear H1
                      have H' := Aside0.mk H
                      clear H
                      go_wp2
                      go_meet
                      case rel => exact ⟨_, ((⟨#[32]⟩ : ByteArray)), (by first | rfl | (simp; done) | (simp [bne_nil_isEmpty, beq_nil_isEmpty]; done) | (simp [*]; done)), H', ⟨by have := HJ4.out; have := HK2.out; have := HJ31.out; first | omega | exact Nat.le_refl _⟩, ⟨by repeat (first | (with_reducible first | exact HB.out | apply below_alloc | apply pw_below_drewN | apply below_drew1) | exact HB.out)⟩⟩
                  case rest =>
                    clear HC34
                    try clear c1
                    try clear p1
                    try clear q1
                    try clear hx1
                    try clear qi1
                    try clear c2
                    try clear p2
                    try clear q2
                    try clear hx2
                    try clear c3
                    try clear p3
                    try clear q3
                    try clear hx3
                    try clear p6
                    try clear c7
                    try clear c8
                    try clear c8b0
                    try clear c8b1
                    try clear c10
                    try clear c10b0
                    try clear c10b1
                    try clear c12
                    try clear c12b0
                    try clear c12b1
                    try clear p13
                    try clear q13
                    try clear hx13
                    try clear qi13
                    try clear c14
                    try clear c14b0
                    try clear c14b1
                    try clear p16
                    try clear q16
                    try clear hx16
                    try clear qi16
                    try clear c17
                    try clear c17b0
                    try clear c17b1
                    try clear c22
                    try clear c25
                    try clear c25b0
                    try clear c26
                    try clear c26b0
                    try clear c27
                    try clear c27b0
                    try clear p28
                    try clear q28
                    try clear hx28
                    try clear c29
                    try clear c29b0
                    try clear c29b1
                    try clear p30
                    try clear q30
                    try clear hx30
                    try clear c31
                    try clear c31b0
                    try clear c31b1
                    try clear c33
                    try clear c35
                    try clear p1
                    try clear p13
                    try clear p16
                    try clear p2
                    try clear p28
                    try clear p3
                    try clear p30
                    try clear p6
                    try clear q1
                    try clear q13
                    try clear q16
                    try clear q2
                    try clear q28
                    try clear q3
                    try clear q30
                    obtain ⟨kq, x11_33, rfl, HA, HJ33, HB⟩ := hcut
                    cases kq with
                    | zero => exact absurd HA.out (by simp [trystlaw08_FoldOther.j3])
                    | succ kj33 =>
                      have H := HA.out
                      clear HA
                      simp only [trystlaw08_FoldOther.j3] at H
                      have H' := Aside0.mk H
                      clear H
                      go_wp2
                      go_loopg [12, 67] kj33 (fun kq v12 v67 w' => ∃ (x12_5 : ByteArray) (x67_5 : Int), v12 = .string x12_5 ∧ v67 = .int .i64 x67_5 ∧ Aside0 (trystlaw08_FoldOther.l1 kq a0 l1 x10_31 x11_33 x12_5 (a0.size : Int) x67_5 = some r) ∧ Aside0 (kq ≤ kj33) ∧ Aside0 (Below w.heap.size w w'))
                      case atStart => exact ⟨((⟨#[]⟩ : ByteArray)), (0), (by first | rfl | (simp; done) | (simp [bne_nil_isEmpty, beq_nil_isEmpty]; done) | (simp [*]; done)), (by first | rfl | (simp; done) | (simp [bne_nil_isEmpty, beq_nil_isEmpty]; done) | (simp [*]; done)), H', ⟨Nat.le_refl _⟩, ⟨by repeat (first | (with_reducible first | exact HB.out | apply below_alloc | apply pw_below_drewN | apply below_drew1) | exact HB.out)⟩⟩
                      case round =>
                        clear H'
                        try clear c1
                        try clear p1
                        try clear q1
                        try clear hx1
                        try clear qi1
                        try clear c2
                        try clear p2
                        try clear q2
                        try clear hx2
                        try clear c3
                        try clear p3
                        try clear q3
                        try clear hx3
                        try clear p6
                        try clear c7
                        try clear c8
                        try clear c8b0
                        try clear c8b1
                        try clear c10
                        try clear c10b0
                        try clear c10b1
                        try clear c12
                        try clear c12b0
                        try clear c12b1
                        try clear p13
                        try clear q13
                        try clear hx13
                        try clear qi13
                        try clear c14
                        try clear c14b0
                        try clear c14b1
                        try clear p16
                        try clear q16
                        try clear hx16
                        try clear qi16
                        try clear c17
                        try clear c17b0
                        try clear c17b1
                        try clear c22
                        try clear c25
                        try clear c25b0
                        try clear c26
                        try clear c26b0
                        try clear c27
                        try clear c27b0
                        try clear p28
                        try clear q28
                        try clear hx28
                        try clear c29
                        try clear c29b0
                        try clear c29b1
                        try clear p30
                        try clear q30
                        try clear hx30
                        try clear c31
                        try clear c31b0
                        try clear c31b1
                        try clear c33
                        try clear c35
                        try clear p1
                        try clear p13
                        try clear p16
                        try clear p2
                        try clear p28
                        try clear p3
                        try clear p30
                        try clear p6
                        try clear q1
                        try clear q13
                        try clear q16
                        try clear q2
                        try clear q28
                        try clear q3
                        try clear q30
                        obtain ⟨x12_5, x67_5, rfl, rfl, HA, HK5, HB⟩ := hrel
                        cases gk with
                        | zero => exact absurd HA.out (by simp [trystlaw08_FoldOther.l1])
                        | succ k5 =>
                          have H := HA.out
                          clear HA
                          simp only [trystlaw08_FoldOther.l1] at H
                          by_cases c36 : x67_5 < (a0.size : Int)
                          · rw [if_pos c36] at H
                            have c36b0 : decide (x67_5 < (a0.size : Int)) = true := decide_eq_true c36
                            clear c36
                            have H' := Aside0.mk H
                            clear H
                            go_wp2
                            go_loopg [14, 72] k5 (fun kq v14 v72 w' => ∃ (x14_6 : Bool) (x72_6 : Int), v14 = .bool x14_6 ∧ v72 = .int .i64 x72_6 ∧ Aside0 (trystlaw08_FoldOther.l2 kq a0 l1 x10_31 x11_33 x12_5 x67_5 x14_6 (a0.size : Int) x67_5 (l1.length : Int) x72_6 = some r) ∧ Aside0 (kq ≤ k5) ∧ Aside0 (Below w.heap.size w w'))
                            case atStart => exact ⟨(false), (0), (by first | rfl | (simp; done) | (simp [bne_nil_isEmpty, beq_nil_isEmpty]; done) | (simp [*]; done)), (by first | rfl | (simp; done) | (simp [bne_nil_isEmpty, beq_nil_isEmpty]; done) | (simp [*]; done)), H', ⟨Nat.le_refl _⟩, ⟨by repeat (first | (with_reducible first | exact HB.out | apply below_alloc | apply pw_below_drewN | apply below_drew1) | exact HB.out)⟩⟩
                            case round =>
                              clear H'
                              try clear c1
                              try clear p1
                              try clear q1
                              try clear hx1
                              try clear qi1
                              try clear c2
                              try clear p2
                              try clear q2
                              try clear hx2
                              try clear c3
                              try clear p3
                              try clear q3
                              try clear hx3
                              try clear p6
                              try clear c7
                              try clear c8
                              try clear c8b0
                              try clear c8b1
                              try clear c10
                              try clear c10b0
                              try clear c10b1
                              try clear c12
                              try clear c12b0
                              try clear c12b1
                              try clear p13
                              try clear q13
                              try clear hx13
                              try clear qi13
                              try clear c14
                              try clear c14b0
                              try clear c14b1
                              try clear p16
                              try clear q16
                              try clear hx16
                              try clear qi16
                              try clear c17
                              try clear c17b0
                              try clear c17b1
                              try clear c22
                              try clear c25
                              try clear c25b0
                              try clear c26
                              try clear c26b0
                              try clear c27
                              try clear c27b0
                              try clear p28
                              try clear q28
                              try clear hx28
                              try clear c29
                              try clear c29b0
                              try clear c29b1
                              try clear p30
                              try clear q30
                              try clear hx30
                              try clear c31
                              try clear c31b0
                              try clear c31b1
                              try clear c33
                              try clear c35
                              try clear c36
                              try clear c36b0
                              try clear p1
                              try clear p13
                              try clear p16
                              try clear p2
                              try clear p28
                              try clear p3
                              try clear p30
                              try clear p6
                              try clear q1
                              try clear q13
                              try clear q16
                              try clear q2
                              try clear q28
                              try clear q3
                              try clear q30
                              obtain ⟨x14_6, x72_6, rfl, rfl, HA, HK6, HB⟩ := hrel
                              cases gk with
                              | zero => exact absurd HA.out (by simp [trystlaw08_FoldOther.l2])
                              | succ k6 =>
                                have H := HA.out
                                clear HA
                                simp only [trystlaw08_FoldOther.l2] at H
                                by_cases c37 : x72_6 < (l1.length : Int)
                                · rw [if_pos c37] at H
                                  have c37b0 : decide (x72_6 < (l1.length : Int)) = true := decide_eq_true c37
                                  clear c37
                                  by_cases c38 : x14_6 = true
                                  · subst c38
                                    have H1 : (trystlaw08_FoldOther.l2 k6 a0 l1 x10_31 x11_33 x12_5 x67_5 true (a0.size : Int) x67_5 (l1.length : Int) (wrap64 (x72_6 + 1))) = some r := by rw [if_pos rfl] at H; exact H
                                    clear H
                                    have H := H1
                                    clear H1
                                    have H' := Aside0.mk H
                                    clear H
                                    go_wp2
                                    go_roundg k6
                                    case measure => have := HJ4.out; have := HK2.out; have := HJ31.out; have := HJ33.out; have := HK5.out; have := HK6.out; omega
                                    case rel => exact ⟨(true), (wrap64 (x72_6 + 1)), (by first | rfl | (simp; done) | (simp [bne_nil_isEmpty, beq_nil_isEmpty]; done) | (simp [*]; done)), (by first | rfl | (simp; done) | (simp [bne_nil_isEmpty, beq_nil_isEmpty]; done) | (simp [*]; done)), H', ⟨by have := HJ4.out; have := HK2.out; have := HJ31.out; have := HJ33.out; have := HK5.out; have := HK6.out; omega⟩, ⟨by repeat (first | (with_reducible first | exact HB.out | apply below_alloc | apply pw_below_drewN | apply below_drew1) | exact HB.out)⟩⟩
                                  · replace c38 := Bool.eq_false_iff.mpr c38
                                    subst c38
                                    have H1 : (if x67_5 > 0 then (if 0 ≤ x72_6 then (if x72_6 < (l1.length : Int) then (if (a0.size : Int) = 0 then (none) else (trystlaw08_FoldOther.l2 k6 a0 l1 x10_31 x11_33 x12_5 x67_5 ((Int.tmod (wrap64 (rd l1 x72_6)) (a0.size : Int)) == x67_5) (a0.size : Int) x67_5 (l1.length : Int) (wrap64 (x72_6 + 1)))) else (none)) else (none)) else (trystlaw08_FoldOther.l2 k6 a0 l1 x10_31 x11_33 x12_5 x67_5 false (a0.size : Int) x67_5 (l1.length : Int) (wrap64 (x72_6 + 1)))) = some r := by rw [if_neg (show ¬ (false = true) by decide)] at H; exact H
                                    clear H
                                    have H := H1
                                    clear H1
                                    by_cases c39 : x67_5 > 0
                                    · rw [if_pos c39] at H
                                      have c39b0 : decide (0 < x67_5) = true := decide_eq_true c39
                                      clear c39
                                      by_cases c40 : 0 ≤ x72_6
                                      · rw [if_pos c40] at H
                                        have c40b0 : decide (0 ≤ x72_6) = true := decide_eq_true c40
                                        clear c40
                                        by_cases c41 : x72_6 < (l1.length : Int)
                                        · rw [if_pos c41] at H
                                          have c41b0 : decide (x72_6 < (l1.length : Int)) = true := decide_eq_true c41
                                          clear c41
                                          by_cases c42 : (a0.size : Int) = 0
                                          · rw [if_pos c42] at H
                                            exact absurd H (by simp)
                                          · rw [if_neg c42] at H
                                            have c42b0 : ((a0.size : Int) == 0) = false := beq_eq_false_iff_ne.mpr c42
                                            have c42b1 : ((a0.size : Int) != 0) = true := bne_iff_ne.mpr c42
                                            have H' := Aside0.mk H
                                            clear H
                                            have p182 : 0 ≤ (x72_6 : Int) := of_decide_eq_true (by first | (with_reducible assumption) | assumption)
                                            have q182 : x72_6 < (l1.length : Int) := of_decide_eq_true (by first | (with_reducible assumption) | assumption)
                                            obtain ⟨ad182, e182, hx182_0⟩ := Kd.at_int HR1.out x72_6 p182 q182
                                            cases e182
                                            replace hx182_0 := (HB.out.cell (World.block_lt_of_cell? w _ hx182_0)).trans hx182_0
                                            replace p182 := eq_true p182
                                            replace q182 := eq_true q182
                                            go_wp2
                                            go_roundg k6
                                            case measure => have := HJ4.out; have := HK2.out; have := HJ31.out; have := HJ33.out; have := HK5.out; have := HK6.out; omega
                                            case rel => exact ⟨(((Int.tmod (wrap64 (rd l1 x72_6)) (a0.size : Int)) == x67_5)), (wrap64 (x72_6 + 1)), (by first | rfl | (simp; done) | (simp [bne_nil_isEmpty, beq_nil_isEmpty]; done) | (simp [*]; done)), (by first | rfl | (simp; done) | (simp [bne_nil_isEmpty, beq_nil_isEmpty]; done) | (simp [*]; done)), H', ⟨by have := HJ4.out; have := HK2.out; have := HJ31.out; have := HJ33.out; have := HK5.out; have := HK6.out; omega⟩, ⟨by repeat (first | (with_reducible first | exact HB.out | apply below_alloc | apply pw_below_drewN | apply below_drew1) | exact HB.out)⟩⟩
                                        · rw [if_neg c41] at H
                                          exact absurd H (by simp)
                                      · rw [if_neg c40] at H
                                        exact absurd H (by simp)
                                    · rw [if_neg c39] at H
                                      have c39b0 : decide (0 < x67_5) = false := decide_eq_false c39
                                      clear c39
                                      have H' := Aside0.mk H
                                      clear H
                                      go_wp2
                                      go_roundg k6
                                      case measure => have := HJ4.out; have := HK2.out; have := HJ31.out; have := HJ33.out; have := HK5.out; have := HK6.out; omega
                                      case rel => exact ⟨(false), (wrap64 (x72_6 + 1)), (by first | rfl | (simp; done) | (simp [bne_nil_isEmpty, beq_nil_isEmpty]; done) | (simp [*]; done)), (by first | rfl | (simp; done) | (simp [bne_nil_isEmpty, beq_nil_isEmpty]; done) | (simp [*]; done)), H', ⟨by have := HJ4.out; have := HK2.out; have := HJ31.out; have := HJ33.out; have := HK5.out; have := HK6.out; omega⟩, ⟨by repeat (first | (with_reducible first | exact HB.out | apply below_alloc | apply pw_below_drewN | apply below_drew1) | exact HB.out)⟩⟩
                                · rw [if_neg c37] at H
                                  have c37b0 : decide (x72_6 < (l1.length : Int)) = false := decide_eq_false c37
                                  clear c37
                                  by_cases c43 : x14_6 = true
                                  · subst c43
                                    have H1 : (if x12_5.size + x10_31.size ≤ 9223372036854775807 then (if (x12_5 ++ x10_31).size + x11_33.size ≤ 9223372036854775807 then (if 0 ≤ x67_5 then (if x67_5 ≤ (wrap64 (x67_5 + 1)) then (if (wrap64 (x67_5 + 1)) ≤ (a0.size : Int) then (if ((x12_5 ++ x10_31) ++ x11_33).size + (a0.extract (x67_5 : Int).toNat ((wrap64 (x67_5 + 1)) : Int).toNat).size ≤ 9223372036854775807 then (trystlaw08_FoldOther.l1 k6 a0 l1 x10_31 x11_33 (((x12_5 ++ x10_31) ++ x11_33) ++ (a0.extract (x67_5 : Int).toNat ((wrap64 (x67_5 + 1)) : Int).toNat)) (a0.size : Int) (wrap64 (x67_5 + 1))) else (none)) else (none)) else (none)) else (none)) else (none)) else (none)) = some r := by rw [if_pos rfl] at H; exact H
                                    clear H
                                    have H := H1
                                    clear H1
                                    by_cases c44 : x12_5.size + x10_31.size ≤ 9223372036854775807
                                    · rw [if_pos c44] at H
                                      have c44b0 := eq_true c44
                                      have c44b1 : decide (x12_5.size + x10_31.size ≤ 9223372036854775807) = true := decide_eq_true c44
                                      try have c44b2 : (9223372036854775807 < x12_5.size + x10_31.size) = False := eq_false (Nat.not_lt.2 c44)
                                      by_cases c45 : (x12_5 ++ x10_31).size + x11_33.size ≤ 9223372036854775807
                                      · rw [if_pos c45] at H
                                        have c45b0 := eq_true c45
                                        have c45b1 : decide ((x12_5 ++ x10_31).size + x11_33.size ≤ 9223372036854775807) = true := decide_eq_true c45
                                        try have c45b2 : (9223372036854775807 < (x12_5 ++ x10_31).size + x11_33.size) = False := eq_false (Nat.not_lt.2 c45)
                                        by_cases c46 : 0 ≤ x67_5
                                        · rw [if_pos c46] at H
                                          have c46b0 := eq_true c46
                                          have c46b1 : decide (0 ≤ x67_5) = true := decide_eq_true c46
                                          clear c46
                                          by_cases c47 : x67_5 ≤ (wrap64 (x67_5 + 1))
                                          · rw [if_pos c47] at H
                                            have c47b0 := eq_true c47
                                            have c47b1 : decide (x67_5 ≤ (wrap64 (x67_5 + 1))) = true := decide_eq_true c47
                                            by_cases c48 : (wrap64 (x67_5 + 1)) ≤ (a0.size : Int)
                                            · rw [if_pos c48] at H
                                              have c48b0 := eq_true c48
                                              have c48b1 : decide ((wrap64 (x67_5 + 1)) ≤ (a0.size : Int)) = true := decide_eq_true c48
                                              by_cases c49 : ((x12_5 ++ x10_31) ++ x11_33).size + (a0.extract (x67_5 : Int).toNat ((wrap64 (x67_5 + 1)) : Int).toNat).size ≤ 9223372036854775807
                                              · rw [if_pos c49] at H
                                                have c49b0 := eq_true c49
                                                have c49b1 : decide (((x12_5 ++ x10_31) ++ x11_33).size + (a0.extract (x67_5 : Int).toNat ((wrap64 (x67_5 + 1)) : Int).toNat).size ≤ 9223372036854775807) = true := decide_eq_true c49
                                                try have c49b2 : (9223372036854775807 < ((x12_5 ++ x10_31) ++ x11_33).size + (a0.extract (x67_5 : Int).toNat ((wrap64 (x67_5 + 1)) : Int).toNat).size) = False := eq_false (Nat.not_lt.2 c49)
                                                have H' := Aside0.mk H
                                                clear H
                                                go_wp2
                                                go_roundg k6
                                                case measure => have := HJ4.out; have := HK2.out; have := HJ31.out; have := HJ33.out; have := HK5.out; have := HK6.out; omega
                                                case rel => exact ⟨(((x12_5 ++ x10_31) ++ x11_33) ++ (a0.extract (x67_5 : Int).toNat ((wrap64 (x67_5 + 1)) : Int).toNat)), (wrap64 (x67_5 + 1)), (by first | rfl | (simp; done) | (simp [bne_nil_isEmpty, beq_nil_isEmpty]; done) | (simp [*]; done)), (by first | rfl | (simp; done) | (simp [bne_nil_isEmpty, beq_nil_isEmpty]; done) | (simp [*]; done)), H', ⟨by have := HJ4.out; have := HK2.out; have := HJ31.out; have := HJ33.out; have := HK5.out; have := HK6.out; omega⟩, ⟨by repeat (first | (with_reducible first | exact HB.out | apply below_alloc | apply pw_below_drewN | apply below_drew1) | exact HB.out)⟩⟩
                                              · rw [if_neg c49] at H
                                                exact absurd H (by simp)
                                            · rw [if_neg c48] at H
                                              exact absurd H (by simp)
                                          · rw [if_neg c47] at H
                                            exact absurd H (by simp)
                                        · rw [if_neg c46] at H
                                          exact absurd H (by simp)
                                      · rw [if_neg c45] at H
                                        exact absurd H (by simp)
                                    · rw [if_neg c44] at H
                                      exact absurd H (by simp)
                                  · replace c43 := Bool.eq_false_iff.mpr c43
                                    subst c43
                                    have H1 : (if 0 ≤ x67_5 then (if x67_5 ≤ (wrap64 (x67_5 + 1)) then (if (wrap64 (x67_5 + 1)) ≤ (a0.size : Int) then (if x12_5.size + (a0.extract (x67_5 : Int).toNat ((wrap64 (x67_5 + 1)) : Int).toNat).size ≤ 9223372036854775807 then (trystlaw08_FoldOther.l1 k6 a0 l1 x10_31 x11_33 (x12_5 ++ (a0.extract (x67_5 : Int).toNat ((wrap64 (x67_5 + 1)) : Int).toNat)) (a0.size : Int) (wrap64 (x67_5 + 1))) else (none)) else (none)) else (none)) else (none)) = some r := by rw [if_neg (show ¬ (false = true) by decide)] at H; exact H
                                    clear H
                                    have H := H1
                                    clear H1
                                    by_cases c50 : 0 ≤ x67_5
                                    · rw [if_pos c50] at H
                                      have c50b0 := eq_true c50
                                      have c50b1 : decide (0 ≤ x67_5) = true := decide_eq_true c50
                                      clear c50
                                      by_cases c51 : x67_5 ≤ (wrap64 (x67_5 + 1))
                                      · rw [if_pos c51] at H
                                        have c51b0 := eq_true c51
                                        have c51b1 : decide (x67_5 ≤ (wrap64 (x67_5 + 1))) = true := decide_eq_true c51
                                        by_cases c52 : (wrap64 (x67_5 + 1)) ≤ (a0.size : Int)
                                        · rw [if_pos c52] at H
                                          have c52b0 := eq_true c52
                                          have c52b1 : decide ((wrap64 (x67_5 + 1)) ≤ (a0.size : Int)) = true := decide_eq_true c52
                                          by_cases c53 : x12_5.size + (a0.extract (x67_5 : Int).toNat ((wrap64 (x67_5 + 1)) : Int).toNat).size ≤ 9223372036854775807
                                          · rw [if_pos c53] at H
                                            have c53b0 := eq_true c53
                                            have c53b1 : decide (x12_5.size + (a0.extract (x67_5 : Int).toNat ((wrap64 (x67_5 + 1)) : Int).toNat).size ≤ 9223372036854775807) = true := decide_eq_true c53
                                            try have c53b2 : (9223372036854775807 < x12_5.size + (a0.extract (x67_5 : Int).toNat ((wrap64 (x67_5 + 1)) : Int).toNat).size) = False := eq_false (Nat.not_lt.2 c53)
                                            have H' := Aside0.mk H
                                            clear H
                                            go_wp2
                                            go_roundg k6
                                            case measure => have := HJ4.out; have := HK2.out; have := HJ31.out; have := HJ33.out; have := HK5.out; have := HK6.out; omega
                                            case rel => exact ⟨(x12_5 ++ (a0.extract (x67_5 : Int).toNat ((wrap64 (x67_5 + 1)) : Int).toNat)), (wrap64 (x67_5 + 1)), (by first | rfl | (simp; done) | (simp [bne_nil_isEmpty, beq_nil_isEmpty]; done) | (simp [*]; done)), (by first | rfl | (simp; done) | (simp [bne_nil_isEmpty, beq_nil_isEmpty]; done) | (simp [*]; done)), H', ⟨by have := HJ4.out; have := HK2.out; have := HJ31.out; have := HJ33.out; have := HK5.out; have := HK6.out; omega⟩, ⟨by repeat (first | (with_reducible first | exact HB.out | apply below_alloc | apply pw_below_drewN | apply below_drew1) | exact HB.out)⟩⟩
                                          · rw [if_neg c53] at H
                                            exact absurd H (by simp)
                                        · rw [if_neg c52] at H
                                          exact absurd H (by simp)
                                      · rw [if_neg c51] at H
                                        exact absurd H (by simp)
                                    · rw [if_neg c50] at H
                                      exact absurd H (by simp)
                          · rw [if_neg c36] at H
                            have c36b0 : decide (x67_5 < (a0.size : Int)) = false := decide_eq_false c36
                            clear c36
                            by_cases c54 : x12_5.size + x10_31.size ≤ 9223372036854775807
                            · rw [if_pos c54] at H
                              have c54b0 := eq_true c54
                              have c54b1 : decide (x12_5.size + x10_31.size ≤ 9223372036854775807) = true := decide_eq_true c54
                              try have c54b2 : (9223372036854775807 < x12_5.size + x10_31.size) = False := eq_false (Nat.not_lt.2 c54)
                              replace H := Option.bind_eq_some_iff.mp H
                              obtain ⟨⟨t176, t177, t178⟩, A550, H⟩ := H
                              replace H : (if t178 = 0 then (if t177 = 0 then (if (t176.length : Int) = 1 then (if 0 < (t176.length : Int) then (some ((rdOf ByteArray.empty t176 0).toList == a0.toList)) else (none)) else (some false)) else (some false)) else (some false)) = some r := H
                              have A55 := Aside0.mk A550
                              clear A550
                              by_cases c56 : t178 = 0
                              · rw [if_pos c56] at H
                                have c56b0 : (t178 == 0) = true := beq_iff_eq.mpr c56
                                have c56b1 : (t178 != 0) = false := bne_eq_false_iff_eq.mpr c56
                                clear c56
                                by_cases c57 : t177 = 0
                                · rw [if_pos c57] at H
                                  have c57b0 : (t177 == 0) = true := beq_iff_eq.mpr c57
                                  have c57b1 : (t177 != 0) = false := bne_eq_false_iff_eq.mpr c57
                                  clear c57
                                  by_cases c58 : (t176.length : Int) = 1
                                  · rw [if_pos c58] at H
                                    have c58b0 : ((t176.length : Int) == 1) = true := beq_iff_eq.mpr c58
                                    have c58b1 : ((t176.length : Int) != 1) = false := bne_eq_false_iff_eq.mpr c58
                                    clear c58
                                    by_cases c59 : 0 < (t176.length : Int)
                                    · rw [if_pos c59] at H
                                      have c59b0 : decide (0 < (t176.length : Int)) = true := decide_eq_true c59
                                      have c59b1 : decide (0 < t176.length) = true := decide_eq_true (by omega)
                                      clear c59
                                      obtain rfl := Option.some.inj H
                                      go_wp2_with (first | ((with_reducible refine gate_callee (f := 29) rfl ?_); refine goesL_ (some 111) rfl rfl Tryd.func29 (by kernel_rfl) rfl #[.string (x12_5 ++ x10_31)] rfl (by (try simp only [List.map_toArray, List.map_cons, List.map_nil]); first | done | rfl | (simp only [List.length_drop, List.length_take]; rfl)) ?_; (with_reducible refine (fold_Unfold.calls k5 (x12_5 ++ x10_31) t176 t177 t178 _ (by first | (with_reducible exact hG) | exact GG.below hG (by repeat (first | (with_reducible first | exact HB.out | apply below_alloc | apply pw_below_drewN | apply below_drew1) | exact HB.out))) A55.out).mono ?_); rintro e w60 ⟨v179, rfl, ho0, hb⟩; refine ⟨_, rfl, ?_⟩; have n0_ := Aside0.mk (Kd.R_lower ho0 (below_size (by repeat (first | (with_reducible first | exact HB.out | apply below_alloc | apply pw_below_drewN | apply below_drew1) | exact HB.out)))); have n1_ := Aside0.mk (below_step (by repeat (first | (with_reducible first | exact HB.out | apply below_alloc | apply pw_below_drewN | apply below_drew1) | exact HB.out)) hb); clear HB; have HO180 := n0_; have HB := n1_; clear n0_ n1_; (try clear hb); (try clear hb2); (try clear hk); (try clear hi); (try clear ho0); obtain ⟨Ao61, co61, eo61⟩ := Kd.R_slice HO180.out; subst eo61; have p181 : 0 ≤ (0 : Int) := (by omega); have q181 : 0 < (t176.length : Int) := of_decide_eq_true (by first | (with_reducible assumption) | assumption); obtain ⟨ad181, e181, hx181_0⟩ := Kd.at_string (Kd.R_reads' HO180.out).2.2 0 p181 q181; cases e181; have qi181 : (0 < t176.length) = True := eq_true (by omega); (try rw [show ((0 : Int)).toNat = 0 from rfl] at hx181_0); (try rw [Addr.add_zero'] at hx181_0); replace p181 := eq_true p181; replace q181 := eq_true q181))
                                      go_ret
                                      exact ⟨by first | rfl | (simp [errW_none, errW_some] <;> rfl) | (simp [*, errW_none, errW_some] <;> rfl), by repeat (first | (with_reducible first | exact HB.out | apply below_alloc | apply pw_below_drewN | apply below_drew1) | exact HB.out)⟩
                                    · rw [if_neg c59] at H
                                      exact absurd H (by simp)
                                  · rw [if_neg c58] at H
                                    have c58b0 : ((t176.length : Int) == 1) = false := beq_eq_false_iff_ne.mpr c58
                                    have c58b1 : ((t176.length : Int) != 1) = true := bne_iff_ne.mpr c58
                                    obtain rfl := Option.some.inj H
                                    go_wp2_with (first | ((with_reducible refine gate_callee (f := 29) rfl ?_); refine goesL_ (some 111) rfl rfl Tryd.func29 (by kernel_rfl) rfl #[.string (x12_5 ++ x10_31)] rfl (by (try simp only [List.map_toArray, List.map_cons, List.map_nil]); first | done | rfl | (simp only [List.length_drop, List.length_take]; rfl)) ?_; (with_reducible refine (fold_Unfold.calls k5 (x12_5 ++ x10_31) t176 t177 t178 _ (by first | (with_reducible exact hG) | exact GG.below hG (by repeat (first | (with_reducible first | exact HB.out | apply below_alloc | apply pw_below_drewN | apply below_drew1) | exact HB.out))) A55.out).mono ?_); rintro e w62 ⟨v179, rfl, ho0, hb⟩; refine ⟨_, rfl, ?_⟩; have n0_ := Aside0.mk (Kd.R_lower ho0 (below_size (by repeat (first | (with_reducible first | exact HB.out | apply below_alloc | apply pw_below_drewN | apply below_drew1) | exact HB.out)))); have n1_ := Aside0.mk (below_step (by repeat (first | (with_reducible first | exact HB.out | apply below_alloc | apply pw_below_drewN | apply below_drew1) | exact HB.out)) hb); clear HB; have HO180 := n0_; have HB := n1_; clear n0_ n1_; (try clear hb); (try clear hb2); (try clear hk); (try clear hi); (try clear ho0); obtain ⟨Ao63, co63, eo63⟩ := Kd.R_slice HO180.out; subst eo63))
                                    go_ret
                                    exact ⟨by first | rfl | (simp [errW_none, errW_some] <;> rfl) | (simp [*, errW_none, errW_some] <;> rfl), by repeat (first | (with_reducible first | exact HB.out | apply below_alloc | apply pw_below_drewN | apply below_drew1) | exact HB.out)⟩
                                · rw [if_neg c57] at H
                                  have c57b0 : (t177 == 0) = false := beq_eq_false_iff_ne.mpr c57
                                  have c57b1 : (t177 != 0) = true := bne_iff_ne.mpr c57
                                  obtain rfl := Option.some.inj H
                                  go_wp2_with (first | ((with_reducible refine gate_callee (f := 29) rfl ?_); refine goesL_ (some 111) rfl rfl Tryd.func29 (by kernel_rfl) rfl #[.string (x12_5 ++ x10_31)] rfl (by (try simp only [List.map_toArray, List.map_cons, List.map_nil]); first | done | rfl | (simp only [List.length_drop, List.length_take]; rfl)) ?_; (with_reducible refine (fold_Unfold.calls k5 (x12_5 ++ x10_31) t176 t177 t178 _ (by first | (with_reducible exact hG) | exact GG.below hG (by repeat (first | (with_reducible first | exact HB.out | apply below_alloc | apply pw_below_drewN | apply below_drew1) | exact HB.out))) A55.out).mono ?_); rintro e w64 ⟨v179, rfl, ho0, hb⟩; refine ⟨_, rfl, ?_⟩; have n0_ := Aside0.mk (Kd.R_lower ho0 (below_size (by repeat (first | (with_reducible first | exact HB.out | apply below_alloc | apply pw_below_drewN | apply below_drew1) | exact HB.out)))); have n1_ := Aside0.mk (below_step (by repeat (first | (with_reducible first | exact HB.out | apply below_alloc | apply pw_below_drewN | apply below_drew1) | exact HB.out)) hb); clear HB; have HO180 := n0_; have HB := n1_; clear n0_ n1_; (try clear hb); (try clear hb2); (try clear hk); (try clear hi); (try clear ho0)))
                                  go_ret
                                  exact ⟨by first | rfl | (simp [errW_none, errW_some] <;> rfl) | (simp [*, errW_none, errW_some] <;> rfl), by repeat (first | (with_reducible first | exact HB.out | apply below_alloc | apply pw_below_drewN | apply below_drew1) | exact HB.out)⟩
                              · rw [if_neg c56] at H
                                have c56b0 : (t178 == 0) = false := beq_eq_false_iff_ne.mpr c56
                                have c56b1 : (t178 != 0) = true := bne_iff_ne.mpr c56
                                obtain rfl := Option.some.inj H
                                go_wp2_with (first | ((with_reducible refine gate_callee (f := 29) rfl ?_); refine goesL_ (some 111) rfl rfl Tryd.func29 (by kernel_rfl) rfl #[.string (x12_5 ++ x10_31)] rfl (by (try simp only [List.map_toArray, List.map_cons, List.map_nil]); first | done | rfl | (simp only [List.length_drop, List.length_take]; rfl)) ?_; (with_reducible refine (fold_Unfold.calls k5 (x12_5 ++ x10_31) t176 t177 t178 _ (by first | (with_reducible exact hG) | exact GG.below hG (by repeat (first | (with_reducible first | exact HB.out | apply below_alloc | apply pw_below_drewN | apply below_drew1) | exact HB.out))) A55.out).mono ?_); rintro e w65 ⟨v179, rfl, ho0, hb⟩; refine ⟨_, rfl, ?_⟩; have n0_ := Aside0.mk (Kd.R_lower ho0 (below_size (by repeat (first | (with_reducible first | exact HB.out | apply below_alloc | apply pw_below_drewN | apply below_drew1) | exact HB.out)))); have n1_ := Aside0.mk (below_step (by repeat (first | (with_reducible first | exact HB.out | apply below_alloc | apply pw_below_drewN | apply below_drew1) | exact HB.out)) hb); clear HB; have HO180 := n0_; have HB := n1_; clear n0_ n1_; (try clear hb); (try clear hb2); (try clear hk); (try clear hi); (try clear ho0)))
                                go_ret
                                exact ⟨by first | rfl | (simp [errW_none, errW_some] <;> rfl) | (simp [*, errW_none, errW_some] <;> rfl), by repeat (first | (with_reducible first | exact HB.out | apply below_alloc | apply pw_below_drewN | apply below_drew1) | exact HB.out)⟩
                            · rw [if_neg c54] at H
                              exact absurd H (by simp)

/-- THE ONE PURE STATEMENT of trystlaw08_FoldOther: yours. -/
def trystlaw08_FoldOther.Pure : Prop := ∀ (a0 : ByteArray) (l1 : List Int) (a2 : Bool) (a3 : Bool), a0.size ≤ 140737488351232 → l1.length ≤ maxLen → l1.length * 2 ≤ 140737488351232 → (∀ x ∈ l1, (Lit.int .u16 x).wf = true) → ∃ k, trystlaw08_FoldOther.f k a0 l1 a2 a3 = some true
theorem trystlaw08_FoldOther.walk (P : trystlaw08_FoldOther.Pure) (a0 : ByteArray) (a1 : Option Addr) (len1 cap1 : Nat) (z1 : List Int) (a2 : Bool) (a3 : Bool) (w : World) (hG : GG w) (w0 : a0.size ≤ 140737488351232) (w1 : (a1 = none ∧ len1 = 0 ∧ cap1 = 0 ∧ z1 = []) ∨ ∃ x, a1 = some x ∧ len1 ≤ cap1 ∧ cap1 ≤ maxLen ∧ z1.length = cap1 ∧ (∀ i, i < z1.length → w.cell? (x.add i) = some (.int .u16 (z1.getD i 0))) ∧ ∀ n ∈ z1, (Lit.int .u16 n).wf = true) (y1 : len1 * 2 ≤ 140737488351232) :
    Calls Tryd.prog 10 #[.string a0, .slice a1 len1 cap1, .bool a2, .bool a3] w fun e w' => e = .returned (.bool true) ∧ Below w.heap.size w w' := by
  obtain ⟨l1, rfl, hr1, hm1, hw1, hc1⟩ := ReadsInt.ofRowC w1
  obtain ⟨k, h⟩ := P a0 l1 a2 a3 w0 hm1 y1 hw1
  refine (trystlaw08_FoldOther.calls k a0 _ _ l1 a2 a3 true w hG (Kd.C_of_reads (d := (0 : Int)) (h1 := fun _ => rfl) hr1) hc1 h).mono ?_
  rintro e w' ⟨rfl, hd⟩
  exact ⟨rfl, hd⟩

end Go.Proofs.YtknmbalhbecdhaaDoor.Print
