-- Written by xprint.py (a program of this claim's session) out of the translation. Lean checks it.
import Derived.Test.YtknmbalhbecdhaaDoorPrint0
import Derived.Test.YtknmbalhbecdhaaDoorPrint5
namespace Go.Proofs.YtknmbalhbecdhaaDoor.Print
open Go.RowKit Go.Proofs.YtknmbalhbecdhaaDoorW.PrintWords Go.Proofs.YtknmbalhbecdhaaDoorW.PrintLast Go.Proofs.YtknmbalhbecdhaaDoorW.PrintMore
attribute [local go_sem] max2_int min2_int max_two min_two max_three min_three max_four min_four   -- for this text's walks alone
set_option linter.unusedVariables false
set_option linter.unusedSimpArgs false

/-! ### trystref08_Unfold: function 30 -/
mutual
def trystref08_Unfold.l0 : Nat → ByteArray → List ByteArray → List Int → Int → Int → Option (List ByteArray × Int × Int)
  | 0, _, _, _, _, _ => none
  | k + 1, x0, x5, x6, x7, x8 => if x8 < (x0.size : Int) then (trystref08_Unfold.l1 k x0 x5 x6 (wrap64 (x7 + 1)) x8 x8) else (trystref08_Unfold.l3 k x5 x6 (x5.length : Int) 0)
def trystref08_Unfold.j2 : Nat → ByteArray → List ByteArray → List Int → Int → Int → Int → Option (List ByteArray × Int × Int)
  | 0, _, _, _, _, _, _ => none
  | k + 1, x0, x5, x6, x7, x8, x9 => if x9 = (x0.size : Int) then (some (([] : List ByteArray), x7, 5)) else (if 0 ≤ x8 then (if x8 ≤ x9 then (if x9 ≤ (x0.size : Int) then (if ((x0.extract (x8 : Int).toNat (x9 : Int).toNat).size : Int) > 0 then (if 0 ≤ (wrap64 (((x0.extract (x8 : Int).toNat (x9 : Int).toNat).size : Int) - 1)) then (if (wrap64 (((x0.extract (x8 : Int).toNat (x9 : Int).toNat).size : Int) - 1)) < ((x0.extract (x8 : Int).toNat (x9 : Int).toNat).size : Int) then (trystref08_Unfold.j3 k x0 x5 x6 x7 x9 (x0.extract (x8 : Int).toNat (x9 : Int).toNat) ((bt (x0.extract (x8 : Int).toNat (x9 : Int).toNat) (wrap64 (((x0.extract (x8 : Int).toNat (x9 : Int).toNat).size : Int) - 1))) == 13)) else (none)) else (none)) else (trystref08_Unfold.j3 k x0 x5 x6 x7 x9 (x0.extract (x8 : Int).toNat (x9 : Int).toNat) false)) else (none)) else (none)) else (none))
def trystref08_Unfold.j3 : Nat → ByteArray → List ByteArray → List Int → Int → Int → ByteArray → Bool → Option (List ByteArray × Int × Int)
  | 0, _, _, _, _, _, _, _ => none
  | k + 1, x0, x5, x6, x7, x9, x10, x56 => if x56 = true then (if 0 ≤ (wrap64 ((x10.size : Int) - 1)) then (if (wrap64 ((x10.size : Int) - 1)) ≤ (x10.size : Int) then (trystref08_Unfold.j4 k x0 x5 x6 x7 x9 (x10.extract 0 ((wrap64 ((x10.size : Int) - 1)) : Int).toNat)) else (none)) else (none)) else (trystref08_Unfold.j4 k x0 x5 x6 x7 x9 x10)
def trystref08_Unfold.j4 : Nat → ByteArray → List ByteArray → List Int → Int → Int → ByteArray → Option (List ByteArray × Int × Int)
  | 0, _, _, _, _, _, _ => none
  | k + 1, x0, x5, x6, x7, x9, x10 => trystref08_Unfold.l2 k x0 x5 x6 x7 x9 x10 (x10.toList == ([] : List UInt8)) (x10.size : Int) 0
def trystref08_Unfold.l2 : Nat → ByteArray → List ByteArray → List Int → Int → Int → ByteArray → Bool → Int → Int → Option (List ByteArray × Int × Int)
  | 0, _, _, _, _, _, _, _, _, _ => none
  | k + 1, x0, x5, x6, x7, x9, x10, x11, x65, x66 => if x66 < x65 then (if x11 = true then (trystref08_Unfold.l2 k x0 x5 x6 x7 x9 x10 true x65 (wrap64 (x66 + 1))) else (if 0 ≤ x66 then (if x66 < (x10.size : Int) then (trystref08_Unfold.l2 k x0 x5 x6 x7 x9 x10 ((bt x10 x66) == 13) x65 (wrap64 (x66 + 1))) else (none)) else (none))) else (if x11 = true then (trystref08_Unfold.j6 k x0 x5 x6 x7 x9 x10 x11 false) else (if 0 < (x10.size : Int) then (if (bt x10 0) = 32 then (trystref08_Unfold.j6 k x0 x5 x6 x7 x9 x10 x11 true) else (trystref08_Unfold.j6 k x0 x5 x6 x7 x9 x10 x11 ((bt x10 0) == 9))) else (none)))
def trystref08_Unfold.j6 : Nat → ByteArray → List ByteArray → List Int → Int → Int → ByteArray → Bool → Bool → Option (List ByteArray × Int × Int)
  | 0, _, _, _, _, _, _, _, _ => none
  | k + 1, x0, x5, x6, x7, x9, x10, x11, x13 => if x11 = true then (trystref08_Unfold.j7 k x0 x5 x6 x7 x9 x10 x13 true) else (if x13 = true then (trystref08_Unfold.j7 k x0 x5 x6 x7 x9 x10 x13 ((x5.length : Int) == 0)) else (trystref08_Unfold.j7 k x0 x5 x6 x7 x9 x10 x13 false))
def trystref08_Unfold.j7 : Nat → ByteArray → List ByteArray → List Int → Int → Int → ByteArray → Bool → Bool → Option (List ByteArray × Int × Int)
  | 0, _, _, _, _, _, _, _, _ => none
  | k + 1, x0, x5, x6, x7, x9, x10, x13, x97 => if x97 = true then (some (([] : List ByteArray), x7, 5)) else (if x13 = true then (if 0 ≤ (wrap64 ((x5.length : Int) - 1)) then (if (wrap64 ((x5.length : Int) - 1)) < (x5.length : Int) then (if 1 ≤ (x10.size : Int) then (if (rdOf ByteArray.empty x5 (wrap64 ((x5.length : Int) - 1))).size + (x10.extract 1 x10.size).size ≤ 9223372036854775807 then (trystref08_Unfold.l0 k x0 (x5.set ((wrap64 ((x5.length : Int) - 1)) : Int).toNat ((rdOf ByteArray.empty x5 (wrap64 ((x5.length : Int) - 1))) ++ (x10.extract 1 x10.size))) x6 x7 (wrap64 (x9 + 1))) else (none)) else (none)) else (none)) else (none)) else (if x5.length < 8796093022208 then (if x6.length < 17592186044416 then (trystref08_Unfold.l0 k x0 (x5 ++ [x10]) (x6 ++ [x7]) x7 (wrap64 (x9 + 1))) else (none)) else (none)))
def trystref08_Unfold.l1 : Nat → ByteArray → List ByteArray → List Int → Int → Int → Int → Option (List ByteArray × Int × Int)
  | 0, _, _, _, _, _, _ => none
  | k + 1, x0, x5, x6, x7, x8, x9 => if x9 < (x0.size : Int) then (if 0 ≤ x9 then (if (bt x0 x9) = 10 then (trystref08_Unfold.j2 k x0 x5 x6 x7 x8 x9) else (trystref08_Unfold.l1 k x0 x5 x6 x7 x8 (wrap64 (x9 + 1)))) else (none)) else (trystref08_Unfold.j2 k x0 x5 x6 x7 x8 x9)
def trystref08_Unfold.l3 : Nat → List ByteArray → List Int → Int → Int → Option (List ByteArray × Int × Int)
  | 0, _, _, _, _ => none
  | k + 1, x5, x6, x125, x126 => if x126 < x125 then (if 0 ≤ x126 then (if x126 < (x5.length : Int) then ((trystref08_UTF.f k (rdOf ByteArray.empty x5 x126)).bind fun t142 => (if t142 = true then (if ((rdOf ByteArray.empty x5 x126).size : Int) > 2000 then (if x126 < (x6.length : Int) then (some (([] : List ByteArray), rd x6 x126, 4)) else (none)) else (trystref08_Unfold.l3 k x5 x6 x125 (wrap64 (x126 + 1)))) else (if x126 < (x6.length : Int) then (some (([] : List ByteArray), rd x6 x126, 3)) else (none)))) else (none)) else (none)) else (some (x5, 0, 0))
end
def trystref08_Unfold.f (k : Nat) (a0 : ByteArray) : Option (List ByteArray × Int × Int) := if (a0.size : Int) > 20000 then (some (([] : List ByteArray), 0, 4)) else (trystref08_Unfold.l0 k a0 ([] : List ByteArray) ([] : List Int) 0 0)
theorem trystref08_Unfold.mono_l : ∀ k, (∀ y0 y1 y2 y3 y4, LeO (trystref08_Unfold.l0 k y0 y1 y2 y3 y4) (trystref08_Unfold.l0 (k + 1) y0 y1 y2 y3 y4)) ∧ (∀ y0 y1 y2 y3 y4 y5, LeO (trystref08_Unfold.j2 k y0 y1 y2 y3 y4 y5) (trystref08_Unfold.j2 (k + 1) y0 y1 y2 y3 y4 y5)) ∧ (∀ y0 y1 y2 y3 y4 y5 y6, LeO (trystref08_Unfold.j3 k y0 y1 y2 y3 y4 y5 y6) (trystref08_Unfold.j3 (k + 1) y0 y1 y2 y3 y4 y5 y6)) ∧ (∀ y0 y1 y2 y3 y4 y5, LeO (trystref08_Unfold.j4 k y0 y1 y2 y3 y4 y5) (trystref08_Unfold.j4 (k + 1) y0 y1 y2 y3 y4 y5)) ∧ (∀ y0 y1 y2 y3 y4 y5 y6 y7 y8, LeO (trystref08_Unfold.l2 k y0 y1 y2 y3 y4 y5 y6 y7 y8) (trystref08_Unfold.l2 (k + 1) y0 y1 y2 y3 y4 y5 y6 y7 y8)) ∧ (∀ y0 y1 y2 y3 y4 y5 y6 y7, LeO (trystref08_Unfold.j6 k y0 y1 y2 y3 y4 y5 y6 y7) (trystref08_Unfold.j6 (k + 1) y0 y1 y2 y3 y4 y5 y6 y7)) ∧ (∀ y0 y1 y2 y3 y4 y5 y6 y7, LeO (trystref08_Unfold.j7 k y0 y1 y2 y3 y4 y5 y6 y7) (trystref08_Unfold.j7 (k + 1) y0 y1 y2 y3 y4 y5 y6 y7)) ∧ (∀ y0 y1 y2 y3 y4 y5, LeO (trystref08_Unfold.l1 k y0 y1 y2 y3 y4 y5) (trystref08_Unfold.l1 (k + 1) y0 y1 y2 y3 y4 y5)) ∧ (∀ y0 y1 y2 y3, LeO (trystref08_Unfold.l3 k y0 y1 y2 y3) (trystref08_Unfold.l3 (k + 1) y0 y1 y2 y3))
  | 0 => ⟨fun _ _ _ _ _ r h => by simp [trystref08_Unfold.l0] at h, fun _ _ _ _ _ _ r h => by simp [trystref08_Unfold.j2] at h, fun _ _ _ _ _ _ _ r h => by simp [trystref08_Unfold.j3] at h, fun _ _ _ _ _ _ r h => by simp [trystref08_Unfold.j4] at h, fun _ _ _ _ _ _ _ _ _ r h => by simp [trystref08_Unfold.l2] at h, fun _ _ _ _ _ _ _ _ r h => by simp [trystref08_Unfold.j6] at h, fun _ _ _ _ _ _ _ _ r h => by simp [trystref08_Unfold.j7] at h, fun _ _ _ _ _ _ r h => by simp [trystref08_Unfold.l1] at h, fun _ _ _ _ r h => by simp [trystref08_Unfold.l3] at h⟩
  | k + 1 => by
    obtain ⟨ih0, ih1, ih2, ih3, ih4, ih5, ih6, ih7, ih8⟩ := trystref08_Unfold.mono_l k
    refine ⟨?_, ?_, ?_, ?_, ?_, ?_, ?_, ?_, ?_⟩
    · intro y0 y1 y2 y3 y4
      unfold trystref08_Unfold.l0
      repeat' first
      | (with_reducible exact ih0 _ _ _ _ _)
      | (with_reducible exact ih1 _ _ _ _ _ _)
      | (with_reducible exact ih2 _ _ _ _ _ _ _)
      | (with_reducible exact ih3 _ _ _ _ _ _)
      | (with_reducible exact ih4 _ _ _ _ _ _ _ _ _)
      | (with_reducible exact ih5 _ _ _ _ _ _ _ _)
      | (with_reducible exact ih6 _ _ _ _ _ _ _ _)
      | (with_reducible exact ih7 _ _ _ _ _ _)
      | (with_reducible exact ih8 _ _ _ _)
      | (with_reducible exact trystref08_UTF.mono _ _)
      | (with_reducible exact LeO.refl _)
      | (with_reducible exact LeO.none _)
      | (with_reducible refine LeO.ite ?_ ?_)
      | (with_reducible refine LeO.bind ?_ (fun _ => ?_))
      | exact ih0 _ _ _ _ _
      | exact ih1 _ _ _ _ _ _
      | exact ih2 _ _ _ _ _ _ _
      | exact ih3 _ _ _ _ _ _
      | exact ih4 _ _ _ _ _ _ _ _ _
      | exact ih5 _ _ _ _ _ _ _ _
      | exact ih6 _ _ _ _ _ _ _ _
      | exact ih7 _ _ _ _ _ _
      | exact ih8 _ _ _ _
      | exact trystref08_UTF.mono _ _
      | exact LeO.none _
      | refine LeO.ite ?_ ?_
      | refine LeO.bind ?_ (fun _ => ?_)
    · intro y0 y1 y2 y3 y4 y5
      unfold trystref08_Unfold.j2
      repeat' first
      | (with_reducible exact ih0 _ _ _ _ _)
      | (with_reducible exact ih1 _ _ _ _ _ _)
      | (with_reducible exact ih2 _ _ _ _ _ _ _)
      | (with_reducible exact ih3 _ _ _ _ _ _)
      | (with_reducible exact ih4 _ _ _ _ _ _ _ _ _)
      | (with_reducible exact ih5 _ _ _ _ _ _ _ _)
      | (with_reducible exact ih6 _ _ _ _ _ _ _ _)
      | (with_reducible exact ih7 _ _ _ _ _ _)
      | (with_reducible exact ih8 _ _ _ _)
      | (with_reducible exact trystref08_UTF.mono _ _)
      | (with_reducible exact LeO.refl _)
      | (with_reducible exact LeO.none _)
      | (with_reducible refine LeO.ite ?_ ?_)
      | (with_reducible refine LeO.bind ?_ (fun _ => ?_))
      | exact ih0 _ _ _ _ _
      | exact ih1 _ _ _ _ _ _
      | exact ih2 _ _ _ _ _ _ _
      | exact ih3 _ _ _ _ _ _
      | exact ih4 _ _ _ _ _ _ _ _ _
      | exact ih5 _ _ _ _ _ _ _ _
      | exact ih6 _ _ _ _ _ _ _ _
      | exact ih7 _ _ _ _ _ _
      | exact ih8 _ _ _ _
      | exact trystref08_UTF.mono _ _
      | exact LeO.none _
      | refine LeO.ite ?_ ?_
      | refine LeO.bind ?_ (fun _ => ?_)
    · intro y0 y1 y2 y3 y4 y5 y6
      unfold trystref08_Unfold.j3
      repeat' first
      | (with_reducible exact ih0 _ _ _ _ _)
      | (with_reducible exact ih1 _ _ _ _ _ _)
      | (with_reducible exact ih2 _ _ _ _ _ _ _)
      | (with_reducible exact ih3 _ _ _ _ _ _)
      | (with_reducible exact ih4 _ _ _ _ _ _ _ _ _)
      | (with_reducible exact ih5 _ _ _ _ _ _ _ _)
      | (with_reducible exact ih6 _ _ _ _ _ _ _ _)
      | (with_reducible exact ih7 _ _ _ _ _ _)
      | (with_reducible exact ih8 _ _ _ _)
      | (with_reducible exact trystref08_UTF.mono _ _)
      | (with_reducible exact LeO.refl _)
      | (with_reducible exact LeO.none _)
      | (with_reducible refine LeO.ite ?_ ?_)
      | (with_reducible refine LeO.bind ?_ (fun _ => ?_))
      | exact ih0 _ _ _ _ _
      | exact ih1 _ _ _ _ _ _
      | exact ih2 _ _ _ _ _ _ _
      | exact ih3 _ _ _ _ _ _
      | exact ih4 _ _ _ _ _ _ _ _ _
      | exact ih5 _ _ _ _ _ _ _ _
      | exact ih6 _ _ _ _ _ _ _ _
      | exact ih7 _ _ _ _ _ _
      | exact ih8 _ _ _ _
      | exact trystref08_UTF.mono _ _
      | exact LeO.none _
      | refine LeO.ite ?_ ?_
      | refine LeO.bind ?_ (fun _ => ?_)
    · intro y0 y1 y2 y3 y4 y5
      unfold trystref08_Unfold.j4
      repeat' first
      | (with_reducible exact ih0 _ _ _ _ _)
      | (with_reducible exact ih1 _ _ _ _ _ _)
      | (with_reducible exact ih2 _ _ _ _ _ _ _)
      | (with_reducible exact ih3 _ _ _ _ _ _)
      | (with_reducible exact ih4 _ _ _ _ _ _ _ _ _)
      | (with_reducible exact ih5 _ _ _ _ _ _ _ _)
      | (with_reducible exact ih6 _ _ _ _ _ _ _ _)
      | (with_reducible exact ih7 _ _ _ _ _ _)
      | (with_reducible exact ih8 _ _ _ _)
      | (with_reducible exact trystref08_UTF.mono _ _)
      | (with_reducible exact LeO.refl _)
      | (with_reducible exact LeO.none _)
      | (with_reducible refine LeO.ite ?_ ?_)
      | (with_reducible refine LeO.bind ?_ (fun _ => ?_))
      | exact ih0 _ _ _ _ _
      | exact ih1 _ _ _ _ _ _
      | exact ih2 _ _ _ _ _ _ _
      | exact ih3 _ _ _ _ _ _
      | exact ih4 _ _ _ _ _ _ _ _ _
      | exact ih5 _ _ _ _ _ _ _ _
      | exact ih6 _ _ _ _ _ _ _ _
      | exact ih7 _ _ _ _ _ _
      | exact ih8 _ _ _ _
      | exact trystref08_UTF.mono _ _
      | exact LeO.none _
      | refine LeO.ite ?_ ?_
      | refine LeO.bind ?_ (fun _ => ?_)
    · intro y0 y1 y2 y3 y4 y5 y6 y7 y8
      unfold trystref08_Unfold.l2
      repeat' first
      | (with_reducible exact ih0 _ _ _ _ _)
      | (with_reducible exact ih1 _ _ _ _ _ _)
      | (with_reducible exact ih2 _ _ _ _ _ _ _)
      | (with_reducible exact ih3 _ _ _ _ _ _)
      | (with_reducible exact ih4 _ _ _ _ _ _ _ _ _)
      | (with_reducible exact ih5 _ _ _ _ _ _ _ _)
      | (with_reducible exact ih6 _ _ _ _ _ _ _ _)
      | (with_reducible exact ih7 _ _ _ _ _ _)
      | (with_reducible exact ih8 _ _ _ _)
      | (with_reducible exact trystref08_UTF.mono _ _)
      | (with_reducible exact LeO.refl _)
      | (with_reducible exact LeO.none _)
      | (with_reducible refine LeO.ite ?_ ?_)
      | (with_reducible refine LeO.bind ?_ (fun _ => ?_))
      | exact ih0 _ _ _ _ _
      | exact ih1 _ _ _ _ _ _
      | exact ih2 _ _ _ _ _ _ _
      | exact ih3 _ _ _ _ _ _
      | exact ih4 _ _ _ _ _ _ _ _ _
      | exact ih5 _ _ _ _ _ _ _ _
      | exact ih6 _ _ _ _ _ _ _ _
      | exact ih7 _ _ _ _ _ _
      | exact ih8 _ _ _ _
      | exact trystref08_UTF.mono _ _
      | exact LeO.none _
      | refine LeO.ite ?_ ?_
      | refine LeO.bind ?_ (fun _ => ?_)
    · intro y0 y1 y2 y3 y4 y5 y6 y7
      unfold trystref08_Unfold.j6
      repeat' first
      | (with_reducible exact ih0 _ _ _ _ _)
      | (with_reducible exact ih1 _ _ _ _ _ _)
      | (with_reducible exact ih2 _ _ _ _ _ _ _)
      | (with_reducible exact ih3 _ _ _ _ _ _)
      | (with_reducible exact ih4 _ _ _ _ _ _ _ _ _)
      | (with_reducible exact ih5 _ _ _ _ _ _ _ _)
      | (with_reducible exact ih6 _ _ _ _ _ _ _ _)
      | (with_reducible exact ih7 _ _ _ _ _ _)
      | (with_reducible exact ih8 _ _ _ _)
      | (with_reducible exact trystref08_UTF.mono _ _)
      | (with_reducible exact LeO.refl _)
      | (with_reducible exact LeO.none _)
      | (with_reducible refine LeO.ite ?_ ?_)
      | (with_reducible refine LeO.bind ?_ (fun _ => ?_))
      | exact ih0 _ _ _ _ _
      | exact ih1 _ _ _ _ _ _
      | exact ih2 _ _ _ _ _ _ _
      | exact ih3 _ _ _ _ _ _
      | exact ih4 _ _ _ _ _ _ _ _ _
      | exact ih5 _ _ _ _ _ _ _ _
      | exact ih6 _ _ _ _ _ _ _ _
      | exact ih7 _ _ _ _ _ _
      | exact ih8 _ _ _ _
      | exact trystref08_UTF.mono _ _
      | exact LeO.none _
      | refine LeO.ite ?_ ?_
      | refine LeO.bind ?_ (fun _ => ?_)
    · intro y0 y1 y2 y3 y4 y5 y6 y7
      unfold trystref08_Unfold.j7
      repeat' first
      | (with_reducible exact ih0 _ _ _ _ _)
      | (with_reducible exact ih1 _ _ _ _ _ _)
      | (with_reducible exact ih2 _ _ _ _ _ _ _)
      | (with_reducible exact ih3 _ _ _ _ _ _)
      | (with_reducible exact ih4 _ _ _ _ _ _ _ _ _)
      | (with_reducible exact ih5 _ _ _ _ _ _ _ _)
      | (with_reducible exact ih6 _ _ _ _ _ _ _ _)
      | (with_reducible exact ih7 _ _ _ _ _ _)
      | (with_reducible exact ih8 _ _ _ _)
      | (with_reducible exact trystref08_UTF.mono _ _)
      | (with_reducible exact LeO.refl _)
      | (with_reducible exact LeO.none _)
      | (with_reducible refine LeO.ite ?_ ?_)
      | (with_reducible refine LeO.bind ?_ (fun _ => ?_))
      | exact ih0 _ _ _ _ _
      | exact ih1 _ _ _ _ _ _
      | exact ih2 _ _ _ _ _ _ _
      | exact ih3 _ _ _ _ _ _
      | exact ih4 _ _ _ _ _ _ _ _ _
      | exact ih5 _ _ _ _ _ _ _ _
      | exact ih6 _ _ _ _ _ _ _ _
      | exact ih7 _ _ _ _ _ _
      | exact ih8 _ _ _ _
      | exact trystref08_UTF.mono _ _
      | exact LeO.none _
      | refine LeO.ite ?_ ?_
      | refine LeO.bind ?_ (fun _ => ?_)
    · intro y0 y1 y2 y3 y4 y5
      unfold trystref08_Unfold.l1
      repeat' first
      | (with_reducible exact ih0 _ _ _ _ _)
      | (with_reducible exact ih1 _ _ _ _ _ _)
      | (with_reducible exact ih2 _ _ _ _ _ _ _)
      | (with_reducible exact ih3 _ _ _ _ _ _)
      | (with_reducible exact ih4 _ _ _ _ _ _ _ _ _)
      | (with_reducible exact ih5 _ _ _ _ _ _ _ _)
      | (with_reducible exact ih6 _ _ _ _ _ _ _ _)
      | (with_reducible exact ih7 _ _ _ _ _ _)
      | (with_reducible exact ih8 _ _ _ _)
      | (with_reducible exact trystref08_UTF.mono _ _)
      | (with_reducible exact LeO.refl _)
      | (with_reducible exact LeO.none _)
      | (with_reducible refine LeO.ite ?_ ?_)
      | (with_reducible refine LeO.bind ?_ (fun _ => ?_))
      | exact ih0 _ _ _ _ _
      | exact ih1 _ _ _ _ _ _
      | exact ih2 _ _ _ _ _ _ _
      | exact ih3 _ _ _ _ _ _
      | exact ih4 _ _ _ _ _ _ _ _ _
      | exact ih5 _ _ _ _ _ _ _ _
      | exact ih6 _ _ _ _ _ _ _ _
      | exact ih7 _ _ _ _ _ _
      | exact ih8 _ _ _ _
      | exact trystref08_UTF.mono _ _
      | exact LeO.none _
      | refine LeO.ite ?_ ?_
      | refine LeO.bind ?_ (fun _ => ?_)
    · intro y0 y1 y2 y3
      unfold trystref08_Unfold.l3
      repeat' first
      | (with_reducible exact ih0 _ _ _ _ _)
      | (with_reducible exact ih1 _ _ _ _ _ _)
      | (with_reducible exact ih2 _ _ _ _ _ _ _)
      | (with_reducible exact ih3 _ _ _ _ _ _)
      | (with_reducible exact ih4 _ _ _ _ _ _ _ _ _)
      | (with_reducible exact ih5 _ _ _ _ _ _ _ _)
      | (with_reducible exact ih6 _ _ _ _ _ _ _ _)
      | (with_reducible exact ih7 _ _ _ _ _ _)
      | (with_reducible exact ih8 _ _ _ _)
      | (with_reducible exact trystref08_UTF.mono _ _)
      | (with_reducible exact LeO.refl _)
      | (with_reducible exact LeO.none _)
      | (with_reducible refine LeO.ite ?_ ?_)
      | (with_reducible refine LeO.bind ?_ (fun _ => ?_))
      | exact ih0 _ _ _ _ _
      | exact ih1 _ _ _ _ _ _
      | exact ih2 _ _ _ _ _ _ _
      | exact ih3 _ _ _ _ _ _
      | exact ih4 _ _ _ _ _ _ _ _ _
      | exact ih5 _ _ _ _ _ _ _ _
      | exact ih6 _ _ _ _ _ _ _ _
      | exact ih7 _ _ _ _ _ _
      | exact ih8 _ _ _ _
      | exact trystref08_UTF.mono _ _
      | exact LeO.none _
      | refine LeO.ite ?_ ?_
      | refine LeO.bind ?_ (fun _ => ?_)
theorem trystref08_Unfold.mono : ∀ a0 k, LeO (trystref08_Unfold.f k a0) (trystref08_Unfold.f (k + 1) a0) := by
  intro a0 k
  obtain ⟨ih0, ih1, ih2, ih3, ih4, ih5, ih6, ih7, ih8⟩ := trystref08_Unfold.mono_l k
  unfold trystref08_Unfold.f
  repeat' first
      | (with_reducible exact ih0 _ _ _ _ _)
      | (with_reducible exact ih1 _ _ _ _ _ _)
      | (with_reducible exact ih2 _ _ _ _ _ _ _)
      | (with_reducible exact ih3 _ _ _ _ _ _)
      | (with_reducible exact ih4 _ _ _ _ _ _ _ _ _)
      | (with_reducible exact ih5 _ _ _ _ _ _ _ _)
      | (with_reducible exact ih6 _ _ _ _ _ _ _ _)
      | (with_reducible exact ih7 _ _ _ _ _ _)
      | (with_reducible exact ih8 _ _ _ _)
      | (with_reducible exact trystref08_UTF.mono _ _)
      | (with_reducible exact LeO.refl _)
      | (with_reducible exact LeO.none _)
      | (with_reducible refine LeO.ite ?_ ?_)
      | (with_reducible refine LeO.bind ?_ (fun _ => ?_))
      | exact ih0 _ _ _ _ _
      | exact ih1 _ _ _ _ _ _
      | exact ih2 _ _ _ _ _ _ _
      | exact ih3 _ _ _ _ _ _
      | exact ih4 _ _ _ _ _ _ _ _ _
      | exact ih5 _ _ _ _ _ _ _ _
      | exact ih6 _ _ _ _ _ _ _ _
      | exact ih7 _ _ _ _ _ _
      | exact ih8 _ _ _ _
      | exact trystref08_UTF.mono _ _
      | exact LeO.none _
      | refine LeO.ite ?_ ?_
      | refine LeO.bind ?_ (fun _ => ?_)
def trystref08_Unfold.T27 : Bool × List (List Nat × List Nat) := (true, [([], []), ([], []), ([1], [1]), ([2], [2]), ([], []), ([], []), ([5], [5]), ([6], [6]), ([4, 7], [4, 7]), ([8], [8]), ([], []), ([10], [10]), ([9, 11], [9, 11]), ([0, 3, 0, 1, 2, 3, 4, 5, 6, 7, 8, 9, 10, 11, 12], [0, 3]), ([13, 12, 0, 1, 2, 3, 4, 5, 6, 7, 8, 9, 10, 11, 12], [12, 13])])
def trystref08_Unfold.B27 : List Nat := [0, 0, 2, 6, 0, 0, 32, 96, 240, 496, 0, 1024, 4080, 8191, 16383]
theorem trystref08_Unfold.tab27 : rtab .any (opsOf Tryd.f30 27) = trystref08_Unfold.T27 := by kernel_rfl
theorem trystref08_Unfold.bits27 : waitsOk trystref08_Unfold.T27.2 trystref08_Unfold.B27 = true := by kernel_rfl
set_option maxHeartbeats 8000000 in
set_option maxRecDepth 100000 in
theorem trystref08_Unfold.calls (k : Nat) (a0 : ByteArray) (r1 : List ByteArray) (r2 : Int) (r3 : Int) (w : World) (hG : GG w) (h : trystref08_Unfold.f k a0 = some (r1, r2, r3)) :
    Calls Tryd.prog 30 #[.string a0] w fun e w' => ∃ v0_ : Value, e = .returned (.tuple #[v0_, .int .i64 r2, .int .i64 r3]) ∧ Kd.R Kd.string 9 w' w.heap.size (fun _ => True) v0_ r1 ∧ Below w.heap.size w w' := by
  have HB := Aside0.mk (Below.refl w.heap.size w)
  have H : (if (a0.size : Int) > 20000 then (some (([] : List ByteArray), 0, 4)) else (trystref08_Unfold.l0 k a0 ([] : List ByteArray) ([] : List Int) 0 0)) = some (r1, r2, r3) := h
  clear h
  by_cases c2 : (a0.size : Int) > 20000
  · rw [if_pos c2] at H
    have c2b0 : decide (20000 < (a0.size : Int)) = true := decide_eq_true c2
    have c2b1 : decide (20000 < a0.size) = true := decide_eq_true (by omega)
    clear c2
    simp only [Option.some.injEq, Prod.mk.injEq] at H
    obtain ⟨rfl, rfl, rfl⟩ := H
    go_enter Tryd.func30, Tryd.ntmps30
    go_wp2
    go_ret3
    exact ⟨_, by first | rfl | (simp [errW_none, errW_some] <;> rfl) | (simp [*, errW_none, errW_some] <;> rfl), by first | exact Kd.R_nil _ _ _ _ _ | exact Kd.N_nil _ _ _ _ _ | exact Kd.V_nil _ _ _ _ _ | exact Kd.Q_nil _ _ _ _ _ | exact Kd.S_nil _ _ _ _ _, by repeat (first | (with_reducible first | exact HB.out | apply below_alloc | apply pw_below_drewN | apply below_drew1) | exact HB.out)⟩
  · rw [if_neg c2] at H
    have c2b0 : decide (20000 < (a0.size : Int)) = false := decide_eq_false c2
    have c2b1 : decide (20000 < a0.size) = false := decide_eq_false (by omega)
    clear c2
    have H' := Aside0.mk H
    clear H
    go_enter Tryd.func30, Tryd.ntmps30
    go_wp2
    go_loopg [5, 6, 7, 8] k (fun kq v5 v6 v7 v8 w' => ∃ (x5_1 : List ByteArray) (x6_1 : List Int) (x7_1 : Int) (x8_1 : Int), v7 = .int .i64 x7_1 ∧ v8 = .int .i64 x8_1 ∧ Aside0 (trystref08_Unfold.l0 kq a0 x5_1 x6_1 x7_1 x8_1 = some (r1, r2, r3)) ∧ Aside0 (kq ≤ k) ∧ Aside0 (Kd.R Kd.string 9 w' w.heap.size (fun _ => True) v5 x5_1) ∧ Aside0 (Kd.R (Kd.int .i64) 3 w' w.heap.size (fun _ => True) v6 x6_1) ∧ Aside0 (Below w.heap.size w w'))
    case atStart => exact ⟨(([] : List ByteArray)), (([] : List Int)), (0), (0), (by first | rfl | (simp; done) | (simp [bne_nil_isEmpty, beq_nil_isEmpty]; done) | (simp [*]; done)), (by first | rfl | (simp; done) | (simp [bne_nil_isEmpty, beq_nil_isEmpty]; done) | (simp [*]; done)), H', ⟨Nat.le_refl _⟩, ⟨by first | exact Kd.R_nil _ _ _ _ _ | exact Kd.N_nil _ _ _ _ _ | exact Kd.V_nil _ _ _ _ _ | exact Kd.Q_nil _ _ _ _ _ | exact Kd.S_nil _ _ _ _ _⟩, ⟨by first | exact Kd.R_nil _ _ _ _ _ | exact Kd.N_nil _ _ _ _ _ | exact Kd.V_nil _ _ _ _ _ | exact Kd.Q_nil _ _ _ _ _ | exact Kd.S_nil _ _ _ _ _⟩, ⟨by repeat (first | (with_reducible first | exact HB.out | apply below_alloc | apply pw_below_drewN | apply below_drew1) | exact HB.out)⟩⟩
    case round =>
      clear H'
      try clear c2
      try clear c2b0
      try clear c2b1
      try clear p2
      obtain ⟨x5_1, x6_1, x7_1, x8_1, rfl, rfl, HA, HK1, HO_5, HO_6, HB⟩ := hrel
      cases gk with
      | zero => exact absurd HA.out (by simp [trystref08_Unfold.l0])
      | succ k1 =>
        have H := HA.out
        clear HA
        simp only [trystref08_Unfold.l0] at H
        by_cases c3 : x8_1 < (a0.size : Int)
        · rw [if_pos c3] at H
          have c3b0 : decide (x8_1 < (a0.size : Int)) = true := decide_eq_true c3
          clear c3
          have HC4 := Aside0.mk H
          clear H
          go_upto_block 2 with (fail)
          go_cut [9] (fun v9 wc => ∃ (kq : Nat) (x9_3 : Int), v9 = .int .i64 x9_3 ∧ Aside0 (trystref08_Unfold.j2 kq a0 x5_1 x6_1 (wrap64 (x7_1 + 1)) x8_1 x9_3 = some (r1, r2, r3)) ∧ Aside0 (kq ≤ k1) ∧ Aside0 (Kd.R Kd.string 9 wc w.heap.size (fun _ => True) u5 x5_1) ∧ Aside0 (Kd.R (Kd.int .i64) 3 wc w.heap.size (fun _ => True) u6 x6_1) ∧ Aside0 (Below w.heap.size w wc))
          case first =>
            have H := HC4.out
            clear HC4
            have H' := Aside0.mk H
            clear H
            go_wp2
            go_loopg [9] k1 (fun kq v9 w' => ∃ (x9_2 : Int), v9 = .int .i64 x9_2 ∧ Aside0 (trystref08_Unfold.l1 kq a0 x5_1 x6_1 (wrap64 (x7_1 + 1)) x8_1 x9_2 = some (r1, r2, r3)) ∧ Aside0 (kq ≤ k1) ∧ Aside0 (Kd.R Kd.string 9 w' w.heap.size (fun _ => True) u5 x5_1) ∧ Aside0 (Kd.R (Kd.int .i64) 3 w' w.heap.size (fun _ => True) u6 x6_1) ∧ Aside0 (Below w.heap.size w w'))
            case atStart => exact ⟨(x8_1), (by first | rfl | (simp; done) | (simp [bne_nil_isEmpty, beq_nil_isEmpty]; done) | (simp [*]; done)), H', ⟨Nat.le_refl _⟩, ⟨by (with_reducible repeat (first | apply Kd.R_alloc | apply Kd.R_drewN | apply Kd.R_drew)); exact HO_5.out⟩, ⟨by (with_reducible repeat (first | apply Kd.R_alloc | apply Kd.R_drewN | apply Kd.R_drew)); exact HO_6.out⟩, ⟨by repeat (first | (with_reducible first | exact HB.out | apply below_alloc | apply pw_below_drewN | apply below_drew1) | exact HB.out)⟩⟩
            case round =>
              clear H'
              try clear c2
              try clear c2b0
              try clear c2b1
              try clear p2
              try clear c3
              try clear c3b0
              try clear p2
              obtain ⟨x9_2, rfl, HA, HK2, HO_5, HO_6, HB⟩ := hrel
              cases gk with
              | zero => exact absurd HA.out (by simp [trystref08_Unfold.l1])
              | succ k2 =>
                have H := HA.out
                clear HA
                simp only [trystref08_Unfold.l1] at H
                by_cases c5 : x9_2 < (a0.size : Int)
                · rw [if_pos c5] at H
                  have c5b0 : decide (x9_2 < (a0.size : Int)) = true := decide_eq_true c5
                  clear c5
                  (first | rw [c5b0] | (simp only [i64_w, i32_w]; rw [c5b0]) | skip)
                  by_cases c6 : 0 ≤ x9_2
                  · rw [if_pos c6] at H
                    have c6b0 : decide (0 ≤ x9_2) = true := decide_eq_true c6
                    clear c6
                    by_cases c8 : (bt a0 x9_2) = 10
                    · rw [if_pos c8] at H
                      have c8b0 : ((bt a0 x9_2) == 10) = true := beq_iff_eq.mpr c8
                      have c8b1 : ((bt a0 x9_2) != 10) = false := bne_eq_false_iff_eq.mpr c8
                      clear c8
                      have H' := Aside0.mk H
                      clear H
                      have p7 : 0 ≤ (x9_2 : Int) := of_decide_eq_true (by first | (with_reducible assumption) | assumption)
                      have q7 : x9_2 < (a0.size : Int) := of_decide_eq_true (by first | (with_reducible assumption) | assumption)
                      have hx7 := bt_at a0 x9_2
                      replace p7 := eq_true p7
                      replace q7 := eq_true q7
                      go_wp2
                      go_meet
                      case rel => exact ⟨_, (x9_2), (by first | rfl | (simp; done) | (simp [bne_nil_isEmpty, beq_nil_isEmpty]; done) | (simp [*]; done)), H', ⟨by have := HK1.out; have := HK2.out; first | omega | exact Nat.le_refl _⟩, ⟨by (with_reducible repeat (first | apply Kd.R_alloc | apply Kd.R_drewN | apply Kd.R_drew)); exact HO_5.out⟩, ⟨by (with_reducible repeat (first | apply Kd.R_alloc | apply Kd.R_drewN | apply Kd.R_drew)); exact HO_6.out⟩, ⟨by repeat (first | (with_reducible first | exact HB.out | apply below_alloc | apply pw_below_drewN | apply below_drew1) | exact HB.out)⟩⟩
                    · rw [if_neg c8] at H
                      have c8b0 : ((bt a0 x9_2) == 10) = false := beq_eq_false_iff_ne.mpr c8
                      have c8b1 : ((bt a0 x9_2) != 10) = true := bne_iff_ne.mpr c8
                      have H' := Aside0.mk H
                      clear H
                      have p7 : 0 ≤ (x9_2 : Int) := of_decide_eq_true (by first | (with_reducible assumption) | assumption)
                      have q7 : x9_2 < (a0.size : Int) := of_decide_eq_true (by first | (with_reducible assumption) | assumption)
                      have hx7 := bt_at a0 x9_2
                      replace p7 := eq_true p7
                      replace q7 := eq_true q7
                      go_wp2
                      go_roundg k2
                      case measure => have := HK1.out; have := HK2.out; omega
                      case rel => exact ⟨(wrap64 (x9_2 + 1)), (by first | rfl | (simp; done) | (simp [bne_nil_isEmpty, beq_nil_isEmpty]; done) | (simp [*]; done)), H', ⟨by have := HK1.out; have := HK2.out; omega⟩, ⟨by (with_reducible repeat (first | apply Kd.R_alloc | apply Kd.R_drewN | apply Kd.R_drew)); exact HO_5.out⟩, ⟨by (with_reducible repeat (first | apply Kd.R_alloc | apply Kd.R_drewN | apply Kd.R_drew)); exact HO_6.out⟩, ⟨by repeat (first | (with_reducible first | exact HB.out | apply below_alloc | apply pw_below_drewN | apply below_drew1) | exact HB.out)⟩⟩
                  · rw [if_neg c6] at H
                    exact absurd H (by simp)
                · rw [if_neg c5] at H
                  have c5b0 : decide (x9_2 < (a0.size : Int)) = false := decide_eq_false c5
                  clear c5
                  (first | rw [c5b0] | (simp only [i64_w, i32_w]; rw [c5b0]) | skip)
                  have H' := Aside0.mk H
                  clear H
                  go_wp2
                  go_meet
                  case rel => exact ⟨_, (x9_2), (by first | rfl | (simp; done) | (simp [bne_nil_isEmpty, beq_nil_isEmpty]; done) | (simp [*]; done)), H', ⟨by have := HK1.out; have := HK2.out; first | omega | exact Nat.le_refl _⟩, ⟨by (with_reducible repeat (first | apply Kd.R_alloc | apply Kd.R_drewN | apply Kd.R_drew)); exact HO_5.out⟩, ⟨by (with_reducible repeat (first | apply Kd.R_alloc | apply Kd.R_drewN | apply Kd.R_drew)); exact HO_6.out⟩, ⟨by repeat (first | (with_reducible first | exact HB.out | apply below_alloc | apply pw_below_drewN | apply below_drew1) | exact HB.out)⟩⟩
          case rest =>
            clear HC4
            try clear c2
            try clear c2b0
            try clear c2b1
            try clear p2
            try clear c3
            try clear c3b0
            try clear c5
            try clear c5b0
            try clear c6
            try clear c6b0
            try clear p6
            try clear p7
            try clear q7
            try clear hx7
            try clear c8
            try clear c8b0
            try clear c8b1
            try clear p2
            try clear p7
            try clear q7
            obtain ⟨kq, x9_3, rfl, HA, HJ3, HO_5, HO_6, HB⟩ := hcut
            cases kq with
            | zero => exact absurd HA.out (by simp [trystref08_Unfold.j2])
            | succ kj3 =>
              have H := HA.out
              clear HA
              simp only [trystref08_Unfold.j2] at H
              by_cases c9 : x9_3 = (a0.size : Int)
              · rw [if_pos c9] at H
                have c9b0 : (x9_3 == (a0.size : Int)) = true := beq_iff_eq.mpr c9
                have c9b1 : (x9_3 != (a0.size : Int)) = false := bne_eq_false_iff_eq.mpr c9
                clear c9
                simp only [Option.some.injEq, Prod.mk.injEq] at H
                obtain ⟨rfl, rfl, rfl⟩ := H
                go_wp2
                go_ret3
                exact ⟨_, by first | rfl | (simp [errW_none, errW_some] <;> rfl) | (simp [*, errW_none, errW_some] <;> rfl), by first | exact Kd.R_nil _ _ _ _ _ | exact Kd.N_nil _ _ _ _ _ | exact Kd.V_nil _ _ _ _ _ | exact Kd.Q_nil _ _ _ _ _ | exact Kd.S_nil _ _ _ _ _, by repeat (first | (with_reducible first | exact HB.out | apply below_alloc | apply pw_below_drewN | apply below_drew1) | exact HB.out)⟩
              · rw [if_neg c9] at H
                have c9b0 : (x9_3 == (a0.size : Int)) = false := beq_eq_false_iff_ne.mpr c9
                have c9b1 : (x9_3 != (a0.size : Int)) = true := bne_iff_ne.mpr c9
                by_cases c10 : 0 ≤ x8_1
                · rw [if_pos c10] at H
                  have c10b0 := eq_true c10
                  have c10b1 : decide (0 ≤ x8_1) = true := decide_eq_true c10
                  clear c10
                  by_cases c11 : x8_1 ≤ x9_3
                  · rw [if_pos c11] at H
                    have c11b0 := eq_true c11
                    have c11b1 : decide (x8_1 ≤ x9_3) = true := decide_eq_true c11
                    clear c11
                    by_cases c12 : x9_3 ≤ (a0.size : Int)
                    · rw [if_pos c12] at H
                      have c12b0 := eq_true c12
                      have c12b1 : decide (x9_3 ≤ (a0.size : Int)) = true := decide_eq_true c12
                      clear c12
                      have HC13 := Aside0.mk H
                      clear H
                      go_upto_region 15 with (fail)
                      generalize a0.extract (x8_1 : Int).toNat (x9_3 : Int).toNat = p10_ at HC13 ⊢
                      go_cut [56] (fun v56 wc => ∃ (kq : Nat) (x56_12 : Bool), v56 = .bool x56_12 ∧ Aside0 (trystref08_Unfold.j3 kq a0 x5_1 x6_1 (wrap64 (x7_1 + 1)) x9_3 p10_ x56_12 = some (r1, r2, r3)) ∧ Aside0 (kq ≤ kj3) ∧ Aside0 (Kd.R Kd.string 9 wc w.heap.size (fun _ => True) u5 x5_1) ∧ Aside0 (Kd.R (Kd.int .i64) 3 wc w.heap.size (fun _ => True) u6 x6_1) ∧ Aside0 (Below w.heap.size w wc))
                      case first =>
                        have H := HC13.out
                        clear HC13
                        by_cases c14 : (p10_.size : Int) > 0
                        · rw [if_pos c14] at H
                          have c14b0 : decide (0 < (p10_.size : Int)) = true := decide_eq_true c14
                          have c14b1 : decide (0 < p10_.size) = true := decide_eq_true (by omega)
                          clear c14
                          (first | rw [c14b0] | (simp only [i64_w, i32_w]; rw [c14b0]) | skip)
                          obtain ⟨ji15, hji15⟩ : ∃ j_ : Int, (wrap64 ((p10_.size : Int) - 1)) = j_ := ⟨_, rfl⟩
                          replace H : (if 0 ≤ (ji15) then (if (ji15) < (p10_.size : Int) then (trystref08_Unfold.j3 kj3 a0 x5_1 x6_1 (wrap64 (x7_1 + 1)) x9_3 p10_ ((bt p10_ (ji15)) == 13)) else (none)) else (none)) = some (r1, r2, r3) := by first | (rw [hji15] at H; exact H) | (simp only [hji15] at H ⊢; exact H)
                          have hji15w : (IntKind.i64.wrap ((p10_.size : Int) - 1)) = ji15 := (i64_w _).trans hji15
                          by_cases c16 : 0 ≤ (ji15)
                          · rw [if_pos c16] at H
                            have c16b0 : decide (0 ≤ (ji15)) = true := decide_eq_true c16
                            clear c16
                            by_cases c17 : (ji15) < (p10_.size : Int)
                            · rw [if_pos c17] at H
                              have c17b0 : decide ((ji15) < (p10_.size : Int)) = true := decide_eq_true c17
                              clear c17
                              have H' := Aside0.mk H
                              clear H
                              have p18 : 0 ≤ ((ji15) : Int) := of_decide_eq_true (by first | (with_reducible assumption) | assumption)
                              have q18 : (ji15) < (p10_.size : Int) := of_decide_eq_true (by first | (with_reducible assumption) | assumption)
                              have hx18 := bt_at p10_ (ji15)
                              replace p18 := eq_true p18
                              replace q18 := eq_true q18
                              go_wp2
                              go_meet
                              case rel => exact ⟨_, (((bt p10_ (ji15)) == 13)), (by first | rfl | (simp; done) | (simp only [← hji15] <;> (first | rfl | simp)) | (simp [*]; done)), H', ⟨by have := HK1.out; have := HJ3.out; first | omega | exact Nat.le_refl _⟩, ⟨by (with_reducible repeat (first | apply Kd.R_alloc | apply Kd.R_drewN | apply Kd.R_drew)); exact HO_5.out⟩, ⟨by (with_reducible repeat (first | apply Kd.R_alloc | apply Kd.R_drewN | apply Kd.R_drew)); exact HO_6.out⟩, ⟨by repeat (first | (with_reducible first | exact HB.out | apply below_alloc | apply pw_below_drewN | apply below_drew1) | exact HB.out)⟩⟩
                            · rw [if_neg c17] at H
                              exact absurd H (by simp)
                          · rw [if_neg c16] at H
                            exact absurd H (by simp)
                        · rw [if_neg c14] at H
                          have c14b0 : decide (0 < (p10_.size : Int)) = false := decide_eq_false c14
                          have c14b1 : decide (0 < p10_.size) = false := decide_eq_false (by omega)
                          clear c14
                          (first | rw [c14b0] | (simp only [i64_w, i32_w]; rw [c14b0]) | skip)
                          have H' := Aside0.mk H
                          clear H
                          go_wp2
                          go_meet
                          case rel => exact ⟨_, (false), (by first | rfl | (simp; done) | (simp [bne_nil_isEmpty, beq_nil_isEmpty]; done) | (simp [*]; done)), H', ⟨by have := HK1.out; have := HJ3.out; first | omega | exact Nat.le_refl _⟩, ⟨by (with_reducible repeat (first | apply Kd.R_alloc | apply Kd.R_drewN | apply Kd.R_drew)); exact HO_5.out⟩, ⟨by (with_reducible repeat (first | apply Kd.R_alloc | apply Kd.R_drewN | apply Kd.R_drew)); exact HO_6.out⟩, ⟨by repeat (first | (with_reducible first | exact HB.out | apply below_alloc | apply pw_below_drewN | apply below_drew1) | exact HB.out)⟩⟩
                      case rest =>
                        clear HC13
                        try clear c1
                        try clear p1
                        try clear q1
                        try clear hx1
                        try clear c2
                        try clear c2b0
                        try clear c2b1
                        try clear p2
                        try clear c3
                        try clear c3b0
                        try clear c5
                        try clear c5b0
                        try clear c6
                        try clear c6b0
                        try clear p6
                        try clear p7
                        try clear q7
                        try clear hx7
                        try clear c8
                        try clear c8b0
                        try clear c8b1
                        try clear c9
                        try clear c9b0
                        try clear c9b1
                        try clear c10
                        try clear c10b0
                        try clear c10b1
                        try clear c11
                        try clear c11b0
                        try clear c11b1
                        try clear c12
                        try clear c12b0
                        try clear c12b1
                        try clear c14
                        try clear c14b0
                        try clear c14b1
                        try clear c16
                        try clear c16b0
                        try clear c17
                        try clear c17b0
                        try clear p18
                        try clear q18
                        try clear hx18
                        try clear p18
                        try clear p2
                        try clear p6
                        try clear p7
                        try clear q18
                        try clear q7
                        obtain ⟨kq, x56_12, rfl, HA, HJ12, HO_5, HO_6, HB⟩ := hcut
                        cases kq with
                        | zero => exact absurd HA.out (by simp [trystref08_Unfold.j3])
                        | succ kj12 =>
                          have H := HA.out
                          clear HA
                          simp only [trystref08_Unfold.j3] at H
                          have HC19 := Aside0.mk H
                          clear H
                          go_upto_if 56 with (fail)
                          go_cut [10] (fun v10 wc => ∃ (kq : Nat) (x10_18 : ByteArray), v10 = .string x10_18 ∧ Aside0 (trystref08_Unfold.j4 kq a0 x5_1 x6_1 (wrap64 (x7_1 + 1)) x9_3 x10_18 = some (r1, r2, r3)) ∧ Aside0 (kq ≤ kj12) ∧ Aside0 (Kd.R Kd.string 9 wc w.heap.size (fun _ => True) u5 x5_1) ∧ Aside0 (Kd.R (Kd.int .i64) 3 wc w.heap.size (fun _ => True) u6 x6_1) ∧ Aside0 (Below w.heap.size w wc))
                          case first =>
                            have H := HC19.out
                            clear HC19
                            by_cases c20 : x56_12 = true
                            · subst c20
                              have H1 : (if 0 ≤ (wrap64 ((p10_.size : Int) - 1)) then (if (wrap64 ((p10_.size : Int) - 1)) ≤ (p10_.size : Int) then (trystref08_Unfold.j4 kj12 a0 x5_1 x6_1 (wrap64 (x7_1 + 1)) x9_3 (p10_.extract 0 ((wrap64 ((p10_.size : Int) - 1)) : Int).toNat)) else (none)) else (none)) = some (r1, r2, r3) := by rw [if_pos rfl] at H; exact H
                              clear H
                              have H := H1
                              clear H1
                              obtain ⟨ji21, hji21⟩ : ∃ j_ : Int, (wrap64 ((p10_.size : Int) - 1)) = j_ := ⟨_, rfl⟩
                              replace H : (if 0 ≤ (ji21) then (if (ji21) ≤ (p10_.size : Int) then (trystref08_Unfold.j4 kj12 a0 x5_1 x6_1 (wrap64 (x7_1 + 1)) x9_3 (p10_.extract 0 ((ji21) : Int).toNat)) else (none)) else (none)) = some (r1, r2, r3) := by first | (rw [hji21] at H; exact H) | (simp only [hji21] at H ⊢; exact H)
                              have hji21w : (IntKind.i64.wrap ((p10_.size : Int) - 1)) = ji21 := (i64_w _).trans hji21
                              by_cases c22 : 0 ≤ (ji21)
                              · rw [if_pos c22] at H
                                have c22b0 := eq_true c22
                                have c22b1 : decide (0 ≤ (ji21)) = true := decide_eq_true c22
                                clear c22
                                by_cases c23 : (ji21) ≤ (p10_.size : Int)
                                · rw [if_pos c23] at H
                                  have c23b0 := eq_true c23
                                  have c23b1 : decide ((ji21) ≤ (p10_.size : Int)) = true := decide_eq_true c23
                                  clear c23
                                  have H' := Aside0.mk H
                                  clear H
                                  go_wp2
                                  go_meet
                                  case rel => exact ⟨_, (p10_.extract 0 ((ji21) : Int).toNat), (by first | rfl | (simp; done) | (simp only [← hji21] <;> (first | rfl | simp)) | (simp [*]; done)), H', ⟨by have := HK1.out; have := HJ3.out; have := HJ12.out; first | omega | exact Nat.le_refl _⟩, ⟨by (with_reducible repeat (first | apply Kd.R_alloc | apply Kd.R_drewN | apply Kd.R_drew)); exact HO_5.out⟩, ⟨by (with_reducible repeat (first | apply Kd.R_alloc | apply Kd.R_drewN | apply Kd.R_drew)); exact HO_6.out⟩, ⟨by repeat (first | (with_reducible first | exact HB.out | apply below_alloc | apply pw_below_drewN | apply below_drew1) | exact HB.out)⟩⟩
                                · rw [if_neg c23] at H
                                  exact absurd H (by simp)
                              · rw [if_neg c22] at H
                                exact absurd H (by simp)
                            · replace c20 := Bool.eq_false_iff.mpr c20
                              subst c20
                              have H1 : (trystref08_Unfold.j4 kj12 a0 x5_1 x6_1 (wrap64 (x7_1 + 1)) x9_3 p10_) = some (r1, r2, r3) := by rw [if_neg (show ¬ (false = true) by decide)] at H; exact H
                              clear H
                              have H := H1
                              clear H1
                              have H' := Aside0.mk H
                              clear H
                              go_wp2
                              go_meet
                              case rel => exact ⟨_, (p10_), (by first | rfl | (simp; done) | (simp [bne_nil_isEmpty, beq_nil_isEmpty]; done) | (simp [*]; done)), H', ⟨by have := HK1.out; have := HJ3.out; have := HJ12.out; first | omega | exact Nat.le_refl _⟩, ⟨by (with_reducible repeat (first | apply Kd.R_alloc | apply Kd.R_drewN | apply Kd.R_drew)); exact HO_5.out⟩, ⟨by (with_reducible repeat (first | apply Kd.R_alloc | apply Kd.R_drewN | apply Kd.R_drew)); exact HO_6.out⟩, ⟨by repeat (first | (with_reducible first | exact HB.out | apply below_alloc | apply pw_below_drewN | apply below_drew1) | exact HB.out)⟩⟩
                          case rest =>
                            clear HC19
                            try clear c1
                            try clear p1
                            try clear q1
                            try clear hx1
                            try clear c2
                            try clear c2b0
                            try clear c2b1
                            try clear p2
                            try clear c3
                            try clear c3b0
                            try clear c5
                            try clear c5b0
                            try clear c6
                            try clear c6b0
                            try clear p6
                            try clear p7
                            try clear q7
                            try clear hx7
                            try clear c8
                            try clear c8b0
                            try clear c8b1
                            try clear c9
                            try clear c9b0
                            try clear c9b1
                            try clear c10
                            try clear c10b0
                            try clear c10b1
                            try clear c11
                            try clear c11b0
                            try clear c11b1
                            try clear c12
                            try clear c12b0
                            try clear c12b1
                            try clear c14
                            try clear c14b0
                            try clear c14b1
                            try clear c16
                            try clear c16b0
                            try clear c17
                            try clear c17b0
                            try clear p18
                            try clear q18
                            try clear hx18
                            try clear c20
                            try clear c22
                            try clear c22b0
                            try clear c22b1
                            try clear c23
                            try clear c23b0
                            try clear c23b1
                            try clear p1
                            try clear p18
                            try clear p2
                            try clear p6
                            try clear p7
                            try clear q1
                            try clear q18
                            try clear q7
                            obtain ⟨kq, x10_18, rfl, HA, HJ18, HO_5, HO_6, HB⟩ := hcut
                            cases kq with
                            | zero => exact absurd HA.out (by simp [trystref08_Unfold.j4])
                            | succ kj18 =>
                              have H := HA.out
                              clear HA
                              simp only [trystref08_Unfold.j4] at H
                              have H' := Aside0.mk H
                              clear H
                              go_wp2
                              go_loopg [11, 66] kj18 (fun kq v11 v66 w' => ∃ (x11_5 : Bool) (x66_5 : Int), v11 = .bool x11_5 ∧ v66 = .int .i64 x66_5 ∧ Aside0 (trystref08_Unfold.l2 kq a0 x5_1 x6_1 (wrap64 (x7_1 + 1)) x9_3 x10_18 x11_5 (x10_18.size : Int) x66_5 = some (r1, r2, r3)) ∧ Aside0 (kq ≤ kj18) ∧ Aside0 (Kd.R Kd.string 9 w' w.heap.size (fun _ => True) u5 x5_1) ∧ Aside0 (Kd.R (Kd.int .i64) 3 w' w.heap.size (fun _ => True) u6 x6_1) ∧ Aside0 (Below w.heap.size w w'))
                              case atStart => exact ⟨((x10_18.toList == ([] : List UInt8))), (0), (by first | rfl | (simp; done) | (simp [bne_nil_isEmpty, beq_nil_isEmpty]; done) | (simp [*]; done)), (by first | rfl | (simp; done) | (simp [bne_nil_isEmpty, beq_nil_isEmpty]; done) | (simp [*]; done)), H', ⟨Nat.le_refl _⟩, ⟨by (with_reducible repeat (first | apply Kd.R_alloc | apply Kd.R_drewN | apply Kd.R_drew)); exact HO_5.out⟩, ⟨by (with_reducible repeat (first | apply Kd.R_alloc | apply Kd.R_drewN | apply Kd.R_drew)); exact HO_6.out⟩, ⟨by repeat (first | (with_reducible first | exact HB.out | apply below_alloc | apply pw_below_drewN | apply below_drew1) | exact HB.out)⟩⟩
                              case round =>
                                clear H'
                                try clear c1
                                try clear p1
                                try clear q1
                                try clear hx1
                                try clear c2
                                try clear c2b0
                                try clear c2b1
                                try clear p2
                                try clear c3
                                try clear c3b0
                                try clear c5
                                try clear c5b0
                                try clear c6
                                try clear c6b0
                                try clear p6
                                try clear p7
                                try clear q7
                                try clear hx7
                                try clear c8
                                try clear c8b0
                                try clear c8b1
                                try clear c9
                                try clear c9b0
                                try clear c9b1
                                try clear c10
                                try clear c10b0
                                try clear c10b1
                                try clear c11
                                try clear c11b0
                                try clear c11b1
                                try clear c12
                                try clear c12b0
                                try clear c12b1
                                try clear c14
                                try clear c14b0
                                try clear c14b1
                                try clear c16
                                try clear c16b0
                                try clear c17
                                try clear c17b0
                                try clear p18
                                try clear q18
                                try clear hx18
                                try clear c20
                                try clear c22
                                try clear c22b0
                                try clear c22b1
                                try clear c23
                                try clear c23b0
                                try clear c23b1
                                try clear p1
                                try clear p18
                                try clear p2
                                try clear p6
                                try clear p7
                                try clear q1
                                try clear q18
                                try clear q7
                                obtain ⟨x11_5, x66_5, rfl, rfl, HA, HK5, HO_5, HO_6, HB⟩ := hrel
                                cases gk with
                                | zero => exact absurd HA.out (by simp [trystref08_Unfold.l2])
                                | succ k5 =>
                                  have H := HA.out
                                  clear HA
                                  simp only [trystref08_Unfold.l2] at H
                                  by_cases c24 : x66_5 < (x10_18.size : Int)
                                  · rw [if_pos c24] at H
                                    have c24b0 : decide (x66_5 < (x10_18.size : Int)) = true := decide_eq_true c24
                                    clear c24
                                    by_cases c25 : x11_5 = true
                                    · subst c25
                                      have H1 : (trystref08_Unfold.l2 k5 a0 x5_1 x6_1 (wrap64 (x7_1 + 1)) x9_3 x10_18 true (x10_18.size : Int) (wrap64 (x66_5 + 1))) = some (r1, r2, r3) := by rw [if_pos rfl] at H; exact H
                                      clear H
                                      have H := H1
                                      clear H1
                                      have H' := Aside0.mk H
                                      clear H
                                      go_wp2
                                      go_roundg k5
                                      case measure => have := HK1.out; have := HJ3.out; have := HJ12.out; have := HJ18.out; have := HK5.out; omega
                                      case rel => exact ⟨(true), (wrap64 (x66_5 + 1)), (by first | rfl | (simp; done) | (simp [bne_nil_isEmpty, beq_nil_isEmpty]; done) | (simp [*]; done)), (by first | rfl | (simp; done) | (simp [bne_nil_isEmpty, beq_nil_isEmpty]; done) | (simp [*]; done)), H', ⟨by have := HK1.out; have := HJ3.out; have := HJ12.out; have := HJ18.out; have := HK5.out; omega⟩, ⟨by (with_reducible repeat (first | apply Kd.R_alloc | apply Kd.R_drewN | apply Kd.R_drew)); exact HO_5.out⟩, ⟨by (with_reducible repeat (first | apply Kd.R_alloc | apply Kd.R_drewN | apply Kd.R_drew)); exact HO_6.out⟩, ⟨by repeat (first | (with_reducible first | exact HB.out | apply below_alloc | apply pw_below_drewN | apply below_drew1) | exact HB.out)⟩⟩
                                    · replace c25 := Bool.eq_false_iff.mpr c25
                                      subst c25
                                      have H1 : (if 0 ≤ x66_5 then (if x66_5 < (x10_18.size : Int) then (trystref08_Unfold.l2 k5 a0 x5_1 x6_1 (wrap64 (x7_1 + 1)) x9_3 x10_18 ((bt x10_18 x66_5) == 13) (x10_18.size : Int) (wrap64 (x66_5 + 1))) else (none)) else (none)) = some (r1, r2, r3) := by rw [if_neg (show ¬ (false = true) by decide)] at H; exact H
                                      clear H
                                      have H := H1
                                      clear H1
                                      by_cases c26 : 0 ≤ x66_5
                                      · rw [if_pos c26] at H
                                        have c26b0 : decide (0 ≤ x66_5) = true := decide_eq_true c26
                                        clear c26
                                        by_cases c27 : x66_5 < (x10_18.size : Int)
                                        · rw [if_pos c27] at H
                                          have c27b0 : decide (x66_5 < (x10_18.size : Int)) = true := decide_eq_true c27
                                          clear c27
                                          have H' := Aside0.mk H
                                          clear H
                                          have p28 : 0 ≤ (x66_5 : Int) := of_decide_eq_true (by first | (with_reducible assumption) | assumption)
                                          have q28 : x66_5 < (x10_18.size : Int) := of_decide_eq_true (by first | (with_reducible assumption) | assumption)
                                          have hx28 := bt_at x10_18 x66_5
                                          replace p28 := eq_true p28
                                          replace q28 := eq_true q28
                                          go_wp2
                                          go_roundg k5
                                          case measure => have := HK1.out; have := HJ3.out; have := HJ12.out; have := HJ18.out; have := HK5.out; omega
                                          case rel => exact ⟨(((bt x10_18 x66_5) == 13)), (wrap64 (x66_5 + 1)), (by first | rfl | (simp; done) | (simp [bne_nil_isEmpty, beq_nil_isEmpty]; done) | (simp [*]; done)), (by first | rfl | (simp; done) | (simp [bne_nil_isEmpty, beq_nil_isEmpty]; done) | (simp [*]; done)), H', ⟨by have := HK1.out; have := HJ3.out; have := HJ12.out; have := HJ18.out; have := HK5.out; omega⟩, ⟨by (with_reducible repeat (first | apply Kd.R_alloc | apply Kd.R_drewN | apply Kd.R_drew)); exact HO_5.out⟩, ⟨by (with_reducible repeat (first | apply Kd.R_alloc | apply Kd.R_drewN | apply Kd.R_drew)); exact HO_6.out⟩, ⟨by repeat (first | (with_reducible first | exact HB.out | apply below_alloc | apply pw_below_drewN | apply below_drew1) | exact HB.out)⟩⟩
                                        · rw [if_neg c27] at H
                                          exact absurd H (by simp)
                                      · rw [if_neg c26] at H
                                        exact absurd H (by simp)
                                  · rw [if_neg c24] at H
                                    have c24b0 : decide (x66_5 < (x10_18.size : Int)) = false := decide_eq_false c24
                                    clear c24
                                    have HC29 := Aside0.mk H
                                    clear H
                                    go_upto_region 23 with (fail)
                                    go_cut [13] (fun v13 wc => ∃ (kq : Nat) (x13_28 : Bool), v13 = .bool x13_28 ∧ Aside0 (trystref08_Unfold.j6 kq a0 x5_1 x6_1 (wrap64 (x7_1 + 1)) x9_3 x10_18 x11_5 x13_28 = some (r1, r2, r3)) ∧ Aside0 (kq ≤ k5) ∧ Aside0 (Kd.R Kd.string 9 wc w.heap.size (fun _ => True) u5 x5_1) ∧ Aside0 (Kd.R (Kd.int .i64) 3 wc w.heap.size (fun _ => True) u6 x6_1) ∧ Aside0 (Below w.heap.size w wc))
                                    case first =>
                                      have H := HC29.out
                                      clear HC29
                                      by_cases c30 : x11_5 = true
                                      · subst c30
                                        have H1 : (trystref08_Unfold.j6 k5 a0 x5_1 x6_1 (wrap64 (x7_1 + 1)) x9_3 x10_18 true false) = some (r1, r2, r3) := by rw [if_pos rfl] at H; exact H
                                        clear H
                                        have H := H1
                                        clear H1
                                        have H' := Aside0.mk H
                                        clear H
                                        go_wp2
                                        go_meet
                                        case rel => exact ⟨_, (false), (by first | rfl | (simp; done) | (simp [bne_nil_isEmpty, beq_nil_isEmpty]; done) | (simp [*]; done)), H', ⟨by have := HK1.out; have := HJ3.out; have := HJ12.out; have := HJ18.out; have := HK5.out; first | omega | exact Nat.le_refl _⟩, ⟨by (with_reducible repeat (first | apply Kd.R_alloc | apply Kd.R_drewN | apply Kd.R_drew)); exact HO_5.out⟩, ⟨by (with_reducible repeat (first | apply Kd.R_alloc | apply Kd.R_drewN | apply Kd.R_drew)); exact HO_6.out⟩, ⟨by repeat (first | (with_reducible first | exact HB.out | apply below_alloc | apply pw_below_drewN | apply below_drew1) | exact HB.out)⟩⟩
                                      · replace c30 := Bool.eq_false_iff.mpr c30
                                        subst c30
                                        have H1 : (if 0 < (x10_18.size : Int) then (if (bt x10_18 0) = 32 then (trystref08_Unfold.j6 k5 a0 x5_1 x6_1 (wrap64 (x7_1 + 1)) x9_3 x10_18 false true) else (trystref08_Unfold.j6 k5 a0 x5_1 x6_1 (wrap64 (x7_1 + 1)) x9_3 x10_18 false ((bt x10_18 0) == 9))) else (none)) = some (r1, r2, r3) := by rw [if_neg (show ¬ (false = true) by decide)] at H; exact H
                                        clear H
                                        have H := H1
                                        clear H1
                                        by_cases c31 : 0 < (x10_18.size : Int)
                                        · rw [if_pos c31] at H
                                          have c31b0 : decide (0 < (x10_18.size : Int)) = true := decide_eq_true c31
                                          have c31b1 : decide (0 < x10_18.size) = true := decide_eq_true (by omega)
                                          clear c31
                                          (first | rw [c31b0] | (simp only [i64_w, i32_w]; rw [c31b0]) | skip)
                                          by_cases c33 : (bt x10_18 0) = 32
                                          · rw [if_pos c33] at H
                                            have c33b0 : ((bt x10_18 0) == 32) = true := beq_iff_eq.mpr c33
                                            have c33b1 : ((bt x10_18 0) != 32) = false := bne_eq_false_iff_eq.mpr c33
                                            clear c33
                                            have H' := Aside0.mk H
                                            clear H
                                            have p32 : 0 ≤ (0 : Int) := (by omega)
                                            have q32 : 0 < x10_18.size := (by have : (0 : Int) < (x10_18.size : Int) := of_decide_eq_true (by first | (with_reducible assumption) | assumption); omega)
                                            have hx32 : ∀ h : 0 < x10_18.size, ((x10_18[0]'h).toNat : Int) = bt x10_18 0 := bt_at x10_18 0
                                            clear p32
                                            have qi32 : (0 < (x10_18.size : Int)) = True := eq_true (of_decide_eq_true (by first | (with_reducible assumption) | assumption))
                                            replace q32 := eq_true q32
                                            go_wp2
                                            go_meet
                                            case rel => exact ⟨_, (true), (by first | rfl | (simp; done) | (simp [bne_nil_isEmpty, beq_nil_isEmpty]; done) | (simp [*]; done)), H', ⟨by have := HK1.out; have := HJ3.out; have := HJ12.out; have := HJ18.out; have := HK5.out; first | omega | exact Nat.le_refl _⟩, ⟨by (with_reducible repeat (first | apply Kd.R_alloc | apply Kd.R_drewN | apply Kd.R_drew)); exact HO_5.out⟩, ⟨by (with_reducible repeat (first | apply Kd.R_alloc | apply Kd.R_drewN | apply Kd.R_drew)); exact HO_6.out⟩, ⟨by repeat (first | (with_reducible first | exact HB.out | apply below_alloc | apply pw_below_drewN | apply below_drew1) | exact HB.out)⟩⟩
                                          · rw [if_neg c33] at H
                                            have c33b0 : ((bt x10_18 0) == 32) = false := beq_eq_false_iff_ne.mpr c33
                                            have c33b1 : ((bt x10_18 0) != 32) = true := bne_iff_ne.mpr c33
                                            have H' := Aside0.mk H
                                            clear H
                                            have p32 : 0 ≤ (0 : Int) := (by omega)
                                            have q32 : 0 < x10_18.size := (by have : (0 : Int) < (x10_18.size : Int) := of_decide_eq_true (by first | (with_reducible assumption) | assumption); omega)
                                            have hx32 : ∀ h : 0 < x10_18.size, ((x10_18[0]'h).toNat : Int) = bt x10_18 0 := bt_at x10_18 0
                                            clear p32
                                            have qi32 : (0 < (x10_18.size : Int)) = True := eq_true (of_decide_eq_true (by first | (with_reducible assumption) | assumption))
                                            replace q32 := eq_true q32
                                            have p34 : 0 ≤ (0 : Int) := (by omega)
                                            have q34 : 0 < x10_18.size := (by have : (0 : Int) < (x10_18.size : Int) := of_decide_eq_true (by first | (with_reducible assumption) | assumption); omega)
                                            have hx34 : ∀ h : 0 < x10_18.size, ((x10_18[0]'h).toNat : Int) = bt x10_18 0 := bt_at x10_18 0
                                            clear p34
                                            have qi34 : (0 < (x10_18.size : Int)) = True := eq_true (of_decide_eq_true (by first | (with_reducible assumption) | assumption))
                                            replace q34 := eq_true q34
                                            go_wp2
                                            go_meet
                                            case rel => exact ⟨_, (((bt x10_18 0) == 9)), (by first | rfl | (simp; done) | (simp [bne_nil_isEmpty, beq_nil_isEmpty]; done) | (simp [*]; done)), H', ⟨by have := HK1.out; have := HJ3.out; have := HJ12.out; have := HJ18.out; have := HK5.out; first | omega | exact Nat.le_refl _⟩, ⟨by (with_reducible repeat (first | apply Kd.R_alloc | apply Kd.R_drewN | apply Kd.R_drew)); exact HO_5.out⟩, ⟨by (with_reducible repeat (first | apply Kd.R_alloc | apply Kd.R_drewN | apply Kd.R_drew)); exact HO_6.out⟩, ⟨by repeat (first | (with_reducible first | exact HB.out | apply below_alloc | apply pw_below_drewN | apply below_drew1) | exact HB.out)⟩⟩
                                        · rw [if_neg c31] at H
                                          exact absurd H (by simp)
                                    case rest =>
                                      clear HC29
                                      try clear c1
                                      try clear p1
                                      try clear q1
                                      try clear hx1
                                      try clear c2
                                      try clear c2b0
                                      try clear c2b1
                                      try clear p2
                                      try clear q2
                                      try clear hx2
                                      try clear c3
                                      try clear c3b0
                                      try clear p3
                                      try clear q3
                                      try clear hx3
                                      try clear qi3
                                      try clear c5
                                      try clear c5b0
                                      try clear c6
                                      try clear c6b0
                                      try clear p6
                                      try clear p7
                                      try clear q7
                                      try clear hx7
                                      try clear c8
                                      try clear c8b0
                                      try clear c8b1
                                      try clear c9
                                      try clear c9b0
                                      try clear c9b1
                                      try clear c10
                                      try clear c10b0
                                      try clear c10b1
                                      try clear c11
                                      try clear c11b0
                                      try clear c11b1
                                      try clear c12
                                      try clear c12b0
                                      try clear c12b1
                                      try clear c14
                                      try clear c14b0
                                      try clear c14b1
                                      try clear c16
                                      try clear c16b0
                                      try clear c17
                                      try clear c17b0
                                      try clear p18
                                      try clear q18
                                      try clear hx18
                                      try clear c20
                                      try clear c22
                                      try clear c22b0
                                      try clear c22b1
                                      try clear c23
                                      try clear c23b0
                                      try clear c23b1
                                      try clear c24
                                      try clear c24b0
                                      try clear c25
                                      try clear c26
                                      try clear c26b0
                                      try clear c27
                                      try clear c27b0
                                      try clear p28
                                      try clear q28
                                      try clear hx28
                                      try clear c30
                                      try clear c31
                                      try clear c31b0
                                      try clear c31b1
                                      try clear p32
                                      try clear q32
                                      try clear hx32
                                      try clear qi32
                                      try clear c33
                                      try clear c33b0
                                      try clear c33b1
                                      try clear p34
                                      try clear q34
                                      try clear hx34
                                      try clear qi34
                                      try clear p1
                                      try clear p18
                                      try clear p2
                                      try clear p28
                                      try clear p32
                                      try clear p34
                                      try clear p6
                                      try clear p7
                                      try clear q1
                                      try clear q18
                                      try clear q28
                                      try clear q32
                                      try clear q34
                                      try clear q7
                                      obtain ⟨kq, x13_28, rfl, HA, HJ28, HO_5, HO_6, HB⟩ := hcut
                                      cases kq with
                                      | zero => exact absurd HA.out (by simp [trystref08_Unfold.j6])
                                      | succ kj28 =>
                                        have H := HA.out
                                        clear HA
                                        simp only [trystref08_Unfold.j6] at H
                                        have HC35 := Aside0.mk H
                                        clear H
                                        go_upto_region 24 with (fail)
                                        go_cut [97] (fun v97 wc => ∃ (kq : Nat) (x97_34 : Bool), v97 = .bool x97_34 ∧ Aside0 (trystref08_Unfold.j7 kq a0 x5_1 x6_1 (wrap64 (x7_1 + 1)) x9_3 x10_18 x13_28 x97_34 = some (r1, r2, r3)) ∧ Aside0 (kq ≤ kj28) ∧ Aside0 (Kd.R Kd.string 9 wc w.heap.size (fun _ => True) u5 x5_1) ∧ Aside0 (Kd.R (Kd.int .i64) 3 wc w.heap.size (fun _ => True) u6 x6_1) ∧ Aside0 (Below w.heap.size w wc))
                                        case first =>
                                          have H := HC35.out
                                          clear HC35
                                          by_cases c36 : x11_5 = true
                                          · subst c36
                                            have H1 : (trystref08_Unfold.j7 kj28 a0 x5_1 x6_1 (wrap64 (x7_1 + 1)) x9_3 x10_18 x13_28 true) = some (r1, r2, r3) := by rw [if_pos rfl] at H; exact H
                                            clear H
                                            have H := H1
                                            clear H1
                                            have H' := Aside0.mk H
                                            clear H
                                            go_wp2
                                            go_meet
                                            case rel => exact ⟨_, (true), (by first | rfl | (simp; done) | (simp [bne_nil_isEmpty, beq_nil_isEmpty]; done) | (simp [*]; done)), H', ⟨by have := HK1.out; have := HJ3.out; have := HJ12.out; have := HJ18.out; have := HK5.out; have := HJ28.out; first | omega | exact Nat.le_refl _⟩, ⟨by (with_reducible repeat (first | apply Kd.R_alloc | apply Kd.R_drewN | apply Kd.R_drew)); exact HO_5.out⟩, ⟨by (with_reducible repeat (first | apply Kd.R_alloc | apply Kd.R_drewN | apply Kd.R_drew)); exact HO_6.out⟩, ⟨by repeat (first | (with_reducible first | exact HB.out | apply below_alloc | apply pw_below_drewN | apply below_drew1) | exact HB.out)⟩⟩
                                          · replace c36 := Bool.eq_false_iff.mpr c36
                                            subst c36
                                            have H1 : (if x13_28 = true then (trystref08_Unfold.j7 kj28 a0 x5_1 x6_1 (wrap64 (x7_1 + 1)) x9_3 x10_18 x13_28 ((x5_1.length : Int) == 0)) else (trystref08_Unfold.j7 kj28 a0 x5_1 x6_1 (wrap64 (x7_1 + 1)) x9_3 x10_18 x13_28 false)) = some (r1, r2, r3) := by rw [if_neg (show ¬ (false = true) by decide)] at H; exact H
                                            clear H
                                            have H := H1
                                            clear H1
                                            by_cases c37 : x13_28 = true
                                            · subst c37
                                              have H1 : (trystref08_Unfold.j7 kj28 a0 x5_1 x6_1 (wrap64 (x7_1 + 1)) x9_3 x10_18 true ((x5_1.length : Int) == 0)) = some (r1, r2, r3) := by rw [if_pos rfl] at H; exact H
                                              clear H
                                              have H := H1
                                              clear H1
                                              have H' := Aside0.mk H
                                              clear H
                                              obtain ⟨Ao38, co38, eo38⟩ := Kd.R_slice HO_5.out
                                              subst eo38
                                              go_wp2
                                              go_meet
                                              case rel => exact ⟨_, (((x5_1.length : Int) == 0)), (by first | rfl | (simp; done) | (simp [bne_nil_isEmpty, beq_nil_isEmpty]; done) | (simp [*]; done)), H', ⟨by have := HK1.out; have := HJ3.out; have := HJ12.out; have := HJ18.out; have := HK5.out; have := HJ28.out; first | omega | exact Nat.le_refl _⟩, ⟨by (with_reducible repeat (first | apply Kd.R_alloc | apply Kd.R_drewN | apply Kd.R_drew)); exact HO_5.out⟩, ⟨by (with_reducible repeat (first | apply Kd.R_alloc | apply Kd.R_drewN | apply Kd.R_drew)); exact HO_6.out⟩, ⟨by repeat (first | (with_reducible first | exact HB.out | apply below_alloc | apply pw_below_drewN | apply below_drew1) | exact HB.out)⟩⟩
                                            · replace c37 := Bool.eq_false_iff.mpr c37
                                              subst c37
                                              have H1 : (trystref08_Unfold.j7 kj28 a0 x5_1 x6_1 (wrap64 (x7_1 + 1)) x9_3 x10_18 false false) = some (r1, r2, r3) := by rw [if_neg (show ¬ (false = true) by decide)] at H; exact H
                                              clear H
                                              have H := H1
                                              clear H1
                                              have H' := Aside0.mk H
                                              clear H
                                              go_wp2
                                              go_meet
                                              case rel => exact ⟨_, (false), (by first | rfl | (simp; done) | (simp [bne_nil_isEmpty, beq_nil_isEmpty]; done) | (simp [*]; done)), H', ⟨by have := HK1.out; have := HJ3.out; have := HJ12.out; have := HJ18.out; have := HK5.out; have := HJ28.out; first | omega | exact Nat.le_refl _⟩, ⟨by (with_reducible repeat (first | apply Kd.R_alloc | apply Kd.R_drewN | apply Kd.R_drew)); exact HO_5.out⟩, ⟨by (with_reducible repeat (first | apply Kd.R_alloc | apply Kd.R_drewN | apply Kd.R_drew)); exact HO_6.out⟩, ⟨by repeat (first | (with_reducible first | exact HB.out | apply below_alloc | apply pw_below_drewN | apply below_drew1) | exact HB.out)⟩⟩
                                        case rest =>
                                          clear HC35
                                          try clear c1
                                          try clear p1
                                          try clear q1
                                          try clear hx1
                                          try clear c2
                                          try clear c2b0
                                          try clear c2b1
                                          try clear p2
                                          try clear q2
                                          try clear hx2
                                          try clear c3
                                          try clear c3b0
                                          try clear p3
                                          try clear q3
                                          try clear hx3
                                          try clear qi3
                                          try clear c5
                                          try clear c5b0
                                          try clear c6
                                          try clear c6b0
                                          try clear p6
                                          try clear p7
                                          try clear q7
                                          try clear hx7
                                          try clear c8
                                          try clear c8b0
                                          try clear c8b1
                                          try clear c9
                                          try clear c9b0
                                          try clear c9b1
                                          try clear c10
                                          try clear c10b0
                                          try clear c10b1
                                          try clear c11
                                          try clear c11b0
                                          try clear c11b1
                                          try clear c12
                                          try clear c12b0
                                          try clear c12b1
                                          try clear c14
                                          try clear c14b0
                                          try clear c14b1
                                          try clear c16
                                          try clear c16b0
                                          try clear c17
                                          try clear c17b0
                                          try clear p18
                                          try clear q18
                                          try clear hx18
                                          try clear c20
                                          try clear c22
                                          try clear c22b0
                                          try clear c22b1
                                          try clear c23
                                          try clear c23b0
                                          try clear c23b1
                                          try clear c24
                                          try clear c24b0
                                          try clear c25
                                          try clear c26
                                          try clear c26b0
                                          try clear c27
                                          try clear c27b0
                                          try clear p28
                                          try clear q28
                                          try clear hx28
                                          try clear c30
                                          try clear c31
                                          try clear c31b0
                                          try clear c31b1
                                          try clear p32
                                          try clear q32
                                          try clear hx32
                                          try clear qi32
                                          try clear c33
                                          try clear c33b0
                                          try clear c33b1
                                          try clear p34
                                          try clear q34
                                          try clear hx34
                                          try clear qi34
                                          try clear c36
                                          try clear c37
                                          try clear p1
                                          try clear p18
                                          try clear p2
                                          try clear p28
                                          try clear p3
                                          try clear p32
                                          try clear p34
                                          try clear p6
                                          try clear p7
                                          try clear q1
                                          try clear q18
                                          try clear q2
                                          try clear q28
                                          try clear q3
                                          try clear q32
                                          try clear q34
                                          try clear q7
                                          obtain ⟨kq, x97_34, rfl, HA, HJ34, HO_5, HO_6, HB⟩ := hcut
                                          cases kq with
                                          | zero => exact absurd HA.out (by simp [trystref08_Unfold.j7])
                                          | succ kj34 =>
                                            have H := HA.out
                                            clear HA
                                            simp only [trystref08_Unfold.j7] at H
                                            by_cases c39 : x97_34 = true
                                            · subst c39
                                              have H1 : (some (([] : List ByteArray), (wrap64 (x7_1 + 1)), 5)) = some (r1, r2, r3) := by rw [if_pos rfl] at H; exact H
                                              clear H
                                              have H := H1
                                              clear H1
                                              simp only [Option.some.injEq, Prod.mk.injEq] at H
                                              obtain ⟨rfl, rfl, rfl⟩ := H
                                              go_wp2
                                              go_ret3
                                              exact ⟨_, by first | rfl | (simp [errW_none, errW_some] <;> rfl) | (simp [*, errW_none, errW_some] <;> rfl), by first | exact Kd.R_nil _ _ _ _ _ | exact Kd.N_nil _ _ _ _ _ | exact Kd.V_nil _ _ _ _ _ | exact Kd.Q_nil _ _ _ _ _ | exact Kd.S_nil _ _ _ _ _, by repeat (first | (with_reducible first | exact HB.out | apply below_alloc | apply pw_below_drewN | apply below_drew1) | exact HB.out)⟩
                                            · replace c39 := Bool.eq_false_iff.mpr c39
                                              subst c39
                                              have H1 : (if x13_28 = true then (if 0 ≤ (wrap64 ((x5_1.length : Int) - 1)) then (if (wrap64 ((x5_1.length : Int) - 1)) < (x5_1.length : Int) then (if 1 ≤ (x10_18.size : Int) then (if (rdOf ByteArray.empty x5_1 (wrap64 ((x5_1.length : Int) - 1))).size + (x10_18.extract 1 x10_18.size).size ≤ 9223372036854775807 then (trystref08_Unfold.l0 kj34 a0 (x5_1.set ((wrap64 ((x5_1.length : Int) - 1)) : Int).toNat ((rdOf ByteArray.empty x5_1 (wrap64 ((x5_1.length : Int) - 1))) ++ (x10_18.extract 1 x10_18.size))) x6_1 (wrap64 (x7_1 + 1)) (wrap64 (x9_3 + 1))) else (none)) else (none)) else (none)) else (none)) else (if x5_1.length < 8796093022208 then (if x6_1.length < 17592186044416 then (trystref08_Unfold.l0 kj34 a0 (x5_1 ++ [x10_18]) (x6_1 ++ [(wrap64 (x7_1 + 1))]) (wrap64 (x7_1 + 1)) (wrap64 (x9_3 + 1))) else (none)) else (none))) = some (r1, r2, r3) := by rw [if_neg (show ¬ (false = true) by decide)] at H; exact H
                                              clear H
                                              have H := H1
                                              clear H1
                                              by_cases c40 : x13_28 = true
                                              · subst c40
                                                have H1 : (if 0 ≤ (wrap64 ((x5_1.length : Int) - 1)) then (if (wrap64 ((x5_1.length : Int) - 1)) < (x5_1.length : Int) then (if 1 ≤ (x10_18.size : Int) then (if (rdOf ByteArray.empty x5_1 (wrap64 ((x5_1.length : Int) - 1))).size + (x10_18.extract 1 x10_18.size).size ≤ 9223372036854775807 then (trystref08_Unfold.l0 kj34 a0 (x5_1.set ((wrap64 ((x5_1.length : Int) - 1)) : Int).toNat ((rdOf ByteArray.empty x5_1 (wrap64 ((x5_1.length : Int) - 1))) ++ (x10_18.extract 1 x10_18.size))) x6_1 (wrap64 (x7_1 + 1)) (wrap64 (x9_3 + 1))) else (none)) else (none)) else (none)) else (none)) = some (r1, r2, r3) := by rw [if_pos rfl] at H; exact H
                                                clear H
                                                have H := H1
                                                clear H1
                                                obtain ⟨ji41, hji41⟩ : ∃ j_ : Int, (wrap64 ((x5_1.length : Int) - 1)) = j_ := ⟨_, rfl⟩
                                                replace H : (if 0 ≤ (ji41) then (if (ji41) < (x5_1.length : Int) then (if 1 ≤ (x10_18.size : Int) then (if (rdOf ByteArray.empty x5_1 (ji41)).size + (x10_18.extract 1 x10_18.size).size ≤ 9223372036854775807 then (trystref08_Unfold.l0 kj34 a0 (x5_1.set ((ji41) : Int).toNat ((rdOf ByteArray.empty x5_1 (ji41)) ++ (x10_18.extract 1 x10_18.size))) x6_1 (wrap64 (x7_1 + 1)) (wrap64 (x9_3 + 1))) else (none)) else (none)) else (none)) else (none)) = some (r1, r2, r3) := by first | (rw [hji41] at H; exact H) | (simp only [hji41] at H ⊢; exact H)
                                                have hji41w : (IntKind.i64.wrap ((x5_1.length : Int) - 1)) = ji41 := (i64_w _).trans hji41
                                                by_cases c42 : 0 ≤ (ji41)
                                                · rw [if_pos c42] at H
                                                  have c42b0 : decide (0 ≤ (ji41)) = true := decide_eq_true c42
                                                  clear c42
                                                  by_cases c43 : (ji41) < (x5_1.length : Int)
                                                  · rw [if_pos c43] at H
                                                    have c43b0 : decide ((ji41) < (x5_1.length : Int)) = true := decide_eq_true c43
                                                    clear c43
                                                    by_cases c44 : 1 ≤ (x10_18.size : Int)
                                                    · rw [if_pos c44] at H
                                                      have c44b0 := eq_true c44
                                                      have c44b1 : decide (1 ≤ (x10_18.size : Int)) = true := decide_eq_true c44
                                                      clear c44
                                                      by_cases c45 : (rdOf ByteArray.empty x5_1 (ji41)).size + (x10_18.extract 1 x10_18.size).size ≤ 9223372036854775807
                                                      · rw [if_pos c45] at H
                                                        have c45b0 := eq_true c45
                                                        have c45b1 : decide ((rdOf ByteArray.empty x5_1 (ji41)).size + (x10_18.extract 1 x10_18.size).size ≤ 9223372036854775807) = true := decide_eq_true c45
                                                        try have c45b2 : (9223372036854775807 < (rdOf ByteArray.empty x5_1 (ji41)).size + (x10_18.extract 1 x10_18.size).size) = False := eq_false (Nat.not_lt.2 c45)
                                                        have c45b3 : (9223372036854775807 < (rdOf ByteArray.empty x5_1 (ji41)).size + (x10_18.size - 1)) = False := by
                                                          have h_ : (x10_18.extract 1 x10_18.size).size = x10_18.size - 1 := by rw [ByteArray.size_extract, Nat.min_self]
                                                          rw [← h_]; exact eq_false (Nat.not_lt.2 c45)
                                                        obtain ⟨y134, hy134⟩ : ∃ y_ : List ByteArray, y_ = (x5_1.set ((ji41) : Int).toNat ((rdOf ByteArray.empty x5_1 (ji41)) ++ (x10_18.extract 1 x10_18.size))) := ⟨_, rfl⟩
                                                        replace H : (trystref08_Unfold.l0 kj34 a0 y134 x6_1 (wrap64 (x7_1 + 1)) (wrap64 (x9_3 + 1))) = some (r1, r2, r3) := by first | (rw [hy134]; with_reducible exact H) | (have H2_ := (Option.bind_some _ _).symm.trans H; rw [hy134]; with_reducible exact H2_) | (have H2_ := (Option.bind_some _ _).symm.trans H; with_reducible exact H2_) | with_reducible exact H | (rw [hy134]; exact H) | exact H
                                                        have Ny134 := Aside0.mk hy134
                                                        clear hy134
                                                        have H' := Aside0.mk H
                                                        clear H
                                                        try go_wp2
                                                        have n0_ := Aside0.mk (Kd.R_drew HO_5.out)
                                                        have n1_ := Aside0.mk (Kd.R_drew HO_6.out)
                                                        have n2_ := Aside0.mk (below_drew1 HB.out)
                                                        clear HO_5
                                                        clear HO_6
                                                        clear HB
                                                        have HO_5 := n0_
                                                        have HO_6 := n1_
                                                        have HB := n2_
                                                        clear n0_ n1_ n2_
                                                        obtain ⟨Ao48, co48, eo48⟩ := Kd.R_slice HO_5.out
                                                        (first | subst eo48 | (injection eo48 with f1_ f2_ f3_; have f4_ := f1_.symm; have f5_ := f3_.symm; clear f1_ f2_ f3_; subst f4_; subst f5_))
                                                        have p133 : 0 ≤ ((ji41) : Int) := of_decide_eq_true (by first | (with_reducible assumption) | assumption)
                                                        have q133 : (ji41) < (x5_1.length : Int) := of_decide_eq_true (by first | (with_reducible assumption) | assumption)
                                                        obtain ⟨ad133, e133, hx133_0⟩ := Kd.at_string (Kd.R_reads' HO_5.out).2.2 (ji41) p133 q133
                                                        cases e133
                                                        replace p133 := eq_true p133
                                                        replace q133 := eq_true q133
                                                        have p46 : 0 ≤ ((ji41) : Int) := of_decide_eq_true (by first | (with_reducible assumption) | assumption)
                                                        have q46 : ((ji41) : Int) < ((x5_1.length : Int) : Int) := of_decide_eq_true (by first | (with_reducible assumption) | assumption)
                                                        obtain ⟨go46, co46, eo46, gb46, gl46, cl46, HG46⟩ := Kd.R_form HO_5.out (by omega)
                                                        (first | cases eo46 | (injection eo46 with ea_ en_ ec_; (first | subst ea_ | (injection ea_ with ea_; subst ea_)); subst ec_; clear en_))
                                                        have GB46 := Aside0.mk gb46
                                                        have GG46 := Aside0.mk HG46
                                                        clear gb46 gl46 HG46
                                                        (first | simp only [add_plain] at hx133_0 | skip)
                                                        obtain ⟨hx46_0, hf46_0⟩ := Kd.R_celln (⟨#[]⟩ : ByteArray) HO_5.out ((ji41) : Int) p46 q46
                                                        replace p46 := eq_true p46
                                                        replace q46 := eq_true q46
                                                        have HP49 := Kd.R_putn HO_5.out ((ji41) : Int) ((rdOf ByteArray.empty x5_1 (ji41)) ++ (x10_18.extract 1 x10_18.size))
                                                        rw [← Ny134.out] at HP49
                                                        have HQ49 := Aside0.mk HP49
                                                        clear HP49
                                                        refine start_ (n := 15) (S := fun w' => w'.cell? ⟨go46, ((ji41)).toNat, none⟩ = some (.string (rdOf ByteArray.empty x5_1 (ji41)))) (ds := [14]) #[false, false, false, false, false, false, false, false, false, false, false, false, false, false, false] (by kernel_rfl) rfl rfl (hx133_0) (fun hHeld => ?_); refine with_tabW trystref08_Unfold.tab27 trystref08_Unfold.bits27 (fun HT_ HW_ => ?_)
                                                        generalize wc.drew = w47 at HO_5 HO_6 HB GG46 HQ49 hf46_0 hx133_0 hx46_0 hHeld ⊢
                                                        refine pure_ (i := 0) (N := some 100) (v := ?_) (a' := ?_) #[true, false, false, false, false, false, false, false, false, false, false, false, false, false, false] rfl rfl (any_of HT_.out (by kernel_rfl)) (fun _ _ _ h => h) (Or.inl ⟨by rfl, ?_⟩) ?_ ?_
                                                        rotate_left
                                                        · intro w'
                                                          go_simp
                                                          with_reducible rfl
                                                        rotate_left
                                                        · simp only [Act.put, List.setIfInBounds_toArray, List.set_cons_zero, List.set_cons_succ, i64_w, i32_w]
                                                          rfl
                                                        refine pure_ (i := 1) (N := some 101) (v := ?_) (a' := ?_) #[true, true, false, false, false, false, false, false, false, false, false, false, false, false, false] rfl rfl (any_of HT_.out (by kernel_rfl)) (fun _ _ _ h => h) (Or.inl ⟨by rfl, ?_⟩) ?_ ?_
                                                        rotate_left
                                                        · intro w'
                                                          go_simp
                                                          with_reducible rfl
                                                        rotate_left
                                                        · simp only [Act.put, List.setIfInBounds_toArray, List.set_cons_zero, List.set_cons_succ, i64_w, i32_w]
                                                          rfl
                                                        refine pure_ (i := 2) (N := some 102) (v := ?_) (a' := ?_) #[true, true, true, false, false, false, false, false, false, false, false, false, false, false, false] rfl rfl (any_of HT_.out (by kernel_rfl)) (fun _ _ _ h => h) (Or.inl ⟨by rfl, ?_⟩) ?_ ?_
                                                        rotate_left
                                                        · intro w'
                                                          go_simp
                                                          with_reducible rfl
                                                        rotate_left
                                                        · simp only [Act.put, List.setIfInBounds_toArray, List.set_cons_zero, List.set_cons_succ, i64_w, i32_w]
                                                          rfl
                                                        refine pure_ (i := 3) (N := some 103) (v := ?_) (a' := ?_) #[true, true, true, true, false, false, false, false, false, false, false, false, false, false, false] rfl rfl (any_of HT_.out (by kernel_rfl)) (fun _ _ _ h => h) (Or.inl ⟨by rfl, ?_⟩) ?_ ?_
                                                        rotate_left
                                                        · intro w'
                                                          go_simp
                                                          with_reducible rfl
                                                        rotate_left
                                                        · simp only [Act.put, List.setIfInBounds_toArray, List.set_cons_zero, List.set_cons_succ, i64_w, i32_w]
                                                          rfl
                                                        refine pure_ (i := 4) (N := some 104) (v := ?_) (a' := ?_) #[true, true, true, true, true, false, false, false, false, false, false, false, false, false, false] rfl rfl (any_of HT_.out (by kernel_rfl)) (fun _ _ _ h => h) (Or.inl ⟨by rfl, ?_⟩) ?_ ?_
                                                        rotate_left
                                                        · intro w'
                                                          go_simp
                                                          with_reducible rfl
                                                        rotate_left
                                                        · simp only [Act.put, List.setIfInBounds_toArray, List.set_cons_zero, List.set_cons_succ, i64_w, i32_w]
                                                          rfl
                                                        refine pure_ (i := 5) (N := some 105) (v := ?_) (a' := ?_) #[true, true, true, true, true, true, false, false, false, false, false, false, false, false, false] rfl rfl (any_of HT_.out (by kernel_rfl)) (fun _ _ _ h => h) (Or.inl ⟨by rfl, ?_⟩) ?_ ?_
                                                        rotate_left
                                                        · intro w'
                                                          go_simp
                                                          with_reducible rfl
                                                        rotate_left
                                                        · simp only [Act.put, List.setIfInBounds_toArray, List.set_cons_zero, List.set_cons_succ, i64_w, i32_w]
                                                          rfl
                                                        refine pure_ (i := 6) (N := some 106) (v := ?_) (a' := ?_) #[true, true, true, true, true, true, true, false, false, false, false, false, false, false, false] rfl rfl (any_of HT_.out (by kernel_rfl)) (fun _ _ _ h => h) (Or.inl ⟨by rfl, ?_⟩) ?_ ?_
                                                        rotate_left
                                                        · intro w'
                                                          go_simp
                                                          with_reducible rfl
                                                        rotate_left
                                                        · simp only [Act.put, List.setIfInBounds_toArray, List.set_cons_zero, List.set_cons_succ, i64_w, i32_w]
                                                          rfl
                                                        refine pure_ (i := 7) (N := some 107) (v := ?_) (a' := ?_) #[true, true, true, true, true, true, true, true, false, false, false, false, false, false, false] rfl rfl (any_of HT_.out (by kernel_rfl)) (fun _ _ _ h => h) (Or.inl ⟨by rfl, ?_⟩) ?_ ?_
                                                        rotate_left
                                                        · intro w'
                                                          go_simp
                                                          with_reducible rfl
                                                        rotate_left
                                                        · simp only [Act.put, List.setIfInBounds_toArray, List.set_cons_zero, List.set_cons_succ, i64_w, i32_w]
                                                          rfl
                                                        refine pure_ (i := 8) (N := some 108) (v := ?_) (a' := ?_) #[true, true, true, true, true, true, true, true, true, false, false, false, false, false, false] rfl rfl (any_of HT_.out (by kernel_rfl)) (fun _ _ _ h => h) (Or.inl ⟨by rfl, ?_⟩) ?_ ?_
                                                        rotate_left
                                                        · intro w'
                                                          go_simp
                                                          with_reducible rfl
                                                        rotate_left
                                                        · simp only [Act.put, List.setIfInBounds_toArray, List.set_cons_zero, List.set_cons_succ, i64_w, i32_w]
                                                          rfl
                                                        refine pure_ (i := 10) (N := some 110) (v := ?_) (a' := ?_) #[true, true, true, true, true, true, true, true, true, false, true, false, false, false, false] rfl rfl (any_of HT_.out (by kernel_rfl)) (fun _ _ _ h => h) (Or.inl ⟨by rfl, ?_⟩) ?_ ?_
                                                        rotate_left
                                                        · intro w'
                                                          go_simp
                                                          with_reducible rfl
                                                        rotate_left
                                                        · simp only [Act.put, List.setIfInBounds_toArray, List.set_cons_zero, List.set_cons_succ, i64_w, i32_w]
                                                          rfl
                                                        refine pure_ (i := 11) (N := some 111) (v := ?_) (a' := ?_) #[true, true, true, true, true, true, true, true, true, false, true, true, false, false, false] rfl rfl (any_of HT_.out (by kernel_rfl)) (fun _ _ _ h => h) (Or.inl ⟨by rfl, ?_⟩) ?_ ?_
                                                        rotate_left
                                                        · intro w'
                                                          go_simp
                                                          with_reducible rfl
                                                        rotate_left
                                                        · simp only [Act.put, List.setIfInBounds_toArray, List.set_cons_zero, List.set_cons_succ, i64_w, i32_w]
                                                          rfl
                                                        refine take_ (i := 9) (N := some 109) (v := ?_) (a' := ?_) #[true, true, true, true, true, true, true, true, true, true, true, true, false, false, false] rfl rfl (take_ofW HT_.out HW_.out (by kernel_rfl)) (fun _ _ _ h => h) (Or.inl ⟨by rfl, ?_⟩) hHeld ?_ ?_
                                                        rotate_left
                                                        · intro w' s0
                                                          go_simp
                                                          with_reducible rfl
                                                        rotate_left
                                                        · simp only [Act.put, List.setIfInBounds_toArray, List.set_cons_zero, List.set_cons_succ, i64_w, i32_w]
                                                          rfl
                                                        refine pure_ (i := 12) (N := some 112) (v := ?_) (a' := ?_) #[true, true, true, true, true, true, true, true, true, true, true, true, true, false, false] rfl rfl (any_of HT_.out (by kernel_rfl)) (fun _ _ _ h => h) (Or.inl ⟨by rfl, ?_⟩) ?_ ?_
                                                        rotate_left
                                                        · intro w'
                                                          go_simp
                                                          with_reducible rfl
                                                        rotate_left
                                                        · simp only [Act.put, List.setIfInBounds_toArray, List.set_cons_zero, List.set_cons_succ, i64_w, i32_w]
                                                          rfl
                                                        refine pure_ (i := 13) (N := some 113) (v := ?_) (a' := ?_) #[true, true, true, true, true, true, true, true, true, true, true, true, true, true, false] rfl rfl (any_of HT_.out (by kernel_rfl)) (fun _ _ _ h => h) (Or.inl ⟨by rfl, ?_⟩) ?_ ?_
                                                        rotate_left
                                                        · intro w'
                                                          go_simp
                                                          with_reducible rfl
                                                        rotate_left
                                                        · simp only [Act.put, List.setIfInBounds_toArray, List.set_cons_zero, List.set_cons_succ, i64_w, i32_w]
                                                          rfl
                                                        refine last_ (i := 14) (N := none) #[true, true, true, true, true, true, true, true, true, true, true, true, true, true, true] rfl rfl (one_of HT_.out (by kernel_rfl)) (by decide) (fun K hK => ?_)
                                                        refine skip_ (w1 := ?_) (by rfl) rfl ?_ ?_
                                                        rotate_left
                                                        · go_simp
                                                          rfl
                                                        refine hK.out _ _ ?_
                                                        clear hK K
                                                        refine done_ (done_of HT_.out (by kernel_rfl)) ?_
                                                        try go_wp2
                                                        go_roundg kj34
                                                        case measure => have := HK1.out; have := HJ3.out; have := HJ12.out; have := HJ18.out; have := HK5.out; have := HJ28.out; have := HJ34.out; omega
                                                        case rel => exact ⟨(y134), (x6_1), ((wrap64 (x7_1 + 1))), (wrap64 (x9_3 + 1)), (by first | rfl | (simp; done) | (simp [bne_nil_isEmpty, beq_nil_isEmpty]; done) | (simp [*]; done)), (by first | rfl | (simp; done) | (simp [bne_nil_isEmpty, beq_nil_isEmpty]; done) | (simp [*]; done)), H', ⟨by have := HK1.out; have := HJ3.out; have := HJ12.out; have := HJ18.out; have := HK5.out; have := HJ28.out; have := HJ34.out; omega⟩, ⟨by (with_reducible repeat (first | apply Kd.R_alloc | apply Kd.R_drewN | apply Kd.R_drew)); exact HQ49.out⟩, ⟨by (with_reducible repeat (first | apply Kd.R_alloc | apply Kd.R_drewN | apply Kd.R_drew)); exact Kd.R_mono (Kd.R_far (p := ⟨go46, ((ji41) : Int).toNat, none⟩) (Kd.R_types HO_6.out GG46.out (by decide)) (fun _ hk => hk.2) (.string ((rdOf ByteArray.empty x5_1 (ji41)) ++ (x10_18.extract 1 x10_18.size)))) (fun _ hk => trivial)⟩, ⟨by repeat (first | (with_reducible first | exact HB.out | apply below_alloc | apply pw_below_drewN | apply below_drew1 | refine below_set ?_ GB46.out) | exact HB.out)⟩⟩
                                                      · rw [if_neg c45] at H
                                                        exact absurd H (by simp)
                                                    · rw [if_neg c44] at H
                                                      exact absurd H (by simp)
                                                  · rw [if_neg c43] at H
                                                    exact absurd H (by simp)
                                                · rw [if_neg c42] at H
                                                  exact absurd H (by simp)
                                              · replace c40 := Bool.eq_false_iff.mpr c40
                                                subst c40
                                                have H1 : (if x5_1.length < 8796093022208 then (if x6_1.length < 17592186044416 then (trystref08_Unfold.l0 kj34 a0 (x5_1 ++ [x10_18]) (x6_1 ++ [(wrap64 (x7_1 + 1))]) (wrap64 (x7_1 + 1)) (wrap64 (x9_3 + 1))) else (none)) else (none)) = some (r1, r2, r3) := by rw [if_neg (show ¬ (false = true) by decide)] at H; exact H
                                                clear H
                                                have H := H1
                                                clear H1
                                                by_cases c50 : x5_1.length < 8796093022208
                                                · rw [if_pos c50] at H
                                                  have LMc50 := Aside0.mk c50
                                                  clear c50
                                                  obtain ⟨y135, hy135⟩ : ∃ y_ : List ByteArray, y_ = (x5_1 ++ [x10_18]) := ⟨_, rfl⟩
                                                  replace H : (if x6_1.length < 17592186044416 then (trystref08_Unfold.l0 kj34 a0 y135 (x6_1 ++ [(wrap64 (x7_1 + 1))]) (wrap64 (x7_1 + 1)) (wrap64 (x9_3 + 1))) else (none)) = some (r1, r2, r3) := by first | (rw [hy135]; with_reducible exact H) | (have H2_ := (Option.bind_some _ _).symm.trans H; rw [hy135]; with_reducible exact H2_) | (have H2_ := (Option.bind_some _ _).symm.trans H; with_reducible exact H2_) | with_reducible exact H | (rw [hy135]; exact H) | exact H
                                                  have Ny135 := Aside0.mk hy135
                                                  clear hy135
                                                  by_cases c51 : x6_1.length < 17592186044416
                                                  · rw [if_pos c51] at H
                                                    have LMc51 := Aside0.mk c51
                                                    clear c51
                                                    obtain ⟨y138, hy138⟩ : ∃ y_ : List Int, y_ = (x6_1 ++ [(wrap64 (x7_1 + 1))]) := ⟨_, rfl⟩
                                                    replace H : (trystref08_Unfold.l0 kj34 a0 y135 y138 (wrap64 (x7_1 + 1)) (wrap64 (x9_3 + 1))) = some (r1, r2, r3) := by first | (rw [hy138]; with_reducible exact H) | (have H2_ := (Option.bind_some _ _).symm.trans H; rw [hy138]; with_reducible exact H2_) | (have H2_ := (Option.bind_some _ _).symm.trans H; with_reducible exact H2_) | with_reducible exact H | (rw [hy138]; exact H) | exact H
                                                    have Ny138 := Aside0.mk hy138
                                                    clear hy138
                                                    have H' := Aside0.mk H
                                                    clear H
                                                    go_wp2_with (first | ((with_reducible refine gate_builtin (b := .append) (xs := #[.tmp 114, .tmp 116]) rfl ?_); (try (refine gate_guard (by rfl) ?_; dsimp only)); at_builtin; refine Kd.R_append Kd.string (w0 := w) w.heap.size rfl (.tmp 114) (.tmp 116) 22 9 (.string ⟨#[]⟩) 16 rfl Tryd.underlying22 info9 rfl (by decide) (by omega) u5 x5_1 x10_18 [.string x10_18] (fun _ => True) (fun _ => False) rfl rfl ?aP (fun _ hk => hk.elim) ?aF ?aO ?aB ?aS ?aL ?_; (case aP => exact rfl); (case aB => exact (by repeat (first | (with_reducible first | exact HB.out | apply below_alloc | apply pw_below_drewN | apply below_drew1) | exact HB.out))); (case aF => exact (fun _ _ => trivial)); (case aO => exact (by (with_reducible repeat (first | apply Kd.R_alloc | apply Kd.R_drewN | apply Kd.R_drew)); exact HO_5.out)); (case aS => exact (below_size (by repeat (first | (with_reducible first | exact HB.out | apply below_alloc | apply pw_below_drewN | apply below_drew1) | exact HB.out)))); (case aL => have := LMc50.out; omega); intro v136 w52 ho hb hg hat; rw [← Ny135.out] at ho; have n0_ := Aside0.mk (Kd.R_over' (by (with_reducible repeat (first | apply Kd.R_alloc | apply Kd.R_drewN | apply Kd.R_drew)); exact HO_6.out) (Kd.R_typed (by (with_reducible repeat (first | apply Kd.R_alloc | apply Kd.R_drewN | apply Kd.R_drew)); exact HO_5.out)) (by decide) hg); have n1_ := Aside0.mk (hb); have n2_ := Aside0.mk (ho); clear HO_6; clear HB; clear HO_5; have HO_6 := n0_; have HB := n1_; have HO137 := n2_; clear n0_ n1_ n2_; clear ho hb hg hat) | ((with_reducible refine gate_builtin (b := .append) (xs := #[.tmp 118, .tmp 120]) rfl ?_); (try (refine gate_guard (by rfl) ?_; dsimp only)); at_builtin; refine Kd.R_append (Kd.int .i64) (w0 := w) w.heap.size rfl (.tmp 118) (.tmp 120) 79 3 (.int .i64 0) 8 rfl Tryd.underlying79 info3 rfl (by decide) (by omega) u6 x6_1 (wrap64 (x7_1 + 1)) [.int .i64 (wrap64 (x7_1 + 1))] (fun _ => True) (fun _ => False) rfl rfl ?aP (fun _ hk => hk.elim) ?aF ?aO ?aB ?aS ?aL ?_; (case aP => exact rfl); (case aB => exact (by repeat (first | (with_reducible first | exact HB.out | apply below_alloc | apply pw_below_drewN | apply below_drew1) | exact HB.out))); (case aF => exact (fun _ _ => trivial)); (case aO => exact (by (with_reducible repeat (first | apply Kd.R_alloc | apply Kd.R_drewN | apply Kd.R_drew)); exact HO_6.out)); (case aS => exact (below_size (by repeat (first | (with_reducible first | exact HB.out | apply below_alloc | apply pw_below_drewN | apply below_drew1) | exact HB.out)))); (case aL => have := LMc51.out; omega); intro v139 w53 ho hb hg hat; rw [← Ny138.out] at ho; have n0_ := Aside0.mk (Kd.R_over' (by (with_reducible repeat (first | apply Kd.R_alloc | apply Kd.R_drewN | apply Kd.R_drew)); exact HO137.out) (Kd.R_typed (by (with_reducible repeat (first | apply Kd.R_alloc | apply Kd.R_drewN | apply Kd.R_drew)); exact HO_6.out)) (by decide) hg); have n1_ := Aside0.mk (hb); have n2_ := Aside0.mk (ho); clear HO137; clear HB; clear HO_6; have HO137 := n0_; have HB := n1_; have HO140 := n2_; clear n0_ n1_ n2_; clear ho hb hg hat))
                                                    go_roundg kj34
                                                    case measure => have := HK1.out; have := HJ3.out; have := HJ12.out; have := HJ18.out; have := HK5.out; have := HJ28.out; have := HJ34.out; omega
                                                    case rel => exact ⟨(y135), (y138), ((wrap64 (x7_1 + 1))), (wrap64 (x9_3 + 1)), (by first | rfl | (simp; done) | (simp [bne_nil_isEmpty, beq_nil_isEmpty]; done) | (simp [*]; done)), (by first | rfl | (simp; done) | (simp [bne_nil_isEmpty, beq_nil_isEmpty]; done) | (simp [*]; done)), H', ⟨by have := HK1.out; have := HJ3.out; have := HJ12.out; have := HJ18.out; have := HK5.out; have := HJ28.out; have := HJ34.out; omega⟩, ⟨by (with_reducible repeat (first | apply Kd.R_alloc | apply Kd.R_drewN | apply Kd.R_drew)); exact HO137.out⟩, ⟨by (with_reducible repeat (first | apply Kd.R_alloc | apply Kd.R_drewN | apply Kd.R_drew)); exact HO140.out⟩, ⟨by repeat (first | (with_reducible first | exact HB.out | apply below_alloc | apply pw_below_drewN | apply below_drew1) | exact HB.out)⟩⟩
                                                  · rw [if_neg c51] at H
                                                    exact absurd H (by simp)
                                                · rw [if_neg c50] at H
                                                  exact absurd H (by simp)
                    · rw [if_neg c12] at H
                      exact absurd H (by simp)
                  · rw [if_neg c11] at H
                    exact absurd H (by simp)
                · rw [if_neg c10] at H
                  exact absurd H (by simp)
        · rw [if_neg c3] at H
          have c3b0 : decide (x8_1 < (a0.size : Int)) = false := decide_eq_false c3
          clear c3
          have H' := Aside0.mk H
          clear H
          obtain ⟨Ao54, co54, eo54⟩ := Kd.R_slice HO_5.out
          subst eo54
          go_wp2
          go_loopg [126] k1 (fun kq v126 w' => ∃ (x126_2 : Int), v126 = .int .i64 x126_2 ∧ Aside0 (trystref08_Unfold.l3 kq x5_1 x6_1 (x5_1.length : Int) x126_2 = some (r1, r2, r3)) ∧ Aside0 (kq ≤ k1) ∧ Aside0 (Kd.R Kd.string 9 w' w.heap.size (fun _ => True) (.slice Ao54 x5_1.length co54) x5_1) ∧ Aside0 (Kd.R (Kd.int .i64) 3 w' w.heap.size (fun _ => True) u6 x6_1) ∧ Aside0 (Below w.heap.size w w'))
          case atStart => exact ⟨(0), (by first | rfl | (simp; done) | (simp [bne_nil_isEmpty, beq_nil_isEmpty]; done) | (simp [*]; done)), H', ⟨Nat.le_refl _⟩, ⟨by (with_reducible repeat (first | apply Kd.R_alloc | apply Kd.R_drewN | apply Kd.R_drew)); exact HO_5.out⟩, ⟨by (with_reducible repeat (first | apply Kd.R_alloc | apply Kd.R_drewN | apply Kd.R_drew)); exact HO_6.out⟩, ⟨by repeat (first | (with_reducible first | exact HB.out | apply below_alloc | apply pw_below_drewN | apply below_drew1) | exact HB.out)⟩⟩
          case round =>
            clear H'
            try clear c1
            try clear p1
            try clear q1
            try clear hx1
            try clear c2
            try clear c2b0
            try clear c2b1
            try clear p2
            try clear q2
            try clear hx2
            try clear c3
            try clear c3b0
            try clear p3
            try clear q3
            try clear hx3
            try clear qi3
            try clear c4
            try clear p4
            try clear q4
            try clear hx4
            try clear hf4
            try clear c5
            try clear c5b0
            try clear c6
            try clear c6b0
            try clear p6
            try clear p7
            try clear q7
            try clear hx7
            try clear c8
            try clear c8b0
            try clear c8b1
            try clear c9
            try clear c9b0
            try clear c9b1
            try clear c10
            try clear c10b0
            try clear c10b1
            try clear c11
            try clear c11b0
            try clear c11b1
            try clear c12
            try clear c12b0
            try clear c12b1
            try clear p13
            try clear q13
            try clear hx13
            try clear c14
            try clear c14b0
            try clear c14b1
            try clear c16
            try clear c16b0
            try clear c17
            try clear c17b0
            try clear p18
            try clear q18
            try clear hx18
            try clear c20
            try clear c22
            try clear c22b0
            try clear c22b1
            try clear c23
            try clear c23b0
            try clear c23b1
            try clear c24
            try clear c24b0
            try clear c25
            try clear c26
            try clear c26b0
            try clear c27
            try clear c27b0
            try clear p28
            try clear q28
            try clear hx28
            try clear c30
            try clear c31
            try clear c31b0
            try clear c31b1
            try clear p32
            try clear q32
            try clear hx32
            try clear qi32
            try clear c33
            try clear c33b0
            try clear c33b1
            try clear p34
            try clear q34
            try clear hx34
            try clear qi34
            try clear c36
            try clear c37
            try clear c39
            try clear c40
            try clear c42
            try clear c42b0
            try clear c43
            try clear c43b0
            try clear c44
            try clear c44b0
            try clear c44b1
            try clear c45
            try clear c45b0
            try clear c45b1
            try clear c45b2
            try clear p46
            try clear q46
            try clear hx46
            try clear hf46
            try clear c50
            try clear c51
            try clear hx133_0
            try clear hx46_0
            try clear p1
            try clear p133
            try clear p18
            try clear p2
            try clear p28
            try clear p3
            try clear p32
            try clear p34
            try clear p46
            try clear p6
            try clear p7
            try clear q1
            try clear q133
            try clear q18
            try clear q2
            try clear q28
            try clear q3
            try clear q32
            try clear q34
            try clear q46
            try clear q7
            obtain ⟨x126_2, rfl, HA, HK2, HO_5, HO_6, HB⟩ := hrel
            cases gk with
            | zero => exact absurd HA.out (by simp [trystref08_Unfold.l3])
            | succ k2 =>
              have H := HA.out
              clear HA
              simp only [trystref08_Unfold.l3] at H
              by_cases c55 : x126_2 < (x5_1.length : Int)
              · rw [if_pos c55] at H
                have c55b0 : decide (x126_2 < (x5_1.length : Int)) = true := decide_eq_true c55
                clear c55
                by_cases c56 : 0 ≤ x126_2
                · rw [if_pos c56] at H
                  have c56b0 : decide (0 ≤ x126_2) = true := decide_eq_true c56
                  clear c56
                  by_cases c57 : x126_2 < (x5_1.length : Int)
                  · rw [if_pos c57] at H
                    have c57b0 : decide (x126_2 < (x5_1.length : Int)) = true := decide_eq_true c57
                    clear c57
                    replace H := Option.bind_eq_some_iff.mp H
                    obtain ⟨t142, A580, H⟩ := H
                    replace H : (if t142 = true then (if ((rdOf ByteArray.empty x5_1 x126_2).size : Int) > 2000 then (if x126_2 < (x6_1.length : Int) then (some (([] : List ByteArray), rd x6_1 x126_2, 4)) else (none)) else (trystref08_Unfold.l3 k2 x5_1 x6_1 (x5_1.length : Int) (wrap64 (x126_2 + 1)))) else (if x126_2 < (x6_1.length : Int) then (some (([] : List ByteArray), rd x6_1 x126_2, 3)) else (none))) = some (r1, r2, r3) := H
                    have A58 := Aside0.mk A580
                    clear A580
                    by_cases c59 : t142 = true
                    · subst c59
                      have H1 : (if ((rdOf ByteArray.empty x5_1 x126_2).size : Int) > 2000 then (if x126_2 < (x6_1.length : Int) then (some (([] : List ByteArray), rd x6_1 x126_2, 4)) else (none)) else (trystref08_Unfold.l3 k2 x5_1 x6_1 (x5_1.length : Int) (wrap64 (x126_2 + 1)))) = some (r1, r2, r3) := by rw [if_pos rfl] at H; exact H
                      clear H
                      have H := H1
                      clear H1
                      by_cases c60 : ((rdOf ByteArray.empty x5_1 x126_2).size : Int) > 2000
                      · rw [if_pos c60] at H
                        have c60b0 : decide (2000 < ((rdOf ByteArray.empty x5_1 x126_2).size : Int)) = true := decide_eq_true c60
                        have c60b1 : decide (2000 < (rdOf ByteArray.empty x5_1 x126_2).size) = true := decide_eq_true (by omega)
                        clear c60
                        by_cases c61 : x126_2 < (x6_1.length : Int)
                        · rw [if_pos c61] at H
                          have c61b0 : decide (x126_2 < (x6_1.length : Int)) = true := decide_eq_true c61
                          clear c61
                          simp only [Option.some.injEq, Prod.mk.injEq] at H
                          obtain ⟨rfl, rfl, rfl⟩ := H
                          have p141 : 0 ≤ (x126_2 : Int) := of_decide_eq_true (by first | (with_reducible assumption) | assumption)
                          have q141 : x126_2 < (x5_1.length : Int) := of_decide_eq_true (by first | (with_reducible assumption) | assumption)
                          obtain ⟨ad141, e141, hx141_0⟩ := Kd.at_string (Kd.R_reads' HO_5.out).2.2 x126_2 p141 q141
                          cases e141
                          replace p141 := eq_true p141
                          replace q141 := eq_true q141
                          try go_wp2_with (first | ((with_reducible refine gate_callee (f := 31) rfl ?_); refine goesL_ (some 133) rfl rfl Tryd.func31 (by kernel_rfl) rfl #[.string (rdOf ByteArray.empty x5_1 x126_2)] rfl (by (try simp only [List.map_toArray, List.map_cons, List.map_nil]); first | done | rfl | (simp only [List.length_drop, List.length_take]; rfl)) ?_; (with_reducible refine (trystref08_UTF.calls k2 (rdOf ByteArray.empty x5_1 x126_2) true _ (by first | (with_reducible exact hG) | exact GG.below hG (by repeat (first | (with_reducible first | exact HB.out | apply below_alloc | apply pw_below_drewN | apply below_drew1) | exact HB.out))) A58.out).mono ?_); rintro e w' ⟨rfl, ⟨nd, rfl⟩⟩; refine ⟨_, rfl, ?_⟩; have p143 : 0 ≤ (x126_2 : Int) := of_decide_eq_true (by first | (with_reducible assumption) | assumption); have q143 : x126_2 < (x5_1.length : Int) := of_decide_eq_true (by first | (with_reducible assumption) | assumption); obtain ⟨ad143, e143, hx143_0⟩ := Kd.at_string (Kd.R_reads' HO_5.out).2.2 x126_2 p143 q143; obtain rfl : ad141 = ad143 := (by injection e143); replace p143 := eq_true p143; replace q143 := eq_true q143))
                          (try (rw [drewN_self wr]; generalize hq_ : World.drewN wr _ = wr; have n0_ : Aside0 (Kd.R Kd.string 9 wr w.heap.size (fun _ => True) (.slice (some ad141) x5_1.length co54) x5_1) := ⟨by rw [← hq_]; exact (by (with_reducible repeat (first | apply Kd.R_alloc | apply Kd.R_drewN | apply Kd.R_drew)); exact HO_5.out)⟩; have n1_ : Aside0 (Kd.R (Kd.int .i64) 3 wr w.heap.size (fun _ => True) u6 x6_1) := ⟨by rw [← hq_]; exact (by (with_reducible repeat (first | apply Kd.R_alloc | apply Kd.R_drewN | apply Kd.R_drew)); exact HO_6.out)⟩; have n2_ : Aside0 (Below w.heap.size w wr) := ⟨by rw [← hq_]; exact (by repeat (first | (with_reducible first | exact HB.out | apply below_alloc | apply pw_below_drewN | apply below_drew1) | exact HB.out))⟩; clear HO_5 HO_6 HB hq_; have HO_5 := n0_; have HO_6 := n1_; have HB := n2_; clear n0_ n1_ n2_))
                          have n0_ := Aside0.mk (Kd.R_drew HO_5.out)
                          have n1_ := Aside0.mk (Kd.R_drew HO_6.out)
                          have n2_ := Aside0.mk (below_drew1 HB.out)
                          clear HO_5
                          clear HO_6
                          clear HB
                          have HO_5 := n0_
                          have HO_6 := n1_
                          have HB := n2_
                          clear n0_ n1_ n2_
                          obtain ⟨Ao63, co63, eo63⟩ := Kd.R_slice HO_6.out
                          (first | subst eo63 | (injection eo63 with f1_ f2_ f3_; have f4_ := f1_.symm; have f5_ := f3_.symm; clear f1_ f2_ f3_; subst f4_; subst f5_))
                          have p144 : 0 ≤ (x126_2 : Int) := of_decide_eq_true (by first | (with_reducible assumption) | assumption)
                          have q144 : x126_2 < (x6_1.length : Int) := of_decide_eq_true (by first | (with_reducible assumption) | assumption)
                          obtain ⟨ad144, e144, hx144_0⟩ := Kd.at_int (Kd.R_reads' HO_6.out).2.2 x126_2 p144 q144
                          cases e144
                          replace p144 := eq_true p144
                          replace q144 := eq_true q144
                          refine start_ (n := 7) (S := fun w' => w'.cell? (ad144.add (x126_2).toNat) = some (.int .i64 (rd x6_1 x126_2))) (ds := []) #[false, false, false, false, false, false, false] (by kernel_rfl) rfl rfl (hx144_0) (fun hHeld => ?_)
                          generalize wr.drew = w62 at HO_5 HO_6 HB hx144_0 hHeld ⊢
                          refine pure_ (i := 0) (N := some 145) (v := ?_) (a' := ?_) #[true, false, false, false, false, false, false] rfl rfl (by kernel_rfl) (fun _ _ _ h => h) (Or.inl ⟨by rfl, ?_⟩) ?_ ?_
                          rotate_left
                          · intro w'
                            go_simp
                            with_reducible rfl
                          rotate_left
                          · simp only [Act.put, List.setIfInBounds_toArray, List.set_cons_zero, List.set_cons_succ, i64_w, i32_w]
                            rfl
                          refine pure_ (i := 1) (N := some 146) (v := ?_) (a' := ?_) #[true, true, false, false, false, false, false] rfl rfl (by kernel_rfl) (fun _ _ _ h => h) (Or.inl ⟨by rfl, ?_⟩) ?_ ?_
                          rotate_left
                          · intro w'
                            go_simp
                            with_reducible rfl
                          rotate_left
                          · simp only [Act.put, List.setIfInBounds_toArray, List.set_cons_zero, List.set_cons_succ, i64_w, i32_w]
                            rfl
                          refine pure_ (i := 2) (N := some 147) (v := ?_) (a' := ?_) #[true, true, true, false, false, false, false] rfl rfl (by kernel_rfl) (fun _ _ _ h => h) (Or.inl ⟨by rfl, ?_⟩) ?_ ?_
                          rotate_left
                          · intro w'
                            go_simp
                            with_reducible rfl
                          rotate_left
                          · simp only [Act.put, List.setIfInBounds_toArray, List.set_cons_zero, List.set_cons_succ, i64_w, i32_w]
                            rfl
                          refine pure_ (i := 4) (N := some 2) (v := ?_) (a' := ?_) #[true, true, true, false, true, false, false] rfl rfl (by kernel_rfl) (fun _ _ _ h => h) (Or.inl ⟨by rfl, ?_⟩) ?_ ?_
                          rotate_left
                          · intro w'
                            go_simp
                            with_reducible rfl
                          rotate_left
                          · simp only [Act.put, List.setIfInBounds_toArray, List.set_cons_zero, List.set_cons_succ, i64_w, i32_w]
                            rfl
                          refine take_ (i := 3) (N := some 148) (v := ?_) (a' := ?_) #[true, true, true, true, true, false, false] rfl rfl (by kernel_rfl) (fun _ _ _ h => h) (Or.inl ⟨by rfl, ?_⟩) hHeld ?_ ?_
                          rotate_left
                          · intro w' s0
                            go_simp
                            with_reducible rfl
                          rotate_left
                          · simp only [Act.put, List.setIfInBounds_toArray, List.set_cons_zero, List.set_cons_succ, i64_w, i32_w]
                            rfl
                          refine pure_ (i := 5) (N := some 3) (v := ?_) (a' := ?_) #[true, true, true, true, true, true, false] rfl rfl (by kernel_rfl) (fun _ _ _ h => h) (Or.inl ⟨by rfl, ?_⟩) ?_ ?_
                          rotate_left
                          · intro w'
                            go_simp
                            with_reducible rfl
                          rotate_left
                          · simp only [Act.put, List.setIfInBounds_toArray, List.set_cons_zero, List.set_cons_succ, i64_w, i32_w]
                            rfl
                          refine pure_ (i := 6) (N := some 4) (v := ?_) (a' := ?_) #[true, true, true, true, true, true, true] rfl rfl (by kernel_rfl) (fun _ _ _ h => h) (Or.inl ⟨by rfl, ?_⟩) ?_ ?_
                          rotate_left
                          · intro w'
                            go_simp
                            with_reducible rfl
                          rotate_left
                          · simp only [Act.put, List.setIfInBounds_toArray, List.set_cons_zero, List.set_cons_succ, i64_w, i32_w]
                            rfl
                          refine done_ (by kernel_rfl) ?_
                          try go_wp2
                          go_ret3
                          exact ⟨_, by first | rfl | (simp [errW_none, errW_some] <;> rfl) | (simp [*, errW_none, errW_some] <;> rfl), by first | exact Kd.R_nil _ _ _ _ _ | exact Kd.N_nil _ _ _ _ _ | exact Kd.V_nil _ _ _ _ _ | exact Kd.Q_nil _ _ _ _ _ | exact Kd.S_nil _ _ _ _ _, by repeat (first | (with_reducible first | exact HB.out | apply below_alloc | apply pw_below_drewN | apply below_drew1) | exact HB.out)⟩
                        · rw [if_neg c61] at H
                          exact absurd H (by simp)
                      · rw [if_neg c60] at H
                        have c60b0 : decide (2000 < ((rdOf ByteArray.empty x5_1 x126_2).size : Int)) = false := decide_eq_false c60
                        have c60b1 : decide (2000 < (rdOf ByteArray.empty x5_1 x126_2).size) = false := decide_eq_false (by omega)
                        clear c60
                        have H' := Aside0.mk H
                        clear H
                        have p141 : 0 ≤ (x126_2 : Int) := of_decide_eq_true (by first | (with_reducible assumption) | assumption)
                        have q141 : x126_2 < (x5_1.length : Int) := of_decide_eq_true (by first | (with_reducible assumption) | assumption)
                        obtain ⟨ad141, e141, hx141_0⟩ := Kd.at_string (Kd.R_reads' HO_5.out).2.2 x126_2 p141 q141
                        cases e141
                        replace p141 := eq_true p141
                        replace q141 := eq_true q141
                        go_wp2_with (first | ((with_reducible refine gate_callee (f := 31) rfl ?_); refine goesL_ (some 133) rfl rfl Tryd.func31 (by kernel_rfl) rfl #[.string (rdOf ByteArray.empty x5_1 x126_2)] rfl (by (try simp only [List.map_toArray, List.map_cons, List.map_nil]); first | done | rfl | (simp only [List.length_drop, List.length_take]; rfl)) ?_; (with_reducible refine (trystref08_UTF.calls k2 (rdOf ByteArray.empty x5_1 x126_2) true _ (by first | (with_reducible exact hG) | exact GG.below hG (by repeat (first | (with_reducible first | exact HB.out | apply below_alloc | apply pw_below_drewN | apply below_drew1) | exact HB.out))) A58.out).mono ?_); rintro e w' ⟨rfl, ⟨nd, rfl⟩⟩; refine ⟨_, rfl, ?_⟩; have p143 : 0 ≤ (x126_2 : Int) := of_decide_eq_true (by first | (with_reducible assumption) | assumption); have q143 : x126_2 < (x5_1.length : Int) := of_decide_eq_true (by first | (with_reducible assumption) | assumption); obtain ⟨ad143, e143, hx143_0⟩ := Kd.at_string (Kd.R_reads' HO_5.out).2.2 x126_2 p143 q143; obtain rfl : ad141 = ad143 := (by injection e143); replace p143 := eq_true p143; replace q143 := eq_true q143))
                        go_roundg k2
                        case measure => have := HK1.out; have := HK2.out; omega
                        case rel => exact ⟨(wrap64 (x126_2 + 1)), (by first | rfl | (simp; done) | (simp [bne_nil_isEmpty, beq_nil_isEmpty]; done) | (simp [*]; done)), H', ⟨by have := HK1.out; have := HK2.out; omega⟩, ⟨by (with_reducible repeat (first | apply Kd.R_alloc | apply Kd.R_drewN | apply Kd.R_drew)); exact HO_5.out⟩, ⟨by (with_reducible repeat (first | apply Kd.R_alloc | apply Kd.R_drewN | apply Kd.R_drew)); exact HO_6.out⟩, ⟨by repeat (first | (with_reducible first | exact HB.out | apply below_alloc | apply pw_below_drewN | apply below_drew1) | exact HB.out)⟩⟩
                    · replace c59 := Bool.eq_false_iff.mpr c59
                      subst c59
                      have H1 : (if x126_2 < (x6_1.length : Int) then (some (([] : List ByteArray), rd x6_1 x126_2, 3)) else (none)) = some (r1, r2, r3) := by rw [if_neg (show ¬ (false = true) by decide)] at H; exact H
                      clear H
                      have H := H1
                      clear H1
                      by_cases c64 : x126_2 < (x6_1.length : Int)
                      · rw [if_pos c64] at H
                        have c64b0 : decide (x126_2 < (x6_1.length : Int)) = true := decide_eq_true c64
                        clear c64
                        simp only [Option.some.injEq, Prod.mk.injEq] at H
                        obtain ⟨rfl, rfl, rfl⟩ := H
                        have p141 : 0 ≤ (x126_2 : Int) := of_decide_eq_true (by first | (with_reducible assumption) | assumption)
                        have q141 : x126_2 < (x5_1.length : Int) := of_decide_eq_true (by first | (with_reducible assumption) | assumption)
                        obtain ⟨ad141, e141, hx141_0⟩ := Kd.at_string (Kd.R_reads' HO_5.out).2.2 x126_2 p141 q141
                        cases e141
                        replace p141 := eq_true p141
                        replace q141 := eq_true q141
                        try go_wp2_with (first | ((with_reducible refine gate_callee (f := 31) rfl ?_); refine goesL_ (some 133) rfl rfl Tryd.func31 (by kernel_rfl) rfl #[.string (rdOf ByteArray.empty x5_1 x126_2)] rfl (by (try simp only [List.map_toArray, List.map_cons, List.map_nil]); first | done | rfl | (simp only [List.length_drop, List.length_take]; rfl)) ?_; (with_reducible refine (trystref08_UTF.calls k2 (rdOf ByteArray.empty x5_1 x126_2) false _ (by first | (with_reducible exact hG) | exact GG.below hG (by repeat (first | (with_reducible first | exact HB.out | apply below_alloc | apply pw_below_drewN | apply below_drew1) | exact HB.out))) A58.out).mono ?_); rintro e w' ⟨rfl, ⟨nd, rfl⟩⟩; refine ⟨_, rfl, ?_⟩))
                        (try (rw [drewN_self wr]; generalize hq_ : World.drewN wr _ = wr; have n0_ : Aside0 (Kd.R Kd.string 9 wr w.heap.size (fun _ => True) (.slice (some ad141) x5_1.length co54) x5_1) := ⟨by rw [← hq_]; exact (by (with_reducible repeat (first | apply Kd.R_alloc | apply Kd.R_drewN | apply Kd.R_drew)); exact HO_5.out)⟩; have n1_ : Aside0 (Kd.R (Kd.int .i64) 3 wr w.heap.size (fun _ => True) u6 x6_1) := ⟨by rw [← hq_]; exact (by (with_reducible repeat (first | apply Kd.R_alloc | apply Kd.R_drewN | apply Kd.R_drew)); exact HO_6.out)⟩; have n2_ : Aside0 (Below w.heap.size w wr) := ⟨by rw [← hq_]; exact (by repeat (first | (with_reducible first | exact HB.out | apply below_alloc | apply pw_below_drewN | apply below_drew1) | exact HB.out))⟩; clear HO_5 HO_6 HB hq_; have HO_5 := n0_; have HO_6 := n1_; have HB := n2_; clear n0_ n1_ n2_))
                        have n0_ := Aside0.mk (Kd.R_drew HO_5.out)
                        have n1_ := Aside0.mk (Kd.R_drew HO_6.out)
                        have n2_ := Aside0.mk (below_drew1 HB.out)
                        clear HO_5
                        clear HO_6
                        clear HB
                        have HO_5 := n0_
                        have HO_6 := n1_
                        have HB := n2_
                        clear n0_ n1_ n2_
                        obtain ⟨Ao66, co66, eo66⟩ := Kd.R_slice HO_6.out
                        (first | subst eo66 | (injection eo66 with f1_ f2_ f3_; have f4_ := f1_.symm; have f5_ := f3_.symm; clear f1_ f2_ f3_; subst f4_; subst f5_))
                        have p145 : 0 ≤ (x126_2 : Int) := of_decide_eq_true (by first | (with_reducible assumption) | assumption)
                        have q145 : x126_2 < (x6_1.length : Int) := of_decide_eq_true (by first | (with_reducible assumption) | assumption)
                        obtain ⟨ad145, e145, hx145_0⟩ := Kd.at_int (Kd.R_reads' HO_6.out).2.2 x126_2 p145 q145
                        cases e145
                        replace p145 := eq_true p145
                        replace q145 := eq_true q145
                        refine start_ (n := 7) (S := fun w' => w'.cell? (ad145.add (x126_2).toNat) = some (.int .i64 (rd x6_1 x126_2))) (ds := []) #[false, false, false, false, false, false, false] (by kernel_rfl) rfl rfl (hx145_0) (fun hHeld => ?_)
                        generalize wr.drew = w65 at HO_5 HO_6 HB hx145_0 hHeld ⊢
                        refine pure_ (i := 0) (N := some 135) (v := ?_) (a' := ?_) #[true, false, false, false, false, false, false] rfl rfl (by kernel_rfl) (fun _ _ _ h => h) (Or.inl ⟨by rfl, ?_⟩) ?_ ?_
                        rotate_left
                        · intro w'
                          go_simp
                          with_reducible rfl
                        rotate_left
                        · simp only [Act.put, List.setIfInBounds_toArray, List.set_cons_zero, List.set_cons_succ, i64_w, i32_w]
                          rfl
                        refine pure_ (i := 1) (N := some 136) (v := ?_) (a' := ?_) #[true, true, false, false, false, false, false] rfl rfl (by kernel_rfl) (fun _ _ _ h => h) (Or.inl ⟨by rfl, ?_⟩) ?_ ?_
                        rotate_left
                        · intro w'
                          go_simp
                          with_reducible rfl
                        rotate_left
                        · simp only [Act.put, List.setIfInBounds_toArray, List.set_cons_zero, List.set_cons_succ, i64_w, i32_w]
                          rfl
                        refine pure_ (i := 2) (N := some 137) (v := ?_) (a' := ?_) #[true, true, true, false, false, false, false] rfl rfl (by kernel_rfl) (fun _ _ _ h => h) (Or.inl ⟨by rfl, ?_⟩) ?_ ?_
                        rotate_left
                        · intro w'
                          go_simp
                          with_reducible rfl
                        rotate_left
                        · simp only [Act.put, List.setIfInBounds_toArray, List.set_cons_zero, List.set_cons_succ, i64_w, i32_w]
                          rfl
                        refine pure_ (i := 4) (N := some 2) (v := ?_) (a' := ?_) #[true, true, true, false, true, false, false] rfl rfl (by kernel_rfl) (fun _ _ _ h => h) (Or.inl ⟨by rfl, ?_⟩) ?_ ?_
                        rotate_left
                        · intro w'
                          go_simp
                          with_reducible rfl
                        rotate_left
                        · simp only [Act.put, List.setIfInBounds_toArray, List.set_cons_zero, List.set_cons_succ, i64_w, i32_w]
                          rfl
                        refine take_ (i := 3) (N := some 138) (v := ?_) (a' := ?_) #[true, true, true, true, true, false, false] rfl rfl (by kernel_rfl) (fun _ _ _ h => h) (Or.inl ⟨by rfl, ?_⟩) hHeld ?_ ?_
                        rotate_left
                        · intro w' s0
                          go_simp
                          with_reducible rfl
                        rotate_left
                        · simp only [Act.put, List.setIfInBounds_toArray, List.set_cons_zero, List.set_cons_succ, i64_w, i32_w]
                          rfl
                        refine pure_ (i := 5) (N := some 3) (v := ?_) (a' := ?_) #[true, true, true, true, true, true, false] rfl rfl (by kernel_rfl) (fun _ _ _ h => h) (Or.inl ⟨by rfl, ?_⟩) ?_ ?_
                        rotate_left
                        · intro w'
                          go_simp
                          with_reducible rfl
                        rotate_left
                        · simp only [Act.put, List.setIfInBounds_toArray, List.set_cons_zero, List.set_cons_succ, i64_w, i32_w]
                          rfl
                        refine pure_ (i := 6) (N := some 4) (v := ?_) (a' := ?_) #[true, true, true, true, true, true, true] rfl rfl (by kernel_rfl) (fun _ _ _ h => h) (Or.inl ⟨by rfl, ?_⟩) ?_ ?_
                        rotate_left
                        · intro w'
                          go_simp
                          with_reducible rfl
                        rotate_left
                        · simp only [Act.put, List.setIfInBounds_toArray, List.set_cons_zero, List.set_cons_succ, i64_w, i32_w]
                          rfl
                        refine done_ (by kernel_rfl) ?_
                        try go_wp2
                        go_ret3
                        exact ⟨_, by first | rfl | (simp [errW_none, errW_some] <;> rfl) | (simp [*, errW_none, errW_some] <;> rfl), by first | exact Kd.R_nil _ _ _ _ _ | exact Kd.N_nil _ _ _ _ _ | exact Kd.V_nil _ _ _ _ _ | exact Kd.Q_nil _ _ _ _ _ | exact Kd.S_nil _ _ _ _ _, by repeat (first | (with_reducible first | exact HB.out | apply below_alloc | apply pw_below_drewN | apply below_drew1) | exact HB.out)⟩
                      · rw [if_neg c64] at H
                        exact absurd H (by simp)
                  · rw [if_neg c57] at H
                    exact absurd H (by simp)
                · rw [if_neg c56] at H
                  exact absurd H (by simp)
              · rw [if_neg c55] at H
                have c55b0 : decide (x126_2 < (x5_1.length : Int)) = false := decide_eq_false c55
                clear c55
                simp only [Option.some.injEq, Prod.mk.injEq] at H
                obtain ⟨rfl, rfl, rfl⟩ := H
                go_wp2
                go_ret3
                exact ⟨_, by first | rfl | (simp [errW_none, errW_some] <;> rfl) | (simp [*, errW_none, errW_some] <;> rfl), by (with_reducible repeat (first | apply Kd.R_alloc | apply Kd.R_drewN | apply Kd.R_drew)); exact HO_5.out, by repeat (first | (with_reducible first | exact HB.out | apply below_alloc | apply pw_below_drewN | apply below_drew1) | exact HB.out)⟩

end Go.Proofs.YtknmbalhbecdhaaDoor.Print
