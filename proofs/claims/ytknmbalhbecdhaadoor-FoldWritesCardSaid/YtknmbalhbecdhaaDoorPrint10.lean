-- Written by xprint.py (a program of this claim's session) out of the translation. Lean checks it.
import Derived.Test.YtknmbalhbecdhaaDoorPrint0
import Derived.Test.YtknmbalhbecdhaaDoorPrint9
namespace Go.Proofs.YtknmbalhbecdhaaDoor.Print
open Go.RowKit Go.Proofs.YtknmbalhbecdhaaDoorW.PrintWords Go.Proofs.YtknmbalhbecdhaaDoorW.PrintLast Go.Proofs.YtknmbalhbecdhaaDoorW.PrintMore
attribute [local go_sem] max2_int min2_int max_two min_two max_three min_three max_four min_four   -- for this text's walks alone
set_option linter.unusedVariables false
set_option linter.unusedSimpArgs false

/-! ### trystref08_Fold: function 28 -/
mutual
def trystref08_Fold.l0 : Nat → List ByteArray → Int → Int → Option (ByteArray × Int)
  | 0, _, _, _ => none
  | k + 1, x0, x15, x16 => if x16 < x15 then (if 0 ≤ x16 then (if x16 < (x0.length : Int) then (if (rdOf ByteArray.empty x0 x16).toList = ([] : List UInt8) then (trystref08_Fold.j1 k x0 (rdOf ByteArray.empty x0 x16) x15 x16 true) else (if 0 < ((rdOf ByteArray.empty x0 x16).size : Int) then (if (bt (rdOf ByteArray.empty x0 x16) 0) = 32 then (trystref08_Fold.j1 k x0 (rdOf ByteArray.empty x0 x16) x15 x16 true) else (trystref08_Fold.j1 k x0 (rdOf ByteArray.empty x0 x16) x15 x16 ((bt (rdOf ByteArray.empty x0 x16) 0) == 9))) else (none))) else (none)) else (none)) else (trystref08_Fold.l2 k x0 ([] : List Int) false (x0.length : Int) 0)
def trystref08_Fold.j1 : Nat → List ByteArray → ByteArray → Int → Int → Bool → Option (ByteArray × Int)
  | 0, _, _, _, _, _ => none
  | k + 1, x0, x5, x15, x16, x34 => if x34 = true then (some ((⟨#[]⟩ : ByteArray), 5)) else (trystref08_Fold.l1 k x0 x5 x15 x16 (x5.size : Int) 0)
def trystref08_Fold.l1 : Nat → List ByteArray → ByteArray → Int → Int → Int → Int → Option (ByteArray × Int)
  | 0, _, _, _, _, _, _ => none
  | k + 1, x0, x5, x15, x16, x36, x37 => if x37 < x36 then (if 0 ≤ x37 then (if x37 < (x5.size : Int) then (if (bt x5 x37) = 13 then (some ((⟨#[]⟩ : ByteArray), 5)) else (if (bt x5 x37) = 10 then (some ((⟨#[]⟩ : ByteArray), 5)) else (trystref08_Fold.l1 k x0 x5 x15 x16 x36 (wrap64 (x37 + 1))))) else (none)) else (none)) else (trystref08_Fold.l0 k x0 x15 (wrap64 (x16 + 1)))
def trystref08_Fold.l2 : Nat → List ByteArray → List Int → Bool → Int → Int → Option (ByteArray × Int)
  | 0, _, _, _, _, _ => none
  | k + 1, x0, x7, x8, x53, x54 => if x54 < x53 then (if 0 ≤ x54 then (if x54 < (x0.length : Int) then (if x8 = true then (trystref08_Fold.j4 k x0 x7 true (rdOf ByteArray.empty x0 x54) x53 x54) else (trystref08_Fold.j4 k x0 x7 (decide (((rdOf ByteArray.empty x0 x54).size : Int) > 2000)) (rdOf ByteArray.empty x0 x54) x53 x54)) else (none)) else (none)) else (if x8 = true then (some ((⟨#[]⟩ : ByteArray), 4)) else (some (strOfNums x7, 0)))
def trystref08_Fold.j4 : Nat → List ByteArray → List Int → Bool → ByteArray → Int → Int → Option (ByteArray × Int)
  | 0, _, _, _, _, _, _ => none
  | k + 1, x0, x7, x8, x10, x53, x54 => trystref08_Fold.l3 k x0 x7 x8 x10 0 0 x53 x54
def trystref08_Fold.l3 : Nat → List ByteArray → List Int → Bool → ByteArray → Int → Int → Int → Int → Option (ByteArray × Int)
  | 0, _, _, _, _, _, _, _, _ => none
  | k + 1, x0, x7, x8, x10, x11, x12, x53, x54 => if x12 < (x10.size : Int) then (trystref08_Fold.j6 k x0 x7 x8 x10 x11 x12 x53 x54 (!x8)) else (trystref08_Fold.j6 k x0 x7 x8 x10 x11 x12 x53 x54 false)
def trystref08_Fold.j6 : Nat → List ByteArray → List Int → Bool → ByteArray → Int → Int → Int → Int → Bool → Option (ByteArray × Int)
  | 0, _, _, _, _, _, _, _, _, _ => none
  | k + 1, x0, x7, x8, x10, x11, x12, x53, x54, x74 => if x74 = true then ((trystref08_size.f k x10 x12).bind fun t216 => (if (wrap64 (x11 + t216)) > 75 then ((some (([13, 10, 32] : List Int) : List Int)).bind fun y217 => (if x7.length + y217.length < 140737488355328 then ((some (x7 ++ y217 : List Int)).bind fun y220 => (if 0 ≤ x12 then (if x12 ≤ (wrap64 (x12 + t216)) then (if (wrap64 (x12 + t216)) ≤ (x10.size : Int) then (if y220.length + (x10.extract (x12 : Int).toNat ((wrap64 (x12 + t216)) : Int).toNat).size < 140737488355328 then (trystref08_Fold.l3 k x0 (y220 ++ bytesOf (x10.extract (x12 : Int).toNat ((wrap64 (x12 + t216)) : Int).toNat)) x8 x10 (wrap64 (1 + t216)) (wrap64 (x12 + t216)) x53 x54) else (none)) else (none)) else (none)) else (none))) else (none))) else (if 0 ≤ x12 then (if x12 ≤ (wrap64 (x12 + t216)) then (if (wrap64 (x12 + t216)) ≤ (x10.size : Int) then (if x7.length + (x10.extract (x12 : Int).toNat ((wrap64 (x12 + t216)) : Int).toNat).size < 140737488355328 then (trystref08_Fold.l3 k x0 (x7 ++ bytesOf (x10.extract (x12 : Int).toNat ((wrap64 (x12 + t216)) : Int).toNat)) x8 x10 (wrap64 (x11 + t216)) (wrap64 (x12 + t216)) x53 x54) else (none)) else (none)) else (none)) else (none)))) else ((some (([13, 10] : List Int) : List Int)).bind fun y229 => (if x7.length + y229.length < 140737488355328 then ((some (x7 ++ y229 : List Int)).bind fun y232 => (if x8 = true then (trystref08_Fold.l2 k x0 y232 true x53 (wrap64 (x54 + 1))) else (trystref08_Fold.l2 k x0 y232 (decide ((y232.length : Int) > 20000)) x53 (wrap64 (x54 + 1))))) else (none)))
end
def trystref08_Fold.f (k : Nat) (l0 : List ByteArray) : Option (ByteArray × Int) := trystref08_Fold.l0 k l0 (l0.length : Int) 0
theorem trystref08_Fold.mono_l : ∀ k, (∀ y0 y1 y2, LeO (trystref08_Fold.l0 k y0 y1 y2) (trystref08_Fold.l0 (k + 1) y0 y1 y2)) ∧ (∀ y0 y1 y2 y3 y4, LeO (trystref08_Fold.j1 k y0 y1 y2 y3 y4) (trystref08_Fold.j1 (k + 1) y0 y1 y2 y3 y4)) ∧ (∀ y0 y1 y2 y3 y4 y5, LeO (trystref08_Fold.l1 k y0 y1 y2 y3 y4 y5) (trystref08_Fold.l1 (k + 1) y0 y1 y2 y3 y4 y5)) ∧ (∀ y0 y1 y2 y3 y4, LeO (trystref08_Fold.l2 k y0 y1 y2 y3 y4) (trystref08_Fold.l2 (k + 1) y0 y1 y2 y3 y4)) ∧ (∀ y0 y1 y2 y3 y4 y5, LeO (trystref08_Fold.j4 k y0 y1 y2 y3 y4 y5) (trystref08_Fold.j4 (k + 1) y0 y1 y2 y3 y4 y5)) ∧ (∀ y0 y1 y2 y3 y4 y5 y6 y7, LeO (trystref08_Fold.l3 k y0 y1 y2 y3 y4 y5 y6 y7) (trystref08_Fold.l3 (k + 1) y0 y1 y2 y3 y4 y5 y6 y7)) ∧ (∀ y0 y1 y2 y3 y4 y5 y6 y7 y8, LeO (trystref08_Fold.j6 k y0 y1 y2 y3 y4 y5 y6 y7 y8) (trystref08_Fold.j6 (k + 1) y0 y1 y2 y3 y4 y5 y6 y7 y8))
  | 0 => ⟨fun _ _ _ r h => by simp [trystref08_Fold.l0] at h, fun _ _ _ _ _ r h => by simp [trystref08_Fold.j1] at h, fun _ _ _ _ _ _ r h => by simp [trystref08_Fold.l1] at h, fun _ _ _ _ _ r h => by simp [trystref08_Fold.l2] at h, fun _ _ _ _ _ _ r h => by simp [trystref08_Fold.j4] at h, fun _ _ _ _ _ _ _ _ r h => by simp [trystref08_Fold.l3] at h, fun _ _ _ _ _ _ _ _ _ r h => by simp [trystref08_Fold.j6] at h⟩
  | k + 1 => by
    obtain ⟨ih0, ih1, ih2, ih3, ih4, ih5, ih6⟩ := trystref08_Fold.mono_l k
    refine ⟨?_, ?_, ?_, ?_, ?_, ?_, ?_⟩
    · intro y0 y1 y2
      unfold trystref08_Fold.l0
      repeat' first
      | (with_reducible exact ih0 _ _ _)
      | (with_reducible exact ih1 _ _ _ _ _)
      | (with_reducible exact ih2 _ _ _ _ _ _)
      | (with_reducible exact ih3 _ _ _ _ _)
      | (with_reducible exact ih4 _ _ _ _ _ _)
      | (with_reducible exact ih5 _ _ _ _ _ _ _ _)
      | (with_reducible exact ih6 _ _ _ _ _ _ _ _ _)
      | (with_reducible exact trystref08_size.mono _ _ _)
      | (with_reducible exact LeO.refl _)
      | (with_reducible exact LeO.none _)
      | (with_reducible refine LeO.ite ?_ ?_)
      | (with_reducible refine LeO.bind ?_ (fun _ => ?_))
      | exact ih0 _ _ _
      | exact ih1 _ _ _ _ _
      | exact ih2 _ _ _ _ _ _
      | exact ih3 _ _ _ _ _
      | exact ih4 _ _ _ _ _ _
      | exact ih5 _ _ _ _ _ _ _ _
      | exact ih6 _ _ _ _ _ _ _ _ _
      | exact trystref08_size.mono _ _ _
      | exact LeO.none _
      | refine LeO.ite ?_ ?_
      | refine LeO.bind ?_ (fun _ => ?_)
    · intro y0 y1 y2 y3 y4
      unfold trystref08_Fold.j1
      repeat' first
      | (with_reducible exact ih0 _ _ _)
      | (with_reducible exact ih1 _ _ _ _ _)
      | (with_reducible exact ih2 _ _ _ _ _ _)
      | (with_reducible exact ih3 _ _ _ _ _)
      | (with_reducible exact ih4 _ _ _ _ _ _)
      | (with_reducible exact ih5 _ _ _ _ _ _ _ _)
      | (with_reducible exact ih6 _ _ _ _ _ _ _ _ _)
      | (with_reducible exact trystref08_size.mono _ _ _)
      | (with_reducible exact LeO.refl _)
      | (with_reducible exact LeO.none _)
      | (with_reducible refine LeO.ite ?_ ?_)
      | (with_reducible refine LeO.bind ?_ (fun _ => ?_))
      | exact ih0 _ _ _
      | exact ih1 _ _ _ _ _
      | exact ih2 _ _ _ _ _ _
      | exact ih3 _ _ _ _ _
      | exact ih4 _ _ _ _ _ _
      | exact ih5 _ _ _ _ _ _ _ _
      | exact ih6 _ _ _ _ _ _ _ _ _
      | exact trystref08_size.mono _ _ _
      | exact LeO.none _
      | refine LeO.ite ?_ ?_
      | refine LeO.bind ?_ (fun _ => ?_)
    · intro y0 y1 y2 y3 y4 y5
      unfold trystref08_Fold.l1
      repeat' first
      | (with_reducible exact ih0 _ _ _)
      | (with_reducible exact ih1 _ _ _ _ _)
      | (with_reducible exact ih2 _ _ _ _ _ _)
      | (with_reducible exact ih3 _ _ _ _ _)
      | (with_reducible exact ih4 _ _ _ _ _ _)
      | (with_reducible exact ih5 _ _ _ _ _ _ _ _)
      | (with_reducible exact ih6 _ _ _ _ _ _ _ _ _)
      | (with_reducible exact trystref08_size.mono _ _ _)
      | (with_reducible exact LeO.refl _)
      | (with_reducible exact LeO.none _)
      | (with_reducible refine LeO.ite ?_ ?_)
      | (with_reducible refine LeO.bind ?_ (fun _ => ?_))
      | exact ih0 _ _ _
      | exact ih1 _ _ _ _ _
      | exact ih2 _ _ _ _ _ _
      | exact ih3 _ _ _ _ _
      | exact ih4 _ _ _ _ _ _
      | exact ih5 _ _ _ _ _ _ _ _
      | exact ih6 _ _ _ _ _ _ _ _ _
      | exact trystref08_size.mono _ _ _
      | exact LeO.none _
      | refine LeO.ite ?_ ?_
      | refine LeO.bind ?_ (fun _ => ?_)
    · intro y0 y1 y2 y3 y4
      unfold trystref08_Fold.l2
      repeat' first
      | (with_reducible exact ih0 _ _ _)
      | (with_reducible exact ih1 _ _ _ _ _)
      | (with_reducible exact ih2 _ _ _ _ _ _)
      | (with_reducible exact ih3 _ _ _ _ _)
      | (with_reducible exact ih4 _ _ _ _ _ _)
      | (with_reducible exact ih5 _ _ _ _ _ _ _ _)
      | (with_reducible exact ih6 _ _ _ _ _ _ _ _ _)
      | (with_reducible exact trystref08_size.mono _ _ _)
      | (with_reducible exact LeO.refl _)
      | (with_reducible exact LeO.none _)
      | (with_reducible refine LeO.ite ?_ ?_)
      | (with_reducible refine LeO.bind ?_ (fun _ => ?_))
      | exact ih0 _ _ _
      | exact ih1 _ _ _ _ _
      | exact ih2 _ _ _ _ _ _
      | exact ih3 _ _ _ _ _
      | exact ih4 _ _ _ _ _ _
      | exact ih5 _ _ _ _ _ _ _ _
      | exact ih6 _ _ _ _ _ _ _ _ _
      | exact trystref08_size.mono _ _ _
      | exact LeO.none _
      | refine LeO.ite ?_ ?_
      | refine LeO.bind ?_ (fun _ => ?_)
    · intro y0 y1 y2 y3 y4 y5
      unfold trystref08_Fold.j4
      repeat' first
      | (with_reducible exact ih0 _ _ _)
      | (with_reducible exact ih1 _ _ _ _ _)
      | (with_reducible exact ih2 _ _ _ _ _ _)
      | (with_reducible exact ih3 _ _ _ _ _)
      | (with_reducible exact ih4 _ _ _ _ _ _)
      | (with_reducible exact ih5 _ _ _ _ _ _ _ _)
      | (with_reducible exact ih6 _ _ _ _ _ _ _ _ _)
      | (with_reducible exact trystref08_size.mono _ _ _)
      | (with_reducible exact LeO.refl _)
      | (with_reducible exact LeO.none _)
      | (with_reducible refine LeO.ite ?_ ?_)
      | (with_reducible refine LeO.bind ?_ (fun _ => ?_))
      | exact ih0 _ _ _
      | exact ih1 _ _ _ _ _
      | exact ih2 _ _ _ _ _ _
      | exact ih3 _ _ _ _ _
      | exact ih4 _ _ _ _ _ _
      | exact ih5 _ _ _ _ _ _ _ _
      | exact ih6 _ _ _ _ _ _ _ _ _
      | exact trystref08_size.mono _ _ _
      | exact LeO.none _
      | refine LeO.ite ?_ ?_
      | refine LeO.bind ?_ (fun _ => ?_)
    · intro y0 y1 y2 y3 y4 y5 y6 y7
      unfold trystref08_Fold.l3
      repeat' first
      | (with_reducible exact ih0 _ _ _)
      | (with_reducible exact ih1 _ _ _ _ _)
      | (with_reducible exact ih2 _ _ _ _ _ _)
      | (with_reducible exact ih3 _ _ _ _ _)
      | (with_reducible exact ih4 _ _ _ _ _ _)
      | (with_reducible exact ih5 _ _ _ _ _ _ _ _)
      | (with_reducible exact ih6 _ _ _ _ _ _ _ _ _)
      | (with_reducible exact trystref08_size.mono _ _ _)
      | (with_reducible exact LeO.refl _)
      | (with_reducible exact LeO.none _)
      | (with_reducible refine LeO.ite ?_ ?_)
      | (with_reducible refine LeO.bind ?_ (fun _ => ?_))
      | exact ih0 _ _ _
      | exact ih1 _ _ _ _ _
      | exact ih2 _ _ _ _ _ _
      | exact ih3 _ _ _ _ _
      | exact ih4 _ _ _ _ _ _
      | exact ih5 _ _ _ _ _ _ _ _
      | exact ih6 _ _ _ _ _ _ _ _ _
      | exact trystref08_size.mono _ _ _
      | exact LeO.none _
      | refine LeO.ite ?_ ?_
      | refine LeO.bind ?_ (fun _ => ?_)
    · intro y0 y1 y2 y3 y4 y5 y6 y7 y8
      unfold trystref08_Fold.j6
      repeat' first
      | (with_reducible exact ih0 _ _ _)
      | (with_reducible exact ih1 _ _ _ _ _)
      | (with_reducible exact ih2 _ _ _ _ _ _)
      | (with_reducible exact ih3 _ _ _ _ _)
      | (with_reducible exact ih4 _ _ _ _ _ _)
      | (with_reducible exact ih5 _ _ _ _ _ _ _ _)
      | (with_reducible exact ih6 _ _ _ _ _ _ _ _ _)
      | (with_reducible exact trystref08_size.mono _ _ _)
      | (with_reducible exact LeO.refl _)
      | (with_reducible exact LeO.none _)
      | (with_reducible refine LeO.ite ?_ ?_)
      | (with_reducible refine LeO.bind ?_ (fun _ => ?_))
      | exact ih0 _ _ _
      | exact ih1 _ _ _ _ _
      | exact ih2 _ _ _ _ _ _
      | exact ih3 _ _ _ _ _
      | exact ih4 _ _ _ _ _ _
      | exact ih5 _ _ _ _ _ _ _ _
      | exact ih6 _ _ _ _ _ _ _ _ _
      | exact trystref08_size.mono _ _ _
      | exact LeO.none _
      | refine LeO.ite ?_ ?_
      | refine LeO.bind ?_ (fun _ => ?_)
theorem trystref08_Fold.mono : ∀ a0 k, LeO (trystref08_Fold.f k a0) (trystref08_Fold.f (k + 1) a0) := by
  intro a0 k
  obtain ⟨ih0, ih1, ih2, ih3, ih4, ih5, ih6⟩ := trystref08_Fold.mono_l k
  unfold trystref08_Fold.f
  repeat' first
      | (with_reducible exact ih0 _ _ _)
      | (with_reducible exact ih1 _ _ _ _ _)
      | (with_reducible exact ih2 _ _ _ _ _ _)
      | (with_reducible exact ih3 _ _ _ _ _)
      | (with_reducible exact ih4 _ _ _ _ _ _)
      | (with_reducible exact ih5 _ _ _ _ _ _ _ _)
      | (with_reducible exact ih6 _ _ _ _ _ _ _ _ _)
      | (with_reducible exact trystref08_size.mono _ _ _)
      | (with_reducible exact LeO.refl _)
      | (with_reducible exact LeO.none _)
      | (with_reducible refine LeO.ite ?_ ?_)
      | (with_reducible refine LeO.bind ?_ (fun _ => ?_))
      | exact ih0 _ _ _
      | exact ih1 _ _ _ _ _
      | exact ih2 _ _ _ _ _ _
      | exact ih3 _ _ _ _ _
      | exact ih4 _ _ _ _ _ _
      | exact ih5 _ _ _ _ _ _ _ _
      | exact ih6 _ _ _ _ _ _ _ _ _
      | exact trystref08_size.mono _ _ _
      | exact LeO.none _
      | refine LeO.ite ?_ ?_
      | refine LeO.bind ?_ (fun _ => ?_)
set_option maxHeartbeats 8000000 in
set_option maxRecDepth 100000 in
theorem trystref08_Fold.calls (k : Nat) (A0 : Option Addr) (c0 : Nat) (l0 : List ByteArray) (r1 : ByteArray) (r2 : Int) (w : World) (hG : GG w) (hr0 : Kd.C Kd.string w A0 l0.length l0) (hc0 : l0.length ≤ c0) (h : trystref08_Fold.f k l0 = some (r1, r2)) :
    Calls Tryd.prog 28 #[.slice A0 l0.length c0] w fun e w' => e = .returned (.tuple #[.string r1, .int .i64 r2]) ∧ Below w.heap.size w w' := by
  have HR0 := Aside0.mk hr0
  have HC0 := Aside0.mk hc0
  clear hr0 hc0
  have HB := Aside0.mk (Below.refl w.heap.size w)
  have H : (trystref08_Fold.l0 k l0 (l0.length : Int) 0) = some (r1, r2) := h
  clear h
  have H' := Aside0.mk H
  clear H
  go_enter Tryd.func28, Tryd.ntmps28
  go_wp2
  go_loopg [16] k (fun kq v16 w' => ∃ (x16_1 : Int), v16 = .int .i64 x16_1 ∧ Aside0 (trystref08_Fold.l0 kq l0 (l0.length : Int) x16_1 = some (r1, r2)) ∧ Aside0 (kq ≤ k) ∧ Aside0 (Below w.heap.size w w'))
  case atStart => exact ⟨(0), (by first | rfl | (simp; done) | (simp [bne_nil_isEmpty, beq_nil_isEmpty]; done) | (simp [*]; done)), H', ⟨Nat.le_refl _⟩, ⟨by repeat (first | (with_reducible first | exact HB.out | apply below_alloc | apply pw_below_drewN | apply below_drew1) | exact HB.out)⟩⟩
  case round =>
    clear H'
    obtain ⟨x16_1, rfl, HA, HK1, HB⟩ := hrel
    cases gk with
    | zero => exact absurd HA.out (by simp [trystref08_Fold.l0])
    | succ k1 =>
      have H := HA.out
      clear HA
      simp only [trystref08_Fold.l0] at H
      by_cases c2 : x16_1 < (l0.length : Int)
      · rw [if_pos c2] at H
        have c2b0 : decide (x16_1 < (l0.length : Int)) = true := decide_eq_true c2
        clear c2
        by_cases c3 : 0 ≤ x16_1
        · rw [if_pos c3] at H
          have c3b0 : decide (0 ≤ x16_1) = true := decide_eq_true c3
          clear c3
          by_cases c4 : x16_1 < (l0.length : Int)
          · rw [if_pos c4] at H
            have c4b0 : decide (x16_1 < (l0.length : Int)) = true := decide_eq_true c4
            clear c4
            have HC5 := Aside0.mk H
            clear H
            have p214 : 0 ≤ (x16_1 : Int) := of_decide_eq_true (by first | (with_reducible assumption) | assumption)
            have q214 : x16_1 < (l0.length : Int) := of_decide_eq_true (by first | (with_reducible assumption) | assumption)
            obtain ⟨ad214, e214, hx214_0⟩ := Kd.at_string HR0.out x16_1 p214 q214
            cases e214
            replace hx214_0 := (HB.out.cell (World.block_lt_of_cell? w _ hx214_0)).trans hx214_0
            replace p214 := eq_true p214
            replace q214 := eq_true q214
            go_upto_region 5 with (fail)
            go_cut [34] (fun v34 wc => ∃ (kq : Nat) (x34_4 : Bool), v34 = .bool x34_4 ∧ Aside0 (trystref08_Fold.j1 kq l0 (rdOf ByteArray.empty l0 x16_1) (l0.length : Int) x16_1 x34_4 = some (r1, r2)) ∧ Aside0 (kq ≤ k1) ∧ Aside0 (Below w.heap.size w wc))
            case first =>
              have H := HC5.out
              clear HC5
              by_cases c6 : (rdOf ByteArray.empty l0 x16_1).toList = ([] : List UInt8)
              · rw [if_pos c6] at H
                have c6b0 : ((rdOf ByteArray.empty l0 x16_1).toList == ([] : List UInt8)) = true := beq_iff_eq.mpr c6
                have c6b1 : ((rdOf ByteArray.empty l0 x16_1).toList != ([] : List UInt8)) = false := bne_eq_false_iff_eq.mpr c6
                clear c6
                (first | rw [c6b0] | (simp only [i64_w, i32_w]; rw [c6b0]) | skip)
                have H' := Aside0.mk H
                clear H
                go_wp2
                go_meet
                case rel => exact ⟨_, (true), (by first | rfl | (simp; done) | (simp [bne_nil_isEmpty, beq_nil_isEmpty]; done) | (simp [*]; done)), H', ⟨by have := HK1.out; first | omega | exact Nat.le_refl _⟩, ⟨by repeat (first | (with_reducible first | exact HB.out | apply below_alloc | apply pw_below_drewN | apply below_drew1) | exact HB.out)⟩⟩
              · rw [if_neg c6] at H
                have c6b0 : ((rdOf ByteArray.empty l0 x16_1).toList == ([] : List UInt8)) = false := beq_eq_false_iff_ne.mpr c6
                have c6b1 : ((rdOf ByteArray.empty l0 x16_1).toList != ([] : List UInt8)) = true := bne_iff_ne.mpr c6
                (first | rw [c6b0] | (simp only [i64_w, i32_w]; rw [c6b0]) | skip)
                by_cases c7 : 0 < ((rdOf ByteArray.empty l0 x16_1).size : Int)
                · rw [if_pos c7] at H
                  have c7b0 : decide (0 < ((rdOf ByteArray.empty l0 x16_1).size : Int)) = true := decide_eq_true c7
                  have c7b1 : decide (0 < (rdOf ByteArray.empty l0 x16_1).size) = true := decide_eq_true (by omega)
                  clear c7
                  by_cases c9 : (bt (rdOf ByteArray.empty l0 x16_1) 0) = 32
                  · rw [if_pos c9] at H
                    have c9b0 : ((bt (rdOf ByteArray.empty l0 x16_1) 0) == 32) = true := beq_iff_eq.mpr c9
                    have c9b1 : ((bt (rdOf ByteArray.empty l0 x16_1) 0) != 32) = false := bne_eq_false_iff_eq.mpr c9
                    clear c9
                    have H' := Aside0.mk H
                    clear H
                    have p8 : 0 ≤ (0 : Int) := (by omega)
                    have q8 : 0 < (rdOf ByteArray.empty l0 x16_1).size := (by have : (0 : Int) < ((rdOf ByteArray.empty l0 x16_1).size : Int) := of_decide_eq_true (by first | (with_reducible assumption) | assumption); omega)
                    have hx8 : ∀ h : 0 < (rdOf ByteArray.empty l0 x16_1).size, (((rdOf ByteArray.empty l0 x16_1)[0]'h).toNat : Int) = bt (rdOf ByteArray.empty l0 x16_1) 0 := bt_at (rdOf ByteArray.empty l0 x16_1) 0
                    clear p8
                    have qi8 : (0 < ((rdOf ByteArray.empty l0 x16_1).size : Int)) = True := eq_true (of_decide_eq_true (by first | (with_reducible assumption) | assumption))
                    replace q8 := eq_true q8
                    go_wp2
                    go_meet
                    case rel => exact ⟨_, (true), (by first | rfl | (simp; done) | (simp [bne_nil_isEmpty, beq_nil_isEmpty]; done) | (simp [*]; done)), H', ⟨by have := HK1.out; first | omega | exact Nat.le_refl _⟩, ⟨by repeat (first | (with_reducible first | exact HB.out | apply below_alloc | apply pw_below_drewN | apply below_drew1) | exact HB.out)⟩⟩
                  · rw [if_neg c9] at H
                    have c9b0 : ((bt (rdOf ByteArray.empty l0 x16_1) 0) == 32) = false := beq_eq_false_iff_ne.mpr c9
                    have c9b1 : ((bt (rdOf ByteArray.empty l0 x16_1) 0) != 32) = true := bne_iff_ne.mpr c9
                    have H' := Aside0.mk H
                    clear H
                    have p8 : 0 ≤ (0 : Int) := (by omega)
                    have q8 : 0 < (rdOf ByteArray.empty l0 x16_1).size := (by have : (0 : Int) < ((rdOf ByteArray.empty l0 x16_1).size : Int) := of_decide_eq_true (by first | (with_reducible assumption) | assumption); omega)
                    have hx8 : ∀ h : 0 < (rdOf ByteArray.empty l0 x16_1).size, (((rdOf ByteArray.empty l0 x16_1)[0]'h).toNat : Int) = bt (rdOf ByteArray.empty l0 x16_1) 0 := bt_at (rdOf ByteArray.empty l0 x16_1) 0
                    clear p8
                    have qi8 : (0 < ((rdOf ByteArray.empty l0 x16_1).size : Int)) = True := eq_true (of_decide_eq_true (by first | (with_reducible assumption) | assumption))
                    replace q8 := eq_true q8
                    have p10 : 0 ≤ (0 : Int) := (by omega)
                    have q10 : 0 < (rdOf ByteArray.empty l0 x16_1).size := (by have : (0 : Int) < ((rdOf ByteArray.empty l0 x16_1).size : Int) := of_decide_eq_true (by first | (with_reducible assumption) | assumption); omega)
                    have hx10 : ∀ h : 0 < (rdOf ByteArray.empty l0 x16_1).size, (((rdOf ByteArray.empty l0 x16_1)[0]'h).toNat : Int) = bt (rdOf ByteArray.empty l0 x16_1) 0 := bt_at (rdOf ByteArray.empty l0 x16_1) 0
                    clear p10
                    have qi10 : (0 < ((rdOf ByteArray.empty l0 x16_1).size : Int)) = True := eq_true (of_decide_eq_true (by first | (with_reducible assumption) | assumption))
                    replace q10 := eq_true q10
                    go_wp2
                    go_meet
                    case rel => exact ⟨_, (((bt (rdOf ByteArray.empty l0 x16_1) 0) == 9)), (by first | rfl | (simp; done) | (simp [bne_nil_isEmpty, beq_nil_isEmpty]; done) | (simp [*]; done)), H', ⟨by have := HK1.out; first | omega | exact Nat.le_refl _⟩, ⟨by repeat (first | (with_reducible first | exact HB.out | apply below_alloc | apply pw_below_drewN | apply below_drew1) | exact HB.out)⟩⟩
                · rw [if_neg c7] at H
                  exact absurd H (by simp)
            case rest =>
              clear HC5
              try clear p1
              try clear q1
              try clear hx1
              try clear qi1
              try clear c2
              try clear c2b0
              try clear p2
              try clear q2
              try clear hx2
              try clear c3
              try clear c3b0
              try clear c4
              try clear c4b0
              try clear c6
              try clear c6b0
              try clear c6b1
              try clear c7
              try clear c7b0
              try clear c7b1
              try clear p8
              try clear q8
              try clear hx8
              try clear qi8
              try clear c9
              try clear c9b0
              try clear c9b1
              try clear p10
              try clear q10
              try clear hx10
              try clear qi10
              try clear hx214_0
              try clear p10
              try clear p214
              try clear p8
              try clear q10
              try clear q214
              try clear q8
              obtain ⟨kq, x34_4, rfl, HA, HJ4, HB⟩ := hcut
              cases kq with
              | zero => exact absurd HA.out (by simp [trystref08_Fold.j1])
              | succ kj4 =>
                have H := HA.out
                clear HA
                simp only [trystref08_Fold.j1] at H
                by_cases c11 : x34_4 = true
                · subst c11
                  have H1 : (some ((⟨#[]⟩ : ByteArray), 5)) = some (r1, r2) := by rw [if_pos rfl] at H; exact H
                  clear H
                  have H := H1
                  clear H1
                  simp only [Option.some.injEq, Prod.mk.injEq] at H
                  obtain ⟨rfl, rfl⟩ := H
                  go_wp2
                  go_ret2
                  exact ⟨by first | rfl | (simp [errW_none, errW_some] <;> rfl) | (simp [*, errW_none, errW_some] <;> rfl), by repeat (first | (with_reducible first | exact HB.out | apply below_alloc | apply pw_below_drewN | apply below_drew1) | exact HB.out)⟩
                · replace c11 := Bool.eq_false_iff.mpr c11
                  subst c11
                  have H1 : (trystref08_Fold.l1 kj4 l0 (rdOf ByteArray.empty l0 x16_1) (l0.length : Int) x16_1 ((rdOf ByteArray.empty l0 x16_1).size : Int) 0) = some (r1, r2) := by rw [if_neg (show ¬ (false = true) by decide)] at H; exact H
                  clear H
                  have H := H1
                  clear H1
                  have H' := Aside0.mk H
                  clear H
                  go_wp2
                  go_loopg [37] kj4 (fun kq v37 w' => ∃ (x37_3 : Int), v37 = .int .i64 x37_3 ∧ Aside0 (trystref08_Fold.l1 kq l0 (rdOf ByteArray.empty l0 x16_1) (l0.length : Int) x16_1 ((rdOf ByteArray.empty l0 x16_1).size : Int) x37_3 = some (r1, r2)) ∧ Aside0 (kq ≤ kj4) ∧ Aside0 (Below w.heap.size w w'))
                  case atStart => exact ⟨(0), (by first | rfl | (simp; done) | (simp [bne_nil_isEmpty, beq_nil_isEmpty]; done) | (simp [*]; done)), H', ⟨Nat.le_refl _⟩, ⟨by repeat (first | (with_reducible first | exact HB.out | apply below_alloc | apply pw_below_drewN | apply below_drew1) | exact HB.out)⟩⟩
                  case round =>
                    clear H'
                    try clear c1
                    try clear p1
                    try clear q1
                    try clear hx1
                    try clear qi1
                    try clear c2
                    try clear c2b0
                    try clear p2
                    try clear q2
                    try clear hx2
                    try clear c3
                    try clear c3b0
                    try clear c4
                    try clear c4b0
                    try clear c6
                    try clear c6b0
                    try clear c6b1
                    try clear c7
                    try clear c7b0
                    try clear c7b1
                    try clear p8
                    try clear q8
                    try clear hx8
                    try clear qi8
                    try clear c9
                    try clear c9b0
                    try clear c9b1
                    try clear p10
                    try clear q10
                    try clear hx10
                    try clear qi10
                    try clear c11
                    try clear hx214_0
                    try clear p1
                    try clear p10
                    try clear p2
                    try clear p214
                    try clear p8
                    try clear q1
                    try clear q10
                    try clear q2
                    try clear q214
                    try clear q8
                    obtain ⟨x37_3, rfl, HA, HK3, HB⟩ := hrel
                    cases gk with
                    | zero => exact absurd HA.out (by simp [trystref08_Fold.l1])
                    | succ k3 =>
                      have H := HA.out
                      clear HA
                      simp only [trystref08_Fold.l1] at H
                      by_cases c12 : x37_3 < ((rdOf ByteArray.empty l0 x16_1).size : Int)
                      · rw [if_pos c12] at H
                        have c12b0 : decide (x37_3 < ((rdOf ByteArray.empty l0 x16_1).size : Int)) = true := decide_eq_true c12
                        clear c12
                        by_cases c13 : 0 ≤ x37_3
                        · rw [if_pos c13] at H
                          have c13b0 : decide (0 ≤ x37_3) = true := decide_eq_true c13
                          clear c13
                          by_cases c14 : x37_3 < ((rdOf ByteArray.empty l0 x16_1).size : Int)
                          · rw [if_pos c14] at H
                            have c14b0 : decide (x37_3 < ((rdOf ByteArray.empty l0 x16_1).size : Int)) = true := decide_eq_true c14
                            clear c14
                            by_cases c16 : (bt (rdOf ByteArray.empty l0 x16_1) x37_3) = 13
                            · rw [if_pos c16] at H
                              have c16b0 : ((bt (rdOf ByteArray.empty l0 x16_1) x37_3) == 13) = true := beq_iff_eq.mpr c16
                              have c16b1 : ((bt (rdOf ByteArray.empty l0 x16_1) x37_3) != 13) = false := bne_eq_false_iff_eq.mpr c16
                              clear c16
                              simp only [Option.some.injEq, Prod.mk.injEq] at H
                              obtain ⟨rfl, rfl⟩ := H
                              have p15 : 0 ≤ (x37_3 : Int) := of_decide_eq_true (by first | (with_reducible assumption) | assumption)
                              have q15 : x37_3 < ((rdOf ByteArray.empty l0 x16_1).size : Int) := of_decide_eq_true (by first | (with_reducible assumption) | assumption)
                              have hx15 := bt_at (rdOf ByteArray.empty l0 x16_1) x37_3
                              replace p15 := eq_true p15
                              replace q15 := eq_true q15
                              go_wp2
                              go_ret2
                              exact ⟨by first | rfl | (simp [errW_none, errW_some] <;> rfl) | (simp [*, errW_none, errW_some] <;> rfl), by repeat (first | (with_reducible first | exact HB.out | apply below_alloc | apply pw_below_drewN | apply below_drew1) | exact HB.out)⟩
                            · rw [if_neg c16] at H
                              have c16b0 : ((bt (rdOf ByteArray.empty l0 x16_1) x37_3) == 13) = false := beq_eq_false_iff_ne.mpr c16
                              have c16b1 : ((bt (rdOf ByteArray.empty l0 x16_1) x37_3) != 13) = true := bne_iff_ne.mpr c16
                              by_cases c18 : (bt (rdOf ByteArray.empty l0 x16_1) x37_3) = 10
                              · rw [if_pos c18] at H
                                have c18b0 : ((bt (rdOf ByteArray.empty l0 x16_1) x37_3) == 10) = true := beq_iff_eq.mpr c18
                                have c18b1 : ((bt (rdOf ByteArray.empty l0 x16_1) x37_3) != 10) = false := bne_eq_false_iff_eq.mpr c18
                                clear c18
                                simp only [Option.some.injEq, Prod.mk.injEq] at H
                                obtain ⟨rfl, rfl⟩ := H
                                have p15 : 0 ≤ (x37_3 : Int) := of_decide_eq_true (by first | (with_reducible assumption) | assumption)
                                have q15 : x37_3 < ((rdOf ByteArray.empty l0 x16_1).size : Int) := of_decide_eq_true (by first | (with_reducible assumption) | assumption)
                                have hx15 := bt_at (rdOf ByteArray.empty l0 x16_1) x37_3
                                replace p15 := eq_true p15
                                replace q15 := eq_true q15
                                have p17 : 0 ≤ (x37_3 : Int) := of_decide_eq_true (by first | (with_reducible assumption) | assumption)
                                have q17 : x37_3 < ((rdOf ByteArray.empty l0 x16_1).size : Int) := of_decide_eq_true (by first | (with_reducible assumption) | assumption)
                                have hx17 := bt_at (rdOf ByteArray.empty l0 x16_1) x37_3
                                replace p17 := eq_true p17
                                replace q17 := eq_true q17
                                go_wp2
                                go_ret2
                                exact ⟨by first | rfl | (simp [errW_none, errW_some] <;> rfl) | (simp [*, errW_none, errW_some] <;> rfl), by repeat (first | (with_reducible first | exact HB.out | apply below_alloc | apply pw_below_drewN | apply below_drew1) | exact HB.out)⟩
                              · rw [if_neg c18] at H
                                have c18b0 : ((bt (rdOf ByteArray.empty l0 x16_1) x37_3) == 10) = false := beq_eq_false_iff_ne.mpr c18
                                have c18b1 : ((bt (rdOf ByteArray.empty l0 x16_1) x37_3) != 10) = true := bne_iff_ne.mpr c18
                                have H' := Aside0.mk H
                                clear H
                                have p15 : 0 ≤ (x37_3 : Int) := of_decide_eq_true (by first | (with_reducible assumption) | assumption)
                                have q15 : x37_3 < ((rdOf ByteArray.empty l0 x16_1).size : Int) := of_decide_eq_true (by first | (with_reducible assumption) | assumption)
                                have hx15 := bt_at (rdOf ByteArray.empty l0 x16_1) x37_3
                                replace p15 := eq_true p15
                                replace q15 := eq_true q15
                                have p17 : 0 ≤ (x37_3 : Int) := of_decide_eq_true (by first | (with_reducible assumption) | assumption)
                                have q17 : x37_3 < ((rdOf ByteArray.empty l0 x16_1).size : Int) := of_decide_eq_true (by first | (with_reducible assumption) | assumption)
                                have hx17 := bt_at (rdOf ByteArray.empty l0 x16_1) x37_3
                                replace p17 := eq_true p17
                                replace q17 := eq_true q17
                                go_wp2
                                go_roundg k3
                                case measure => have := HK1.out; have := HJ4.out; have := HK3.out; omega
                                case rel => exact ⟨(wrap64 (x37_3 + 1)), (by first | rfl | (simp; done) | (simp [bne_nil_isEmpty, beq_nil_isEmpty]; done) | (simp [*]; done)), H', ⟨by have := HK1.out; have := HJ4.out; have := HK3.out; omega⟩, ⟨by repeat (first | (with_reducible first | exact HB.out | apply below_alloc | apply pw_below_drewN | apply below_drew1) | exact HB.out)⟩⟩
                          · rw [if_neg c14] at H
                            exact absurd H (by simp)
                        · rw [if_neg c13] at H
                          exact absurd H (by simp)
                      · rw [if_neg c12] at H
                        have c12b0 : decide (x37_3 < ((rdOf ByteArray.empty l0 x16_1).size : Int)) = false := decide_eq_false c12
                        clear c12
                        have H' := Aside0.mk H
                        clear H
                        go_wp2
                        go_roundg k3
                        case measure => have := HK1.out; have := HJ4.out; have := HK3.out; omega
                        case rel => exact ⟨(wrap64 (x16_1 + 1)), (by first | rfl | (simp; done) | (simp [bne_nil_isEmpty, beq_nil_isEmpty]; done) | (simp [*]; done)), H', ⟨by have := HK1.out; have := HJ4.out; have := HK3.out; omega⟩, ⟨by repeat (first | (with_reducible first | exact HB.out | apply below_alloc | apply pw_below_drewN | apply below_drew1) | exact HB.out)⟩⟩
          · rw [if_neg c4] at H
            exact absurd H (by simp)
        · rw [if_neg c3] at H
          exact absurd H (by simp)
      · rw [if_neg c2] at H
        have c2b0 : decide (x16_1 < (l0.length : Int)) = false := decide_eq_false c2
        clear c2
        have H' := Aside0.mk H
        clear H
        go_wp2
        go_loopg [7, 8, 54] k1 (fun kq v7 v8 v54 w' => ∃ (x7_2 : List Int) (x8_2 : Bool) (x54_2 : Int), v8 = .bool x8_2 ∧ v54 = .int .i64 x54_2 ∧ Aside0 (trystref08_Fold.l2 kq l0 x7_2 x8_2 (l0.length : Int) x54_2 = some (r1, r2)) ∧ Aside0 (kq ≤ k1) ∧ Aside0 (Kd.R (Kd.int .u8) 5 w' w.heap.size (fun _ => True) v7 x7_2) ∧ Aside0 (Below w.heap.size w w'))
        case atStart => exact ⟨(([] : List Int)), (false), (0), (by first | rfl | (simp; done) | (simp [bne_nil_isEmpty, beq_nil_isEmpty]; done) | (simp [*]; done)), (by first | rfl | (simp; done) | (simp [bne_nil_isEmpty, beq_nil_isEmpty]; done) | (simp [*]; done)), H', ⟨Nat.le_refl _⟩, ⟨by first | exact Kd.R_nil _ _ _ _ _ | exact Kd.N_nil _ _ _ _ _ | exact Kd.V_nil _ _ _ _ _ | exact Kd.Q_nil _ _ _ _ _ | exact Kd.S_nil _ _ _ _ _⟩, ⟨by repeat (first | (with_reducible first | exact HB.out | apply below_alloc | apply pw_below_drewN | apply below_drew1) | exact HB.out)⟩⟩
        case round =>
          clear H'
          try clear c1
          try clear p1
          try clear q1
          try clear hx1
          try clear qi1
          try clear c2
          try clear c2b0
          try clear p2
          try clear q2
          try clear hx2
          try clear c3
          try clear c3b0
          try clear c4
          try clear c4b0
          try clear c6
          try clear c6b0
          try clear c6b1
          try clear p6
          try clear c7
          try clear c7b0
          try clear c7b1
          try clear p8
          try clear q8
          try clear hx8
          try clear qi8
          try clear c9
          try clear c9b0
          try clear c9b1
          try clear p10
          try clear q10
          try clear hx10
          try clear qi10
          try clear c11
          try clear c12
          try clear c12b0
          try clear c13
          try clear c13b0
          try clear c14
          try clear c14b0
          try clear p15
          try clear q15
          try clear hx15
          try clear c16
          try clear c16b0
          try clear c16b1
          try clear p17
          try clear q17
          try clear hx17
          try clear c18
          try clear c18b0
          try clear c18b1
          try clear hx214_0
          try clear p1
          try clear p10
          try clear p15
          try clear p17
          try clear p2
          try clear p214
          try clear p8
          try clear q1
          try clear q10
          try clear q15
          try clear q17
          try clear q2
          try clear q214
          try clear q8
          obtain ⟨x7_2, x8_2, x54_2, rfl, rfl, HA, HK2, HO_7, HB⟩ := hrel
          cases gk with
          | zero => exact absurd HA.out (by simp [trystref08_Fold.l2])
          | succ k2 =>
            have H := HA.out
            clear HA
            simp only [trystref08_Fold.l2] at H
            by_cases c19 : x54_2 < (l0.length : Int)
            · rw [if_pos c19] at H
              have c19b0 : decide (x54_2 < (l0.length : Int)) = true := decide_eq_true c19
              clear c19
              by_cases c20 : 0 ≤ x54_2
              · rw [if_pos c20] at H
                have c20b0 : decide (0 ≤ x54_2) = true := decide_eq_true c20
                clear c20
                by_cases c21 : x54_2 < (l0.length : Int)
                · rw [if_pos c21] at H
                  have c21b0 : decide (x54_2 < (l0.length : Int)) = true := decide_eq_true c21
                  clear c21
                  have HC22 := Aside0.mk H
                  clear H
                  have p215 : 0 ≤ (x54_2 : Int) := of_decide_eq_true (by first | (with_reducible assumption) | assumption)
                  have q215 : x54_2 < (l0.length : Int) := of_decide_eq_true (by first | (with_reducible assumption) | assumption)
                  obtain ⟨ad215, e215, hx215_0⟩ := Kd.at_string HR0.out x54_2 p215 q215
                  cases e215
                  replace hx215_0 := (HB.out.cell (World.block_lt_of_cell? w _ hx215_0)).trans hx215_0
                  replace p215 := eq_true p215
                  replace q215 := eq_true q215
                  go_upto_region 20 with (fail)
                  go_cut [8] (fun v8 wc => ∃ (kq : Nat) (x8_21 : Bool), v8 = .bool x8_21 ∧ Aside0 (trystref08_Fold.j4 kq l0 x7_2 x8_21 (rdOf ByteArray.empty l0 x54_2) (l0.length : Int) x54_2 = some (r1, r2)) ∧ Aside0 (kq ≤ k2) ∧ Aside0 (Kd.R (Kd.int .u8) 5 wc w.heap.size (fun _ => True) u7 x7_2) ∧ Aside0 (Below w.heap.size w wc))
                  case first =>
                    have H := HC22.out
                    clear HC22
                    by_cases c23 : x8_2 = true
                    · subst c23
                      have H1 : (trystref08_Fold.j4 k2 l0 x7_2 true (rdOf ByteArray.empty l0 x54_2) (l0.length : Int) x54_2) = some (r1, r2) := by rw [if_pos rfl] at H; exact H
                      clear H
                      have H := H1
                      clear H1
                      have H' := Aside0.mk H
                      clear H
                      go_wp2
                      go_meet
                      case rel => exact ⟨_, (true), (by first | rfl | (simp; done) | (simp [bne_nil_isEmpty, beq_nil_isEmpty]; done) | (simp [*]; done)), H', ⟨by have := HK1.out; have := HK2.out; first | omega | exact Nat.le_refl _⟩, ⟨by (with_reducible repeat (first | apply Kd.R_alloc | apply Kd.R_drewN | apply Kd.R_drew)); exact HO_7.out⟩, ⟨by repeat (first | (with_reducible first | exact HB.out | apply below_alloc | apply pw_below_drewN | apply below_drew1) | exact HB.out)⟩⟩
                    · replace c23 := Bool.eq_false_iff.mpr c23
                      subst c23
                      have H1 : (trystref08_Fold.j4 k2 l0 x7_2 (decide (((rdOf ByteArray.empty l0 x54_2).size : Int) > 2000)) (rdOf ByteArray.empty l0 x54_2) (l0.length : Int) x54_2) = some (r1, r2) := by rw [if_neg (show ¬ (false = true) by decide)] at H; exact H
                      clear H
                      have H := H1
                      clear H1
                      have H' := Aside0.mk H
                      clear H
                      go_wp2
                      go_meet
                      case rel => exact ⟨_, (decide (((rdOf ByteArray.empty l0 x54_2).size : Int) > 2000)), (by first | rfl | (simp; done) | (simp [bne_nil_isEmpty, beq_nil_isEmpty]; done) | (simp [*]; done)), H', ⟨by have := HK1.out; have := HK2.out; first | omega | exact Nat.le_refl _⟩, ⟨by (with_reducible repeat (first | apply Kd.R_alloc | apply Kd.R_drewN | apply Kd.R_drew)); exact HO_7.out⟩, ⟨by repeat (first | (with_reducible first | exact HB.out | apply below_alloc | apply pw_below_drewN | apply below_drew1) | exact HB.out)⟩⟩
                  case rest =>
                    clear HC22
                    try clear c1
                    try clear p1
                    try clear q1
                    try clear hx1
                    try clear qi1
                    try clear c2
                    try clear c2b0
                    try clear p2
                    try clear q2
                    try clear hx2
                    try clear c3
                    try clear c3b0
                    try clear c4
                    try clear c4b0
                    try clear c6
                    try clear c6b0
                    try clear c6b1
                    try clear p6
                    try clear c7
                    try clear c7b0
                    try clear c7b1
                    try clear p8
                    try clear q8
                    try clear hx8
                    try clear qi8
                    try clear c9
                    try clear c9b0
                    try clear c9b1
                    try clear p10
                    try clear q10
                    try clear hx10
                    try clear qi10
                    try clear c11
                    try clear c12
                    try clear c12b0
                    try clear c13
                    try clear c13b0
                    try clear c14
                    try clear c14b0
                    try clear p15
                    try clear q15
                    try clear hx15
                    try clear c16
                    try clear c16b0
                    try clear c16b1
                    try clear p17
                    try clear q17
                    try clear hx17
                    try clear c18
                    try clear c18b0
                    try clear c18b1
                    try clear c19
                    try clear c19b0
                    try clear c20
                    try clear c20b0
                    try clear c21
                    try clear c21b0
                    try clear p21
                    try clear q21
                    try clear hx21
                    try clear c23
                    try clear hx214_0
                    try clear hx215_0
                    try clear p1
                    try clear p10
                    try clear p15
                    try clear p17
                    try clear p2
                    try clear p214
                    try clear p215
                    try clear p6
                    try clear p8
                    try clear q1
                    try clear q10
                    try clear q15
                    try clear q17
                    try clear q2
                    try clear q214
                    try clear q215
                    try clear q8
                    obtain ⟨kq, x8_21, rfl, HA, HJ21, HO_7, HB⟩ := hcut
                    cases kq with
                    | zero => exact absurd HA.out (by simp [trystref08_Fold.j4])
                    | succ kj21 =>
                      have H := HA.out
                      clear HA
                      simp only [trystref08_Fold.j4] at H
                      have H' := Aside0.mk H
                      clear H
                      go_wp2
                      go_loopg [7, 11, 12] kj21 (fun kq v7 v11 v12 w' => ∃ (x7_4 : List Int) (x11_4 : Int) (x12_4 : Int), v11 = .int .i64 x11_4 ∧ v12 = .int .i64 x12_4 ∧ Aside0 (trystref08_Fold.l3 kq l0 x7_4 x8_21 (rdOf ByteArray.empty l0 x54_2) x11_4 x12_4 (l0.length : Int) x54_2 = some (r1, r2)) ∧ Aside0 (kq ≤ kj21) ∧ Aside0 (Kd.R (Kd.int .u8) 5 w' w.heap.size (fun _ => True) v7 x7_4) ∧ Aside0 (Below w.heap.size w w'))
                      case atStart => exact ⟨(x7_2), (0), (0), (by first | rfl | (simp; done) | (simp [bne_nil_isEmpty, beq_nil_isEmpty]; done) | (simp [*]; done)), (by first | rfl | (simp; done) | (simp [bne_nil_isEmpty, beq_nil_isEmpty]; done) | (simp [*]; done)), H', ⟨Nat.le_refl _⟩, ⟨by (with_reducible repeat (first | apply Kd.R_alloc | apply Kd.R_drewN | apply Kd.R_drew)); exact HO_7.out⟩, ⟨by repeat (first | (with_reducible first | exact HB.out | apply below_alloc | apply pw_below_drewN | apply below_drew1) | exact HB.out)⟩⟩
                      case round =>
                        clear H'
                        try clear c1
                        try clear p1
                        try clear q1
                        try clear hx1
                        try clear qi1
                        try clear c2
                        try clear c2b0
                        try clear p2
                        try clear q2
                        try clear hx2
                        try clear c3
                        try clear c3b0
                        try clear c4
                        try clear c4b0
                        try clear c6
                        try clear c6b0
                        try clear c6b1
                        try clear p6
                        try clear c7
                        try clear c7b0
                        try clear c7b1
                        try clear p8
                        try clear q8
                        try clear hx8
                        try clear qi8
                        try clear c9
                        try clear c9b0
                        try clear c9b1
                        try clear p10
                        try clear q10
                        try clear hx10
                        try clear qi10
                        try clear c11
                        try clear c12
                        try clear c12b0
                        try clear c13
                        try clear c13b0
                        try clear c14
                        try clear c14b0
                        try clear p15
                        try clear q15
                        try clear hx15
                        try clear c16
                        try clear c16b0
                        try clear c16b1
                        try clear p17
                        try clear q17
                        try clear hx17
                        try clear c18
                        try clear c18b0
                        try clear c18b1
                        try clear c19
                        try clear c19b0
                        try clear c20
                        try clear c20b0
                        try clear c21
                        try clear c21b0
                        try clear p21
                        try clear q21
                        try clear hx21
                        try clear c23
                        try clear hx214_0
                        try clear hx215_0
                        try clear p1
                        try clear p10
                        try clear p15
                        try clear p17
                        try clear p2
                        try clear p21
                        try clear p214
                        try clear p215
                        try clear p6
                        try clear p8
                        try clear q1
                        try clear q10
                        try clear q15
                        try clear q17
                        try clear q2
                        try clear q21
                        try clear q214
                        try clear q215
                        try clear q8
                        obtain ⟨x7_4, x11_4, x12_4, rfl, rfl, HA, HK4, HO_7, HB⟩ := hrel
                        cases gk with
                        | zero => exact absurd HA.out (by simp [trystref08_Fold.l3])
                        | succ k4 =>
                          have H := HA.out
                          clear HA
                          simp only [trystref08_Fold.l3] at H
                          have HC24 := Aside0.mk H
                          clear H
                          go_upto_region 23 with (fail)
                          go_cut [74] (fun v74 wc => ∃ (kq : Nat) (x74_23 : Bool), v74 = .bool x74_23 ∧ Aside0 (trystref08_Fold.j6 kq l0 x7_4 x8_21 (rdOf ByteArray.empty l0 x54_2) x11_4 x12_4 (l0.length : Int) x54_2 x74_23 = some (r1, r2)) ∧ Aside0 (kq ≤ k4) ∧ Aside0 (Kd.R (Kd.int .u8) 5 wc w.heap.size (fun _ => True) u7 x7_4) ∧ Aside0 (Below w.heap.size w wc))
                          case first =>
                            have H := HC24.out
                            clear HC24
                            by_cases c25 : x12_4 < ((rdOf ByteArray.empty l0 x54_2).size : Int)
                            · rw [if_pos c25] at H
                              have c25b0 : decide (x12_4 < ((rdOf ByteArray.empty l0 x54_2).size : Int)) = true := decide_eq_true c25
                              clear c25
                              (first | rw [c25b0] | (simp only [i64_w, i32_w]; rw [c25b0]) | skip)
                              have H' := Aside0.mk H
                              clear H
                              go_wp2
                              go_meet
                              case rel => exact ⟨_, (!x8_21), (by first | rfl | (simp; done) | (simp [bne_nil_isEmpty, beq_nil_isEmpty]; done) | (simp [*]; done)), H', ⟨by have := HK1.out; have := HK2.out; have := HJ21.out; have := HK4.out; first | omega | exact Nat.le_refl _⟩, ⟨by (with_reducible repeat (first | apply Kd.R_alloc | apply Kd.R_drewN | apply Kd.R_drew)); exact HO_7.out⟩, ⟨by repeat (first | (with_reducible first | exact HB.out | apply below_alloc | apply pw_below_drewN | apply below_drew1) | exact HB.out)⟩⟩
                            · rw [if_neg c25] at H
                              have c25b0 : decide (x12_4 < ((rdOf ByteArray.empty l0 x54_2).size : Int)) = false := decide_eq_false c25
                              clear c25
                              (first | rw [c25b0] | (simp only [i64_w, i32_w]; rw [c25b0]) | skip)
                              have H' := Aside0.mk H
                              clear H
                              go_wp2
                              go_meet
                              case rel => exact ⟨_, (false), (by first | rfl | (simp; done) | (simp [bne_nil_isEmpty, beq_nil_isEmpty]; done) | (simp [*]; done)), H', ⟨by have := HK1.out; have := HK2.out; have := HJ21.out; have := HK4.out; first | omega | exact Nat.le_refl _⟩, ⟨by (with_reducible repeat (first | apply Kd.R_alloc | apply Kd.R_drewN | apply Kd.R_drew)); exact HO_7.out⟩, ⟨by repeat (first | (with_reducible first | exact HB.out | apply below_alloc | apply pw_below_drewN | apply below_drew1) | exact HB.out)⟩⟩
                          case rest =>
                            clear HC24
                            try clear c1
                            try clear p1
                            try clear q1
                            try clear hx1
                            try clear qi1
                            try clear c2
                            try clear c2b0
                            try clear p2
                            try clear q2
                            try clear hx2
                            try clear c3
                            try clear c3b0
                            try clear c4
                            try clear c4b0
                            try clear c6
                            try clear c6b0
                            try clear c6b1
                            try clear p6
                            try clear c7
                            try clear c7b0
                            try clear c7b1
                            try clear p8
                            try clear q8
                            try clear hx8
                            try clear qi8
                            try clear c9
                            try clear c9b0
                            try clear c9b1
                            try clear p10
                            try clear q10
                            try clear hx10
                            try clear qi10
                            try clear c11
                            try clear c12
                            try clear c12b0
                            try clear c13
                            try clear c13b0
                            try clear c14
                            try clear c14b0
                            try clear p15
                            try clear q15
                            try clear hx15
                            try clear c16
                            try clear c16b0
                            try clear c16b1
                            try clear p17
                            try clear q17
                            try clear hx17
                            try clear c18
                            try clear c18b0
                            try clear c18b1
                            try clear c19
                            try clear c19b0
                            try clear c20
                            try clear c20b0
                            try clear c21
                            try clear c21b0
                            try clear p21
                            try clear q21
                            try clear hx21
                            try clear c23
                            try clear c25
                            try clear c25b0
                            try clear hx214_0
                            try clear hx215_0
                            try clear p1
                            try clear p10
                            try clear p15
                            try clear p17
                            try clear p2
                            try clear p21
                            try clear p214
                            try clear p215
                            try clear p6
                            try clear p8
                            try clear q1
                            try clear q10
                            try clear q15
                            try clear q17
                            try clear q2
                            try clear q21
                            try clear q214
                            try clear q215
                            try clear q8
                            obtain ⟨kq, x74_23, rfl, HA, HJ23, HO_7, HB⟩ := hcut
                            cases kq with
                            | zero => exact absurd HA.out (by simp [trystref08_Fold.j6])
                            | succ kj23 =>
                              have H := HA.out
                              clear HA
                              simp only [trystref08_Fold.j6] at H
                              by_cases c26 : x74_23 = true
                              · subst c26
                                have H1 : ((trystref08_size.f kj23 (rdOf ByteArray.empty l0 x54_2) x12_4).bind fun t216 => (if (wrap64 (x11_4 + t216)) > 75 then ((some (([13, 10, 32] : List Int) : List Int)).bind fun y217 => (if x7_4.length + y217.length < 140737488355328 then ((some (x7_4 ++ y217 : List Int)).bind fun y220 => (if 0 ≤ x12_4 then (if x12_4 ≤ (wrap64 (x12_4 + t216)) then (if (wrap64 (x12_4 + t216)) ≤ ((rdOf ByteArray.empty l0 x54_2).size : Int) then (if y220.length + ((rdOf ByteArray.empty l0 x54_2).extract (x12_4 : Int).toNat ((wrap64 (x12_4 + t216)) : Int).toNat).size < 140737488355328 then (trystref08_Fold.l3 kj23 l0 (y220 ++ bytesOf ((rdOf ByteArray.empty l0 x54_2).extract (x12_4 : Int).toNat ((wrap64 (x12_4 + t216)) : Int).toNat)) x8_21 (rdOf ByteArray.empty l0 x54_2) (wrap64 (1 + t216)) (wrap64 (x12_4 + t216)) (l0.length : Int) x54_2) else (none)) else (none)) else (none)) else (none))) else (none))) else (if 0 ≤ x12_4 then (if x12_4 ≤ (wrap64 (x12_4 + t216)) then (if (wrap64 (x12_4 + t216)) ≤ ((rdOf ByteArray.empty l0 x54_2).size : Int) then (if x7_4.length + ((rdOf ByteArray.empty l0 x54_2).extract (x12_4 : Int).toNat ((wrap64 (x12_4 + t216)) : Int).toNat).size < 140737488355328 then (trystref08_Fold.l3 kj23 l0 (x7_4 ++ bytesOf ((rdOf ByteArray.empty l0 x54_2).extract (x12_4 : Int).toNat ((wrap64 (x12_4 + t216)) : Int).toNat)) x8_21 (rdOf ByteArray.empty l0 x54_2) (wrap64 (x11_4 + t216)) (wrap64 (x12_4 + t216)) (l0.length : Int) x54_2) else (none)) else (none)) else (none)) else (none)))) = some (r1, r2) := by rw [if_pos rfl] at H; exact H
                                clear H
                                have H := H1
                                clear H1
                                replace H := Option.bind_eq_some_iff.mp H
                                obtain ⟨t216, A270, H⟩ := H
                                replace H : (if (wrap64 (x11_4 + t216)) > 75 then ((some (([13, 10, 32] : List Int) : List Int)).bind fun y217 => (if x7_4.length + y217.length < 140737488355328 then ((some (x7_4 ++ y217 : List Int)).bind fun y220 => (if 0 ≤ x12_4 then (if x12_4 ≤ (wrap64 (x12_4 + t216)) then (if (wrap64 (x12_4 + t216)) ≤ ((rdOf ByteArray.empty l0 x54_2).size : Int) then (if y220.length + ((rdOf ByteArray.empty l0 x54_2).extract (x12_4 : Int).toNat ((wrap64 (x12_4 + t216)) : Int).toNat).size < 140737488355328 then (trystref08_Fold.l3 kj23 l0 (y220 ++ bytesOf ((rdOf ByteArray.empty l0 x54_2).extract (x12_4 : Int).toNat ((wrap64 (x12_4 + t216)) : Int).toNat)) x8_21 (rdOf ByteArray.empty l0 x54_2) (wrap64 (1 + t216)) (wrap64 (x12_4 + t216)) (l0.length : Int) x54_2) else (none)) else (none)) else (none)) else (none))) else (none))) else (if 0 ≤ x12_4 then (if x12_4 ≤ (wrap64 (x12_4 + t216)) then (if (wrap64 (x12_4 + t216)) ≤ ((rdOf ByteArray.empty l0 x54_2).size : Int) then (if x7_4.length + ((rdOf ByteArray.empty l0 x54_2).extract (x12_4 : Int).toNat ((wrap64 (x12_4 + t216)) : Int).toNat).size < 140737488355328 then (trystref08_Fold.l3 kj23 l0 (x7_4 ++ bytesOf ((rdOf ByteArray.empty l0 x54_2).extract (x12_4 : Int).toNat ((wrap64 (x12_4 + t216)) : Int).toNat)) x8_21 (rdOf ByteArray.empty l0 x54_2) (wrap64 (x11_4 + t216)) (wrap64 (x12_4 + t216)) (l0.length : Int) x54_2) else (none)) else (none)) else (none)) else (none))) = some (r1, r2) := H
                                have A27 := Aside0.mk A270
                                clear A270
                                by_cases c28 : (wrap64 (x11_4 + t216)) > 75
                                · rw [if_pos c28] at H
                                  have c28b0 : decide (75 < (wrap64 (x11_4 + t216))) = true := decide_eq_true c28
                                  clear c28
                                  obtain ⟨y217, hy217⟩ : ∃ y_ : List Int, y_ = (([13, 10, 32] : List Int)) := ⟨_, rfl⟩
                                  replace H : (if x7_4.length + y217.length < 140737488355328 then ((some (x7_4 ++ y217 : List Int)).bind fun y220 => (if 0 ≤ x12_4 then (if x12_4 ≤ (wrap64 (x12_4 + t216)) then (if (wrap64 (x12_4 + t216)) ≤ ((rdOf ByteArray.empty l0 x54_2).size : Int) then (if y220.length + ((rdOf ByteArray.empty l0 x54_2).extract (x12_4 : Int).toNat ((wrap64 (x12_4 + t216)) : Int).toNat).size < 140737488355328 then (trystref08_Fold.l3 kj23 l0 (y220 ++ bytesOf ((rdOf ByteArray.empty l0 x54_2).extract (x12_4 : Int).toNat ((wrap64 (x12_4 + t216)) : Int).toNat)) x8_21 (rdOf ByteArray.empty l0 x54_2) (wrap64 (1 + t216)) (wrap64 (x12_4 + t216)) (l0.length : Int) x54_2) else (none)) else (none)) else (none)) else (none))) else (none)) = some (r1, r2) := by first | (rw [hy217]; with_reducible exact H) | (have H2_ := (Option.bind_some _ _).symm.trans H; rw [hy217]; with_reducible exact H2_) | (have H2_ := (Option.bind_some _ _).symm.trans H; with_reducible exact H2_) | with_reducible exact H | (rw [hy217]; exact H) | exact H
                                  have Ny217 := Aside0.mk hy217
                                  clear hy217
                                  by_cases c29 : x7_4.length + y217.length < 140737488355328
                                  · rw [if_pos c29] at H
                                    have LMc29 := Aside0.mk c29
                                    clear c29
                                    obtain ⟨y220, hy220⟩ : ∃ y_ : List Int, y_ = (x7_4 ++ y217) := ⟨_, rfl⟩
                                    replace H : (if 0 ≤ x12_4 then (if x12_4 ≤ (wrap64 (x12_4 + t216)) then (if (wrap64 (x12_4 + t216)) ≤ ((rdOf ByteArray.empty l0 x54_2).size : Int) then (if y220.length + ((rdOf ByteArray.empty l0 x54_2).extract (x12_4 : Int).toNat ((wrap64 (x12_4 + t216)) : Int).toNat).size < 140737488355328 then (trystref08_Fold.l3 kj23 l0 (y220 ++ bytesOf ((rdOf ByteArray.empty l0 x54_2).extract (x12_4 : Int).toNat ((wrap64 (x12_4 + t216)) : Int).toNat)) x8_21 (rdOf ByteArray.empty l0 x54_2) (wrap64 (1 + t216)) (wrap64 (x12_4 + t216)) (l0.length : Int) x54_2) else (none)) else (none)) else (none)) else (none)) = some (r1, r2) := by first | (rw [hy220]; with_reducible exact H) | (have H2_ := (Option.bind_some _ _).symm.trans H; rw [hy220]; with_reducible exact H2_) | (have H2_ := (Option.bind_some _ _).symm.trans H; with_reducible exact H2_) | with_reducible exact H | (rw [hy220]; exact H) | exact H
                                    have Ny220 := Aside0.mk hy220
                                    clear hy220
                                    by_cases c30 : 0 ≤ x12_4
                                    · rw [if_pos c30] at H
                                      have c30b0 := eq_true c30
                                      have c30b1 : decide (0 ≤ x12_4) = true := decide_eq_true c30
                                      clear c30
                                      by_cases c31 : x12_4 ≤ (wrap64 (x12_4 + t216))
                                      · rw [if_pos c31] at H
                                        have c31b0 := eq_true c31
                                        have c31b1 : decide (x12_4 ≤ (wrap64 (x12_4 + t216))) = true := decide_eq_true c31
                                        by_cases c32 : (wrap64 (x12_4 + t216)) ≤ ((rdOf ByteArray.empty l0 x54_2).size : Int)
                                        · rw [if_pos c32] at H
                                          have c32b0 := eq_true c32
                                          have c32b1 : decide ((wrap64 (x12_4 + t216)) ≤ ((rdOf ByteArray.empty l0 x54_2).size : Int)) = true := decide_eq_true c32
                                          by_cases c33 : y220.length + ((rdOf ByteArray.empty l0 x54_2).extract (x12_4 : Int).toNat ((wrap64 (x12_4 + t216)) : Int).toNat).size < 140737488355328
                                          · rw [if_pos c33] at H
                                            have LMc33 := Aside0.mk c33
                                            clear c33
                                            obtain ⟨y223, hy223⟩ : ∃ y_ : List Int, y_ = (y220 ++ bytesOf ((rdOf ByteArray.empty l0 x54_2).extract (x12_4 : Int).toNat ((wrap64 (x12_4 + t216)) : Int).toNat)) := ⟨_, rfl⟩
                                            replace H : (trystref08_Fold.l3 kj23 l0 y223 x8_21 (rdOf ByteArray.empty l0 x54_2) (wrap64 (1 + t216)) (wrap64 (x12_4 + t216)) (l0.length : Int) x54_2) = some (r1, r2) := by first | (rw [hy223]; with_reducible exact H) | (have H2_ := (Option.bind_some _ _).symm.trans H; rw [hy223]; with_reducible exact H2_) | (have H2_ := (Option.bind_some _ _).symm.trans H; with_reducible exact H2_) | with_reducible exact H | (rw [hy223]; exact H) | exact H
                                            have Ny223 := Aside0.mk hy223
                                            clear hy223
                                            have H' := Aside0.mk H
                                            clear H
                                            go_wp2_with (first | ((with_reducible refine gate_callee (f := 53) rfl ?_); refine goesL_ (some 77) rfl rfl Tryd.func53 (by kernel_rfl) rfl #[.string (rdOf ByteArray.empty l0 x54_2), .int .i64 x12_4] rfl (by (try simp only [List.map_toArray, List.map_cons, List.map_nil]); first | done | rfl | (simp only [List.length_drop, List.length_take]; rfl)) ?_; (with_reducible refine (trystref08_size.calls kj23 (rdOf ByteArray.empty l0 x54_2) x12_4 t216 _ (by first | (with_reducible exact hG) | exact GG.below hG (by repeat (first | (with_reducible first | exact HB.out | apply below_alloc | apply pw_below_drewN | apply below_drew1) | exact HB.out))) A27.out).mono ?_); rintro e w34 ⟨rfl, hb⟩; refine ⟨_, rfl, ?_⟩; have n0_ := Aside0.mk (Kd.R_below (by (with_reducible repeat (first | apply Kd.R_alloc | apply Kd.R_drewN | apply Kd.R_drew)); exact HO_7.out) hb); have n1_ := Aside0.mk (below_step (by repeat (first | (with_reducible first | exact HB.out | apply below_alloc | apply pw_below_drewN | apply below_drew1) | exact HB.out)) hb); clear HO_7; clear HB; have HO_7 := n0_; have HB := n1_; clear n0_ n1_; (try clear hb); (try clear hb2); (try clear hk); (try clear hi)) | ((with_reducible refine gate_dst (N := 83) rfl ?_); (try (refine gate_guard (by rfl) ?_; dsimp only)); refine Kd.R_lit (Kd.int .u8) _ 5 ?hg (N := 83) ?hd (xs := ([13, 10, 32] : List Int)) (inner := [.int .u8 13, .int .u8 10, .int .u8 32]) (ok := fun _ => True) (okp := fun _ => True) ?hr ?hp (fun _ hk => hk) trivial (Below.refl _ _) (Nat.le_refl _) (by simp) ?_; (case hd => rfl); (case hg => rfl); (case hr => first | (go_simp; done) | (go_simp; rfl)); (case hp => exact (Reps.one (show Kd.M (Kd.int .u8) _ _ _ 13 [.int .u8 13] from rfl) (Reps.one (show Kd.M (Kd.int .u8) _ _ _ 10 [.int .u8 10] from rfl) (Reps.one (show Kd.M (Kd.int .u8) _ _ _ 32 [.int .u8 32] from rfl) (Reps.none _ _))))); intro v218 w35 ho36 hb hg_ hnew_; clear hg_ hnew_; (first | rw [← Ny217.out] at ho36 | (simp only [Int.reduceToNat] at ho36; rw [← Ny217.out] at ho36)); have n0_ := Aside0.mk (Kd.R_elder' (by (with_reducible repeat (first | apply Kd.R_alloc | apply Kd.R_drewN | apply Kd.R_drew)); exact HO_7.out) (Kd.R_base ho36) hb); have n1_ := Aside0.mk (Kd.R_lower (Kd.R_new' ho36 (Kd.R_lt (by (with_reducible repeat (first | apply Kd.R_alloc | apply Kd.R_drewN | apply Kd.R_drew)); exact HO_7.out))) (below_size (by repeat (first | (with_reducible first | exact HB.out | apply below_alloc | apply pw_below_drewN | apply below_drew1) | exact HB.out)))); have n2_ := Aside0.mk (below_step (by repeat (first | (with_reducible first | exact HB.out | apply below_alloc | apply pw_below_drewN | apply below_drew1) | exact HB.out)) hb); clear HO_7; clear HB; have HO_7 := n0_; have HO219 := n1_; have HB := n2_; clear n0_ n1_ n2_; clear hb ho36; obtain ⟨Ao38, co38, eo38⟩ := Kd.R_slice HO219.out; subst eo38) | ((with_reducible refine gate_builtin (b := .append) (xs := #[.tmp 82, .tmp 83]) rfl ?_); (try (refine gate_guard (by rfl) ?_; dsimp only)); at_builtin; refine Kd.R_append_rows (Kd.int .u8) (w0 := w) w.heap.size rfl (.tmp 82) (.tmp 83) 55 5 (.int .u8 0) 1 rfl Tryd.underlying55 info5 rfl (by decide) (by omega) u7 x7_4 y217 _ _ _ (fun _ => True) (fun _ => False) rfl rfl ?aO ?aR (fun _ _ h => h) (fun _ h => h.elim) ?aF ?aB ?aS ?aL ?_; (case aR => repeat (first | exact (Kd.R_reads' HO219.out).2.2 | (with_reducible refine Kd.C_alloc ?_ _) | (with_reducible refine Kd.C_drewN ?_ _) | (with_reducible refine Kd.C_drew ?_))); (case aB => exact (by repeat (first | (with_reducible first | exact HB.out | apply below_alloc | apply pw_below_drewN | apply below_drew1) | exact HB.out))); (case aF => exact (fun _ _ => trivial)); (case aO => exact (by (with_reducible repeat (first | apply Kd.R_alloc | apply Kd.R_drewN | apply Kd.R_drew)); exact Kd.R_mono HO_7.out (fun _ hk => trivial))); (case aS => exact (below_size (by repeat (first | (with_reducible first | exact HB.out | apply below_alloc | apply pw_below_drewN | apply below_drew1) | exact HB.out)))); (case aL => have := LMc29.out; omega); intro v221 w37 ho hb hg hat; rw [← Ny220.out] at ho; have n0_ := Aside0.mk (hb); have n1_ := Aside0.mk (ho); clear HB; clear HO_7; clear HO219; have HB := n0_; have HO222 := n1_; clear n0_ n1_; clear ho hb hg hat) | (at_builtin; refine print_append_str (w0 := w) w.heap.size rfl (.tmp 85) _ 55 9 5 rfl Tryd.underlying55 Tryd.underlying9 info5 v221 y220 ((rdOf ByteArray.empty l0 x54_2).extract (x12_4 : Int).toNat ((wrap64 (x12_4 + t216)) : Int).toNat) rfl rfl ?aO ?aB ?aS ?aL ?_; (case aB => exact (by repeat (first | (with_reducible first | exact HB.out | apply below_alloc | apply pw_below_drewN | apply below_drew1) | exact HB.out))); (case aO => exact (Kd.own_of_R (by (with_reducible repeat (first | apply Kd.R_alloc | apply Kd.R_drewN | apply Kd.R_drew)); exact HO222.out))); (case aS => exact (below_size (by repeat (first | (with_reducible first | exact HB.out | apply below_alloc | apply pw_below_drewN | apply below_drew1) | exact HB.out)))); (case aL => have := LMc33.out; omega); intro v224 w39 ho0 hb hg; have ho := Kd.R_of_own (h1 := fun _ => rfl) (ok := fun _ => True) ho0 (fun _ _ => trivial); clear ho0; have hat := True.intro; rw [← Ny223.out] at ho; change Kd.R (Kd.int .u8) 5 w39 w.heap.size (fun _ => True) v224 y223 at ho; have n0_ := Aside0.mk (hb); have n1_ := Aside0.mk (ho); clear HB; clear HO222; have HB := n0_; have HO225 := n1_; clear n0_ n1_; clear ho hb hg hat))
                                            go_roundg kj23
                                            case measure => have := HK1.out; have := HK2.out; have := HJ21.out; have := HK4.out; have := HJ23.out; omega
                                            case rel => exact ⟨(y223), (wrap64 (1 + t216)), (wrap64 (x12_4 + t216)), (by first | rfl | (simp; done) | (simp [bne_nil_isEmpty, beq_nil_isEmpty]; done) | (simp [*]; done)), (by first | rfl | (simp; done) | (simp [bne_nil_isEmpty, beq_nil_isEmpty]; done) | (simp [*]; done)), H', ⟨by have := HK1.out; have := HK2.out; have := HJ21.out; have := HK4.out; have := HJ23.out; omega⟩, ⟨by (with_reducible repeat (first | apply Kd.R_alloc | apply Kd.R_drewN | apply Kd.R_drew)); exact HO225.out⟩, ⟨by repeat (first | (with_reducible first | exact HB.out | apply below_alloc | apply pw_below_drewN | apply below_drew1) | exact HB.out)⟩⟩
                                          · rw [if_neg c33] at H
                                            exact absurd H (by simp)
                                        · rw [if_neg c32] at H
                                          exact absurd H (by simp)
                                      · rw [if_neg c31] at H
                                        exact absurd H (by simp)
                                    · rw [if_neg c30] at H
                                      exact absurd H (by simp)
                                  · rw [if_neg c29] at H
                                    exact absurd H (by simp)
                                · rw [if_neg c28] at H
                                  have c28b0 : decide (75 < (wrap64 (x11_4 + t216))) = false := decide_eq_false c28
                                  clear c28
                                  by_cases c40 : 0 ≤ x12_4
                                  · rw [if_pos c40] at H
                                    have c40b0 := eq_true c40
                                    have c40b1 : decide (0 ≤ x12_4) = true := decide_eq_true c40
                                    clear c40
                                    by_cases c41 : x12_4 ≤ (wrap64 (x12_4 + t216))
                                    · rw [if_pos c41] at H
                                      have c41b0 := eq_true c41
                                      have c41b1 : decide (x12_4 ≤ (wrap64 (x12_4 + t216))) = true := decide_eq_true c41
                                      by_cases c42 : (wrap64 (x12_4 + t216)) ≤ ((rdOf ByteArray.empty l0 x54_2).size : Int)
                                      · rw [if_pos c42] at H
                                        have c42b0 := eq_true c42
                                        have c42b1 : decide ((wrap64 (x12_4 + t216)) ≤ ((rdOf ByteArray.empty l0 x54_2).size : Int)) = true := decide_eq_true c42
                                        by_cases c43 : x7_4.length + ((rdOf ByteArray.empty l0 x54_2).extract (x12_4 : Int).toNat ((wrap64 (x12_4 + t216)) : Int).toNat).size < 140737488355328
                                        · rw [if_pos c43] at H
                                          have LMc43 := Aside0.mk c43
                                          clear c43
                                          obtain ⟨y226, hy226⟩ : ∃ y_ : List Int, y_ = (x7_4 ++ bytesOf ((rdOf ByteArray.empty l0 x54_2).extract (x12_4 : Int).toNat ((wrap64 (x12_4 + t216)) : Int).toNat)) := ⟨_, rfl⟩
                                          replace H : (trystref08_Fold.l3 kj23 l0 y226 x8_21 (rdOf ByteArray.empty l0 x54_2) (wrap64 (x11_4 + t216)) (wrap64 (x12_4 + t216)) (l0.length : Int) x54_2) = some (r1, r2) := by first | (rw [hy226]; with_reducible exact H) | (have H2_ := (Option.bind_some _ _).symm.trans H; rw [hy226]; with_reducible exact H2_) | (have H2_ := (Option.bind_some _ _).symm.trans H; with_reducible exact H2_) | with_reducible exact H | (rw [hy226]; exact H) | exact H
                                          have Ny226 := Aside0.mk hy226
                                          clear hy226
                                          have H' := Aside0.mk H
                                          clear H
                                          go_wp2_with (first | ((with_reducible refine gate_callee (f := 53) rfl ?_); refine goesL_ (some 77) rfl rfl Tryd.func53 (by kernel_rfl) rfl #[.string (rdOf ByteArray.empty l0 x54_2), .int .i64 x12_4] rfl (by (try simp only [List.map_toArray, List.map_cons, List.map_nil]); first | done | rfl | (simp only [List.length_drop, List.length_take]; rfl)) ?_; (with_reducible refine (trystref08_size.calls kj23 (rdOf ByteArray.empty l0 x54_2) x12_4 t216 _ (by first | (with_reducible exact hG) | exact GG.below hG (by repeat (first | (with_reducible first | exact HB.out | apply below_alloc | apply pw_below_drewN | apply below_drew1) | exact HB.out))) A27.out).mono ?_); rintro e w44 ⟨rfl, hb⟩; refine ⟨_, rfl, ?_⟩; have n0_ := Aside0.mk (Kd.R_below (by (with_reducible repeat (first | apply Kd.R_alloc | apply Kd.R_drewN | apply Kd.R_drew)); exact HO_7.out) hb); have n1_ := Aside0.mk (below_step (by repeat (first | (with_reducible first | exact HB.out | apply below_alloc | apply pw_below_drewN | apply below_drew1) | exact HB.out)) hb); clear HO_7; clear HB; have HO_7 := n0_; have HB := n1_; clear n0_ n1_; (try clear hb); (try clear hb2); (try clear hk); (try clear hi)) | (at_builtin; refine print_append_str (w0 := w) w.heap.size rfl (.tmp 85) _ 55 9 5 rfl Tryd.underlying55 Tryd.underlying9 info5 u7 x7_4 ((rdOf ByteArray.empty l0 x54_2).extract (x12_4 : Int).toNat ((wrap64 (x12_4 + t216)) : Int).toNat) rfl rfl ?aO ?aB ?aS ?aL ?_; (case aB => exact (by repeat (first | (with_reducible first | exact HB.out | apply below_alloc | apply pw_below_drewN | apply below_drew1) | exact HB.out))); (case aO => exact (Kd.own_of_R (by (with_reducible repeat (first | apply Kd.R_alloc | apply Kd.R_drewN | apply Kd.R_drew)); exact HO_7.out))); (case aS => exact (below_size (by repeat (first | (with_reducible first | exact HB.out | apply below_alloc | apply pw_below_drewN | apply below_drew1) | exact HB.out)))); (case aL => have := LMc43.out; omega); intro v227 w45 ho0 hb hg; have ho := Kd.R_of_own (h1 := fun _ => rfl) (ok := fun _ => True) ho0 (fun _ _ => trivial); clear ho0; have hat := True.intro; rw [← Ny226.out] at ho; change Kd.R (Kd.int .u8) 5 w45 w.heap.size (fun _ => True) v227 y226 at ho; have n0_ := Aside0.mk (hb); have n1_ := Aside0.mk (ho); clear HB; clear HO_7; have HB := n0_; have HO228 := n1_; clear n0_ n1_; clear ho hb hg hat))
                                          go_roundg kj23
                                          case measure => have := HK1.out; have := HK2.out; have := HJ21.out; have := HK4.out; have := HJ23.out; omega
                                          case rel => exact ⟨(y226), (wrap64 (x11_4 + t216)), (wrap64 (x12_4 + t216)), (by first | rfl | (simp; done) | (simp [bne_nil_isEmpty, beq_nil_isEmpty]; done) | (simp [*]; done)), (by first | rfl | (simp; done) | (simp [bne_nil_isEmpty, beq_nil_isEmpty]; done) | (simp [*]; done)), H', ⟨by have := HK1.out; have := HK2.out; have := HJ21.out; have := HK4.out; have := HJ23.out; omega⟩, ⟨by (with_reducible repeat (first | apply Kd.R_alloc | apply Kd.R_drewN | apply Kd.R_drew)); exact HO228.out⟩, ⟨by repeat (first | (with_reducible first | exact HB.out | apply below_alloc | apply pw_below_drewN | apply below_drew1) | exact HB.out)⟩⟩
                                        · rw [if_neg c43] at H
                                          exact absurd H (by simp)
                                      · rw [if_neg c42] at H
                                        exact absurd H (by simp)
                                    · rw [if_neg c41] at H
                                      exact absurd H (by simp)
                                  · rw [if_neg c40] at H
                                    exact absurd H (by simp)
                              · replace c26 := Bool.eq_false_iff.mpr c26
                                subst c26
                                have H1 : ((some (([13, 10] : List Int) : List Int)).bind fun y229 => (if x7_4.length + y229.length < 140737488355328 then ((some (x7_4 ++ y229 : List Int)).bind fun y232 => (if x8_21 = true then (trystref08_Fold.l2 kj23 l0 y232 true (l0.length : Int) (wrap64 (x54_2 + 1))) else (trystref08_Fold.l2 kj23 l0 y232 (decide ((y232.length : Int) > 20000)) (l0.length : Int) (wrap64 (x54_2 + 1))))) else (none))) = some (r1, r2) := by rw [if_neg (show ¬ (false = true) by decide)] at H; exact H
                                clear H
                                have H := H1
                                clear H1
                                obtain ⟨y229, hy229⟩ : ∃ y_ : List Int, y_ = (([13, 10] : List Int)) := ⟨_, rfl⟩
                                replace H : (if x7_4.length + y229.length < 140737488355328 then ((some (x7_4 ++ y229 : List Int)).bind fun y232 => (if x8_21 = true then (trystref08_Fold.l2 kj23 l0 y232 true (l0.length : Int) (wrap64 (x54_2 + 1))) else (trystref08_Fold.l2 kj23 l0 y232 (decide ((y232.length : Int) > 20000)) (l0.length : Int) (wrap64 (x54_2 + 1))))) else (none)) = some (r1, r2) := by first | (rw [hy229]; with_reducible exact H) | (have H2_ := (Option.bind_some _ _).symm.trans H; rw [hy229]; with_reducible exact H2_) | (have H2_ := (Option.bind_some _ _).symm.trans H; with_reducible exact H2_) | with_reducible exact H | (rw [hy229]; exact H) | exact H
                                have Ny229 := Aside0.mk hy229
                                clear hy229
                                by_cases c46 : x7_4.length + y229.length < 140737488355328
                                · rw [if_pos c46] at H
                                  have LMc46 := Aside0.mk c46
                                  clear c46
                                  obtain ⟨y232, hy232⟩ : ∃ y_ : List Int, y_ = (x7_4 ++ y229) := ⟨_, rfl⟩
                                  replace H : (if x8_21 = true then (trystref08_Fold.l2 kj23 l0 y232 true (l0.length : Int) (wrap64 (x54_2 + 1))) else (trystref08_Fold.l2 kj23 l0 y232 (decide ((y232.length : Int) > 20000)) (l0.length : Int) (wrap64 (x54_2 + 1)))) = some (r1, r2) := by first | (rw [hy232]; with_reducible exact H) | (have H2_ := (Option.bind_some _ _).symm.trans H; rw [hy232]; with_reducible exact H2_) | (have H2_ := (Option.bind_some _ _).symm.trans H; with_reducible exact H2_) | with_reducible exact H | (rw [hy232]; exact H) | exact H
                                  have Ny232 := Aside0.mk hy232
                                  clear hy232
                                  by_cases c47 : x8_21 = true
                                  · subst c47
                                    have H1 : (trystref08_Fold.l2 kj23 l0 y232 true (l0.length : Int) (wrap64 (x54_2 + 1))) = some (r1, r2) := by rw [if_pos rfl] at H; exact H
                                    clear H
                                    have H := H1
                                    clear H1
                                    have H' := Aside0.mk H
                                    clear H
                                    go_wp2_with (first | ((with_reducible refine gate_dst (N := 100) rfl ?_); (try (refine gate_guard (by rfl) ?_; dsimp only)); refine Kd.R_lit (Kd.int .u8) _ 5 ?hg (N := 100) ?hd (xs := ([13, 10] : List Int)) (inner := [.int .u8 13, .int .u8 10]) (ok := fun _ => True) (okp := fun _ => True) ?hr ?hp (fun _ hk => hk) trivial (Below.refl _ _) (Nat.le_refl _) (by simp) ?_; (case hd => rfl); (case hg => rfl); (case hr => first | (go_simp; done) | (go_simp; rfl)); (case hp => exact (Reps.one (show Kd.M (Kd.int .u8) _ _ _ 13 [.int .u8 13] from rfl) (Reps.one (show Kd.M (Kd.int .u8) _ _ _ 10 [.int .u8 10] from rfl) (Reps.none _ _)))); intro v230 w48 ho49 hb hg_ hnew_; clear hg_ hnew_; (first | rw [← Ny229.out] at ho49 | (simp only [Int.reduceToNat] at ho49; rw [← Ny229.out] at ho49)); have n0_ := Aside0.mk (Kd.R_elder' (by (with_reducible repeat (first | apply Kd.R_alloc | apply Kd.R_drewN | apply Kd.R_drew)); exact HO_7.out) (Kd.R_base ho49) hb); have n1_ := Aside0.mk (Kd.R_lower (Kd.R_new' ho49 (Kd.R_lt (by (with_reducible repeat (first | apply Kd.R_alloc | apply Kd.R_drewN | apply Kd.R_drew)); exact HO_7.out))) (below_size (by repeat (first | (with_reducible first | exact HB.out | apply below_alloc | apply pw_below_drewN | apply below_drew1) | exact HB.out)))); have n2_ := Aside0.mk (below_step (by repeat (first | (with_reducible first | exact HB.out | apply below_alloc | apply pw_below_drewN | apply below_drew1) | exact HB.out)) hb); clear HO_7; clear HB; have HO_7 := n0_; have HO231 := n1_; have HB := n2_; clear n0_ n1_ n2_; clear hb ho49; obtain ⟨Ao51, co51, eo51⟩ := Kd.R_slice HO231.out; subst eo51) | ((with_reducible refine gate_builtin (b := .append) (xs := #[.tmp 99, .tmp 100]) rfl ?_); (try (refine gate_guard (by rfl) ?_; dsimp only)); at_builtin; refine Kd.R_append_rows (Kd.int .u8) (w0 := w) w.heap.size rfl (.tmp 99) (.tmp 100) 55 5 (.int .u8 0) 1 rfl Tryd.underlying55 info5 rfl (by decide) (by omega) u7 x7_4 y229 _ _ _ (fun _ => True) (fun _ => False) rfl rfl ?aO ?aR (fun _ _ h => h) (fun _ h => h.elim) ?aF ?aB ?aS ?aL ?_; (case aR => repeat (first | exact (Kd.R_reads' HO231.out).2.2 | (with_reducible refine Kd.C_alloc ?_ _) | (with_reducible refine Kd.C_drewN ?_ _) | (with_reducible refine Kd.C_drew ?_))); (case aB => exact (by repeat (first | (with_reducible first | exact HB.out | apply below_alloc | apply pw_below_drewN | apply below_drew1) | exact HB.out))); (case aF => exact (fun _ _ => trivial)); (case aO => exact (by (with_reducible repeat (first | apply Kd.R_alloc | apply Kd.R_drewN | apply Kd.R_drew)); exact Kd.R_mono HO_7.out (fun _ hk => trivial))); (case aS => exact (below_size (by repeat (first | (with_reducible first | exact HB.out | apply below_alloc | apply pw_below_drewN | apply below_drew1) | exact HB.out)))); (case aL => have := LMc46.out; omega); intro v233 w50 ho hb hg hat; rw [← Ny232.out] at ho; have n0_ := Aside0.mk (hb); have n1_ := Aside0.mk (ho); clear HB; clear HO_7; clear HO231; have HB := n0_; have HO234 := n1_; clear n0_ n1_; clear ho hb hg hat))
                                    go_roundg kj23
                                    case measure => have := HK1.out; have := HK2.out; have := HJ21.out; have := HK4.out; have := HJ23.out; omega
                                    case rel => exact ⟨(y232), (true), (wrap64 (x54_2 + 1)), (by first | rfl | (simp; done) | (simp [bne_nil_isEmpty, beq_nil_isEmpty]; done) | (simp [*]; done)), (by first | rfl | (simp; done) | (simp [bne_nil_isEmpty, beq_nil_isEmpty]; done) | (simp [*]; done)), H', ⟨by have := HK1.out; have := HK2.out; have := HJ21.out; have := HK4.out; have := HJ23.out; omega⟩, ⟨by (with_reducible repeat (first | apply Kd.R_alloc | apply Kd.R_drewN | apply Kd.R_drew)); exact HO234.out⟩, ⟨by repeat (first | (with_reducible first | exact HB.out | apply below_alloc | apply pw_below_drewN | apply below_drew1) | exact HB.out)⟩⟩
                                  · replace c47 := Bool.eq_false_iff.mpr c47
                                    subst c47
                                    have H1 : (trystref08_Fold.l2 kj23 l0 y232 (decide ((y232.length : Int) > 20000)) (l0.length : Int) (wrap64 (x54_2 + 1))) = some (r1, r2) := by rw [if_neg (show ¬ (false = true) by decide)] at H; exact H
                                    clear H
                                    have H := H1
                                    clear H1
                                    have H' := Aside0.mk H
                                    clear H
                                    go_wp2_with (first | ((with_reducible refine gate_dst (N := 100) rfl ?_); (try (refine gate_guard (by rfl) ?_; dsimp only)); refine Kd.R_lit (Kd.int .u8) _ 5 ?hg (N := 100) ?hd (xs := ([13, 10] : List Int)) (inner := [.int .u8 13, .int .u8 10]) (ok := fun _ => True) (okp := fun _ => True) ?hr ?hp (fun _ hk => hk) trivial (Below.refl _ _) (Nat.le_refl _) (by simp) ?_; (case hd => rfl); (case hg => rfl); (case hr => first | (go_simp; done) | (go_simp; rfl)); (case hp => exact (Reps.one (show Kd.M (Kd.int .u8) _ _ _ 13 [.int .u8 13] from rfl) (Reps.one (show Kd.M (Kd.int .u8) _ _ _ 10 [.int .u8 10] from rfl) (Reps.none _ _)))); intro v230 w52 ho53 hb hg_ hnew_; clear hg_ hnew_; (first | rw [← Ny229.out] at ho53 | (simp only [Int.reduceToNat] at ho53; rw [← Ny229.out] at ho53)); have n0_ := Aside0.mk (Kd.R_elder' (by (with_reducible repeat (first | apply Kd.R_alloc | apply Kd.R_drewN | apply Kd.R_drew)); exact HO_7.out) (Kd.R_base ho53) hb); have n1_ := Aside0.mk (Kd.R_lower (Kd.R_new' ho53 (Kd.R_lt (by (with_reducible repeat (first | apply Kd.R_alloc | apply Kd.R_drewN | apply Kd.R_drew)); exact HO_7.out))) (below_size (by repeat (first | (with_reducible first | exact HB.out | apply below_alloc | apply pw_below_drewN | apply below_drew1) | exact HB.out)))); have n2_ := Aside0.mk (below_step (by repeat (first | (with_reducible first | exact HB.out | apply below_alloc | apply pw_below_drewN | apply below_drew1) | exact HB.out)) hb); clear HO_7; clear HB; have HO_7 := n0_; have HO231 := n1_; have HB := n2_; clear n0_ n1_ n2_; clear hb ho53; obtain ⟨Ao55, co55, eo55⟩ := Kd.R_slice HO231.out; subst eo55) | ((with_reducible refine gate_builtin (b := .append) (xs := #[.tmp 99, .tmp 100]) rfl ?_); (try (refine gate_guard (by rfl) ?_; dsimp only)); at_builtin; refine Kd.R_append_rows (Kd.int .u8) (w0 := w) w.heap.size rfl (.tmp 99) (.tmp 100) 55 5 (.int .u8 0) 1 rfl Tryd.underlying55 info5 rfl (by decide) (by omega) u7 x7_4 y229 _ _ _ (fun _ => True) (fun _ => False) rfl rfl ?aO ?aR (fun _ _ h => h) (fun _ h => h.elim) ?aF ?aB ?aS ?aL ?_; (case aR => repeat (first | exact (Kd.R_reads' HO231.out).2.2 | (with_reducible refine Kd.C_alloc ?_ _) | (with_reducible refine Kd.C_drewN ?_ _) | (with_reducible refine Kd.C_drew ?_))); (case aB => exact (by repeat (first | (with_reducible first | exact HB.out | apply below_alloc | apply pw_below_drewN | apply below_drew1) | exact HB.out))); (case aF => exact (fun _ _ => trivial)); (case aO => exact (by (with_reducible repeat (first | apply Kd.R_alloc | apply Kd.R_drewN | apply Kd.R_drew)); exact Kd.R_mono HO_7.out (fun _ hk => trivial))); (case aS => exact (below_size (by repeat (first | (with_reducible first | exact HB.out | apply below_alloc | apply pw_below_drewN | apply below_drew1) | exact HB.out)))); (case aL => have := LMc46.out; omega); intro v233 w54 ho hb hg hat; rw [← Ny232.out] at ho; have n0_ := Aside0.mk (hb); have n1_ := Aside0.mk (ho); clear HB; clear HO_7; clear HO231; have HB := n0_; have HO234 := n1_; clear n0_ n1_; clear ho hb hg hat; obtain ⟨Ao56, co56, eo56⟩ := Kd.R_slice HO234.out; subst eo56))
                                    go_roundg kj23
                                    case measure => have := HK1.out; have := HK2.out; have := HJ21.out; have := HK4.out; have := HJ23.out; omega
                                    case rel => exact ⟨(y232), (decide ((y232.length : Int) > 20000)), (wrap64 (x54_2 + 1)), (by first | rfl | (simp; done) | (simp [bne_nil_isEmpty, beq_nil_isEmpty]; done) | (simp [*]; done)), (by first | rfl | (simp; done) | (simp [bne_nil_isEmpty, beq_nil_isEmpty]; done) | (simp [*]; done)), H', ⟨by have := HK1.out; have := HK2.out; have := HJ21.out; have := HK4.out; have := HJ23.out; omega⟩, ⟨by (with_reducible repeat (first | apply Kd.R_alloc | apply Kd.R_drewN | apply Kd.R_drew)); exact HO234.out⟩, ⟨by repeat (first | (with_reducible first | exact HB.out | apply below_alloc | apply pw_below_drewN | apply below_drew1) | exact HB.out)⟩⟩
                                · rw [if_neg c46] at H
                                  exact absurd H (by simp)
                · rw [if_neg c21] at H
                  exact absurd H (by simp)
              · rw [if_neg c20] at H
                exact absurd H (by simp)
            · rw [if_neg c19] at H
              have c19b0 : decide (x54_2 < (l0.length : Int)) = false := decide_eq_false c19
              clear c19
              by_cases c57 : x8_2 = true
              · subst c57
                have H1 : (some ((⟨#[]⟩ : ByteArray), 4)) = some (r1, r2) := by rw [if_pos rfl] at H; exact H
                clear H
                have H := H1
                clear H1
                simp only [Option.some.injEq, Prod.mk.injEq] at H
                obtain ⟨rfl, rfl⟩ := H
                go_wp2
                go_ret2
                exact ⟨by first | rfl | (simp [errW_none, errW_some] <;> rfl) | (simp [*, errW_none, errW_some] <;> rfl), by repeat (first | (with_reducible first | exact HB.out | apply below_alloc | apply pw_below_drewN | apply below_drew1) | exact HB.out)⟩
              · replace c57 := Bool.eq_false_iff.mpr c57
                subst c57
                have H1 : (some (strOfNums x7_2, 0)) = some (r1, r2) := by rw [if_neg (show ¬ (false = true) by decide)] at H; exact H
                clear H
                have H := H1
                clear H1
                simp only [Option.some.injEq, Prod.mk.injEq] at H
                obtain ⟨rfl, rfl⟩ := H
                have hcv58 := own_string (P := Tryd.prog) Tryd.underlying55 Tryd.underlying5 Tryd.underlying9 (Kd.own_of_R HO_7.out)
                go_wp2
                go_ret2
                exact ⟨by first | rfl | (simp [errW_none, errW_some] <;> rfl) | (simp [*, errW_none, errW_some] <;> rfl), by repeat (first | (with_reducible first | exact HB.out | apply below_alloc | apply pw_below_drewN | apply below_drew1) | exact HB.out)⟩

end Go.Proofs.YtknmbalhbecdhaaDoor.Print
