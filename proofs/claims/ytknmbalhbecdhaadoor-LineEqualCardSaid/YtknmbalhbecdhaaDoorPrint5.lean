-- Written by xprint.py (a program of this claim's session) out of the translation. Lean checks it.
import Derived.Test.YtknmbalhbecdhaaDoorPrint0
import Derived.Test.YtknmbalhbecdhaaDoorLAt
namespace Go.Proofs.YtknmbalhbecdhaaDoor.Print
open Go.RowKit Go.Proofs.YtknmbalhbecdhaaDoorW.PrintWords Go.Proofs.YtknmbalhbecdhaaDoorW.PrintLast Go.Proofs.YtknmbalhbecdhaaDoorW.PrintMore
attribute [local go_sem] max2_int min2_int max_two min_two max_three min_three max_four min_four   -- for this text's walks alone
set_option linter.unusedVariables false
set_option linter.unusedSimpArgs false

/-! ### trystlaw08_Same: function 16 -/
def trystlaw08_Same.l0 : Nat → List ByteArray → List ByteArray → Int → Int → Option (Bool)
  | 0, _, _, _, _ => none
  | k + 1, x0, x1, x12, x13 => if x13 < x12 then (if 0 ≤ x13 then (if x13 < (x0.length : Int) then (if x13 < (x1.length : Int) then (if (rdOf ByteArray.empty x0 x13).toList = (rdOf ByteArray.empty x1 x13).toList then (trystlaw08_Same.l0 k x0 x1 x12 (wrap64 (x13 + 1))) else (some false)) else (none)) else (none)) else (none)) else (some true)
def trystlaw08_Same.f (k : Nat) (l0 : List ByteArray) (l1 : List ByteArray) : Option (Bool) := if (l0.length : Int) = (l1.length : Int) then (trystlaw08_Same.l0 k l0 l1 (l0.length : Int) 0) else (some false)
theorem trystlaw08_Same.mono_l : ∀ k, (∀ y0 y1 y2 y3, LeO (trystlaw08_Same.l0 k y0 y1 y2 y3) (trystlaw08_Same.l0 (k + 1) y0 y1 y2 y3))
  | 0 => fun _ _ _ _ r h => by simp [trystlaw08_Same.l0] at h
  | k + 1 => by
    have ih0 := trystlaw08_Same.mono_l k
    · intro y0 y1 y2 y3
      unfold trystlaw08_Same.l0
      repeat' first
      | (with_reducible exact ih0 _ _ _ _)
      | (with_reducible exact LeO.refl _)
      | (with_reducible exact LeO.none _)
      | (with_reducible refine LeO.ite ?_ ?_)
      | (with_reducible refine LeO.bind ?_ (fun _ => ?_))
      | exact ih0 _ _ _ _
      | exact LeO.none _
      | refine LeO.ite ?_ ?_
      | refine LeO.bind ?_ (fun _ => ?_)
theorem trystlaw08_Same.mono : ∀ a0 a1 k, LeO (trystlaw08_Same.f k a0 a1) (trystlaw08_Same.f (k + 1) a0 a1) := by
  intro a0 a1 k
  have ih0 := trystlaw08_Same.mono_l k
  unfold trystlaw08_Same.f
  repeat' first
      | (with_reducible exact ih0 _ _ _ _)
      | (with_reducible exact LeO.refl _)
      | (with_reducible exact LeO.none _)
      | (with_reducible refine LeO.ite ?_ ?_)
      | (with_reducible refine LeO.bind ?_ (fun _ => ?_))
      | exact ih0 _ _ _ _
      | exact LeO.none _
      | refine LeO.ite ?_ ?_
      | refine LeO.bind ?_ (fun _ => ?_)
set_option maxHeartbeats 8000000 in
set_option maxRecDepth 100000 in
theorem trystlaw08_Same.calls (k : Nat) (A0 : Option Addr) (c0 : Nat) (l0 : List ByteArray) (A1 : Option Addr) (c1 : Nat) (l1 : List ByteArray) (r : Bool) (w : World) (hG : GG w) (hr0 : Kd.C Kd.string w A0 l0.length l0) (hc0 : l0.length ≤ c0) (hr1 : Kd.C Kd.string w A1 l1.length l1) (hc1 : l1.length ≤ c1) (h : trystlaw08_Same.f k l0 l1 = some r) :
    Calls Tryd.prog 16 #[.slice A0 l0.length c0, .slice A1 l1.length c1] w fun e w' => e = .returned (.bool r) ∧ Drawn0 w w' := by
  have HR0 := Aside0.mk hr0
  have HC0 := Aside0.mk hc0
  clear hr0 hc0
  have HR1 := Aside0.mk hr1
  have HC1 := Aside0.mk hc1
  clear hr1 hc1
  have H : (if (l0.length : Int) = (l1.length : Int) then (trystlaw08_Same.l0 k l0 l1 (l0.length : Int) 0) else (some false)) = some r := h
  clear h
  by_cases c3 : (l0.length : Int) = (l1.length : Int)
  · rw [if_pos c3] at H
    have c3b0 : ((l0.length : Int) == (l1.length : Int)) = true := beq_iff_eq.mpr c3
    have c3b1 : ((l0.length : Int) != (l1.length : Int)) = false := bne_eq_false_iff_eq.mpr c3
    have c3b2 : (l0.length == l1.length) = true := by first | simpa using c3 | (simp at c3 ⊢; omega)
    clear c3
    have H' := Aside0.mk H
    clear H
    go_enter Tryd.func16, Tryd.ntmps16
    go_wp2
    repeat (go_quiet (fail); try go_wp2)
    go_loopg [13] k (fun kq v13 w' => ∃ (x13_1 : Int), v13 = .int .i64 x13_1 ∧ Aside0 (trystlaw08_Same.l0 kq l0 l1 (l0.length : Int) x13_1 = some r) ∧ Aside0 (kq ≤ k) ∧ Drawn0 w w')
    case atStart => exact ⟨(0), (by first | rfl | (simp; done) | (simp [bne_nil_isEmpty, beq_nil_isEmpty]; done) | (simp [*]; done)), H', ⟨Nat.le_refl _⟩, by repeat (first | exact Drawn0.refl _ | apply Drawn0.step)⟩
    case round =>
      clear H'
      try clear c1
      try clear p2
      try clear c3
      try clear c3b0
      try clear c3b1
      try clear c3b2
      obtain ⟨x13_1, rfl, HA, HK1, ⟨m1, rfl⟩⟩ := hrel
      cases gk with
      | zero => exact absurd HA.out (by simp [trystlaw08_Same.l0])
      | succ k1 =>
        have H := HA.out
        clear HA
        simp only [trystlaw08_Same.l0] at H
        by_cases c4 : x13_1 < (l0.length : Int)
        · rw [if_pos c4] at H
          have c4b0 : decide (x13_1 < (l0.length : Int)) = true := decide_eq_true c4
          clear c4
          by_cases c5 : 0 ≤ x13_1
          · rw [if_pos c5] at H
            have c5b0 : decide (0 ≤ x13_1) = true := decide_eq_true c5
            clear c5
            by_cases c6 : x13_1 < (l0.length : Int)
            · rw [if_pos c6] at H
              have c6b0 : decide (x13_1 < (l0.length : Int)) = true := decide_eq_true c6
              clear c6
              by_cases c7 : x13_1 < (l1.length : Int)
              · rw [if_pos c7] at H
                have c7b0 : decide (x13_1 < (l1.length : Int)) = true := decide_eq_true c7
                clear c7
                by_cases c8 : (rdOf ByteArray.empty l0 x13_1).toList = (rdOf ByteArray.empty l1 x13_1).toList
                · rw [if_pos c8] at H
                  have c8b0 : ((rdOf ByteArray.empty l0 x13_1).toList == (rdOf ByteArray.empty l1 x13_1).toList) = true := beq_iff_eq.mpr c8
                  have c8b1 : ((rdOf ByteArray.empty l0 x13_1).toList != (rdOf ByteArray.empty l1 x13_1).toList) = false := bne_eq_false_iff_eq.mpr c8
                  clear c8
                  have H' := Aside0.mk H
                  clear H
                  have p168 : 0 ≤ (x13_1 : Int) := of_decide_eq_true (by first | (with_reducible assumption) | assumption)
                  have q168 : x13_1 < (l0.length : Int) := of_decide_eq_true (by first | (with_reducible assumption) | assumption)
                  obtain ⟨ad168, e168, hx168_0⟩ := Kd.at_string HR0.out x13_1 p168 q168
                  cases e168
                  replace p168 := eq_true p168
                  replace q168 := eq_true q168
                  have p169 : 0 ≤ (x13_1 : Int) := of_decide_eq_true (by first | (with_reducible assumption) | assumption)
                  have q169 : x13_1 < (l1.length : Int) := of_decide_eq_true (by first | (with_reducible assumption) | assumption)
                  obtain ⟨ad169, e169, hx169_0⟩ := Kd.at_string HR1.out x13_1 p169 q169
                  cases e169
                  replace p169 := eq_true p169
                  replace q169 := eq_true q169
                  go_wp2
                  repeat (go_quiet (fail); try go_wp2)
                  go_roundg k1
                  case measure => have := HK1.out; omega
                  case rel => exact ⟨(wrap64 (x13_1 + 1)), (by first | rfl | (simp; done) | (simp [bne_nil_isEmpty, beq_nil_isEmpty]; done) | (simp [*]; done)), H', ⟨by have := HK1.out; omega⟩, by repeat (first | exact Drawn0.refl _ | apply Drawn0.step)⟩
                · rw [if_neg c8] at H
                  have c8b0 : ((rdOf ByteArray.empty l0 x13_1).toList == (rdOf ByteArray.empty l1 x13_1).toList) = false := beq_eq_false_iff_ne.mpr c8
                  have c8b1 : ((rdOf ByteArray.empty l0 x13_1).toList != (rdOf ByteArray.empty l1 x13_1).toList) = true := bne_iff_ne.mpr c8
                  obtain rfl := Option.some.inj H
                  have p168 : 0 ≤ (x13_1 : Int) := of_decide_eq_true (by first | (with_reducible assumption) | assumption)
                  have q168 : x13_1 < (l0.length : Int) := of_decide_eq_true (by first | (with_reducible assumption) | assumption)
                  obtain ⟨ad168, e168, hx168_0⟩ := Kd.at_string HR0.out x13_1 p168 q168
                  cases e168
                  replace p168 := eq_true p168
                  replace q168 := eq_true q168
                  have p169 : 0 ≤ (x13_1 : Int) := of_decide_eq_true (by first | (with_reducible assumption) | assumption)
                  have q169 : x13_1 < (l1.length : Int) := of_decide_eq_true (by first | (with_reducible assumption) | assumption)
                  obtain ⟨ad169, e169, hx169_0⟩ := Kd.at_string HR1.out x13_1 p169 q169
                  cases e169
                  replace p169 := eq_true p169
                  replace q169 := eq_true q169
                  go_wp2
                  repeat (go_quiet (fail); try go_wp2)
                  go_ret
                  exact ⟨by first | rfl | (simp; done) | (simp [bne_nil_isEmpty, beq_nil_isEmpty]; done) | (simp [*]; done), by repeat (first | exact Drawn0.refl _ | apply Drawn0.step)⟩
              · rw [if_neg c7] at H
                exact absurd H (by simp)
            · rw [if_neg c6] at H
              exact absurd H (by simp)
          · rw [if_neg c5] at H
            exact absurd H (by simp)
        · rw [if_neg c4] at H
          have c4b0 : decide (x13_1 < (l0.length : Int)) = false := decide_eq_false c4
          clear c4
          obtain rfl := Option.some.inj H
          go_wp2
          repeat (go_quiet (fail); try go_wp2)
          go_ret
          exact ⟨by first | rfl | (simp; done) | (simp [bne_nil_isEmpty, beq_nil_isEmpty]; done) | (simp [*]; done), by repeat (first | exact Drawn0.refl _ | apply Drawn0.step)⟩
  · rw [if_neg c3] at H
    have c3b0 : ((l0.length : Int) == (l1.length : Int)) = false := beq_eq_false_iff_ne.mpr c3
    have c3b1 : ((l0.length : Int) != (l1.length : Int)) = true := bne_iff_ne.mpr c3
    have c3b2 : (l0.length == l1.length) = false := by first | simpa using c3 | (simp at c3 ⊢; omega)
    obtain rfl := Option.some.inj H
    go_enter Tryd.func16, Tryd.ntmps16
    go_wp2
    repeat (go_quiet (fail); try go_wp2)
    go_ret
    exact ⟨by first | rfl | (simp; done) | (simp [bne_nil_isEmpty, beq_nil_isEmpty]; done) | (simp [*]; done), by repeat (first | exact Drawn0.refl _ | apply Drawn0.step)⟩

/-! ### trystlaw10_Same: function 36 -/
mutual
def trystlaw10_Same.j0 : Nat → Bool → ByteArray → List (S52) → ByteArray → ByteArray → List (S52) → ByteArray → Option (Bool)
  | 0, _, _, _, _, _, _, _ => none
  | k + 1, x26, x171000, x171001, x171002, x172000, x172001, x172002 => if x26 = true then (some false) else (trystlaw10_Same.l0 k (x171001.length : Int) 0 x171000 x171001 x171002 x172000 x172001 x172002)
def trystlaw10_Same.l0 : Nat → Int → Int → ByteArray → List (S52) → ByteArray → ByteArray → List (S52) → ByteArray → Option (Bool)
  | 0, _, _, _, _, _, _, _, _ => none
  | k + 1, x29, x30, x171000, x171001, x171002, x172000, x172001, x172002 => if x30 < x29 then (if 0 ≤ x30 then (if x30 < (x171001.length : Int) then (if x30 < (x172001.length : Int) then (if ((rd_T52 x171001 x30).f0).toList = ((rd_T52 x172001 x30).f0).toList then ((trystlaw08_Same.f k ((rd_T52 x171001 x30).f1) ((rd_T52 x172001 x30).f1)).bind fun t176 => (if t176 = true then (trystlaw10_Same.l0 k x29 (wrap64 (x30 + 1)) x171000 x171001 x171002 x172000 x172001 x172002) else (some false))) else (some false)) else (none)) else (none)) else (none)) else (some true)
end
def trystlaw10_Same.f (k : Nat) (a0_0 : ByteArray) (l0_1 : List (S52)) (a0_2 : ByteArray) (a1_0 : ByteArray) (l1_1 : List (S52)) (a1_2 : ByteArray) : Option (Bool) := if a0_0.toList = a1_0.toList then (if a0_2.toList = a1_2.toList then (trystlaw10_Same.j0 k ((l0_1.length : Int) != (l1_1.length : Int)) a0_0 l0_1 a0_2 a1_0 l1_1 a1_2) else (trystlaw10_Same.j0 k true a0_0 l0_1 a0_2 a1_0 l1_1 a1_2)) else (trystlaw10_Same.j0 k true a0_0 l0_1 a0_2 a1_0 l1_1 a1_2)
theorem trystlaw10_Same.mono_l : ∀ k, (∀ y0 y1 y2 y3 y4 y5 y6, LeO (trystlaw10_Same.j0 k y0 y1 y2 y3 y4 y5 y6) (trystlaw10_Same.j0 (k + 1) y0 y1 y2 y3 y4 y5 y6)) ∧ (∀ y0 y1 y2 y3 y4 y5 y6 y7, LeO (trystlaw10_Same.l0 k y0 y1 y2 y3 y4 y5 y6 y7) (trystlaw10_Same.l0 (k + 1) y0 y1 y2 y3 y4 y5 y6 y7))
  | 0 => ⟨fun _ _ _ _ _ _ _ r h => by simp [trystlaw10_Same.j0] at h, fun _ _ _ _ _ _ _ _ r h => by simp [trystlaw10_Same.l0] at h⟩
  | k + 1 => by
    obtain ⟨ih0, ih1⟩ := trystlaw10_Same.mono_l k
    refine ⟨?_, ?_⟩
    · intro y0 y1 y2 y3 y4 y5 y6
      unfold trystlaw10_Same.j0
      repeat' first
      | (with_reducible exact ih0 _ _ _ _ _ _ _)
      | (with_reducible exact ih1 _ _ _ _ _ _ _ _)
      | (with_reducible exact trystlaw08_Same.mono _ _ _)
      | (with_reducible exact LeO.refl _)
      | (with_reducible exact LeO.none _)
      | (with_reducible refine LeO.ite ?_ ?_)
      | (with_reducible refine LeO.bind ?_ (fun _ => ?_))
      | exact ih0 _ _ _ _ _ _ _
      | exact ih1 _ _ _ _ _ _ _ _
      | exact trystlaw08_Same.mono _ _ _
      | exact LeO.none _
      | refine LeO.ite ?_ ?_
      | refine LeO.bind ?_ (fun _ => ?_)
    · intro y0 y1 y2 y3 y4 y5 y6 y7
      unfold trystlaw10_Same.l0
      repeat' first
      | (with_reducible exact ih0 _ _ _ _ _ _ _)
      | (with_reducible exact ih1 _ _ _ _ _ _ _ _)
      | (with_reducible exact trystlaw08_Same.mono _ _ _)
      | (with_reducible exact LeO.refl _)
      | (with_reducible exact LeO.none _)
      | (with_reducible refine LeO.ite ?_ ?_)
      | (with_reducible refine LeO.bind ?_ (fun _ => ?_))
      | exact ih0 _ _ _ _ _ _ _
      | exact ih1 _ _ _ _ _ _ _ _
      | exact trystlaw08_Same.mono _ _ _
      | exact LeO.none _
      | refine LeO.ite ?_ ?_
      | refine LeO.bind ?_ (fun _ => ?_)
theorem trystlaw10_Same.mono : ∀ a0 a1 a2 a3 a4 a5 k, LeO (trystlaw10_Same.f k a0 a1 a2 a3 a4 a5) (trystlaw10_Same.f (k + 1) a0 a1 a2 a3 a4 a5) := by
  intro a0 a1 a2 a3 a4 a5 k
  obtain ⟨ih0, ih1⟩ := trystlaw10_Same.mono_l k
  unfold trystlaw10_Same.f
  repeat' first
      | (with_reducible exact ih0 _ _ _ _ _ _ _)
      | (with_reducible exact ih1 _ _ _ _ _ _ _ _)
      | (with_reducible exact trystlaw08_Same.mono _ _ _)
      | (with_reducible exact LeO.refl _)
      | (with_reducible exact LeO.none _)
      | (with_reducible refine LeO.ite ?_ ?_)
      | (with_reducible refine LeO.bind ?_ (fun _ => ?_))
      | exact ih0 _ _ _ _ _ _ _
      | exact ih1 _ _ _ _ _ _ _ _
      | exact trystlaw08_Same.mono _ _ _
      | exact LeO.none _
      | refine LeO.ite ?_ ?_
      | refine LeO.bind ?_ (fun _ => ?_)
set_option maxHeartbeats 8000000 in
set_option maxRecDepth 100000 in
theorem trystlaw10_Same.calls (k : Nat) (a0_0 : ByteArray) (A0_1 : Option Addr) (c0_1 : Nat) (l0_1 : List (S52)) (a0_2 : ByteArray) (a1_0 : ByteArray) (A1_1 : Option Addr) (c1_1 : Nat) (l1_1 : List (S52)) (a1_2 : ByteArray) (r : Bool) (w : World) (hG : GG w) (hr0_1 : Kd.C k52 w A0_1 l0_1.length l0_1) (hc0_1 : l0_1.length ≤ c0_1) (hr1_1 : Kd.C k52 w A1_1 l1_1.length l1_1) (hc1_1 : l1_1.length ≤ c1_1) (h : trystlaw10_Same.f k a0_0 l0_1 a0_2 a1_0 l1_1 a1_2 = some r) :
    Calls Tryd.prog 36 #[.agg #[.string a0_0, .slice A0_1 l0_1.length c0_1, .string a0_2], .agg #[.string a1_0, .slice A1_1 l1_1.length c1_1, .string a1_2]] w fun e w' => e = .returned (.bool r) ∧ Below w.heap.size w w' := by
  have hu41 := Tryd.underlying41
  have HR0_1 := Aside0.mk hr0_1
  have HC0_1 := Aside0.mk hc0_1
  clear hr0_1 hc0_1
  have HR1_1 := Aside0.mk hr1_1
  have HC1_1 := Aside0.mk hc1_1
  clear hr1_1 hc1_1
  have HB := Aside0.mk (Below.refl w.heap.size w)
  have H : (if a0_0.toList = a1_0.toList then (if a0_2.toList = a1_2.toList then (trystlaw10_Same.j0 k ((l0_1.length : Int) != (l1_1.length : Int)) a0_0 l0_1 a0_2 a1_0 l1_1 a1_2) else (trystlaw10_Same.j0 k true a0_0 l0_1 a0_2 a1_0 l1_1 a1_2)) else (trystlaw10_Same.j0 k true a0_0 l0_1 a0_2 a1_0 l1_1 a1_2)) = some r := h
  clear h
  have HC3 := Aside0.mk H
  clear H
  go_enter Tryd.func36, Tryd.ntmps36
  go_upto_region 1 with (first | ((with_reducible refine gate_dst (N := 2) rfl ?_); (try (refine gate_guard (by rfl) ?_; dsimp only)); refine box_event ?hg (N := 2) ?hd (cs := #[.string a0_0, .slice A0_1 l0_1.length c0_1, .string a0_2]) (t := 41) ?hr ?_; (case hd => rfl); (case hg => rfl); (case hr => first | (go_simp; done) | (go_simp; rfl)); intro gb170 hg w4 hbox hb; have n0_ := Aside0.mk (below_step (by repeat (first | (with_reducible first | exact HB.out | apply below_alloc | apply pw_below_drewN | apply below_drew1) | exact HB.out)) hb); have n1_ := Aside0.mk (hbox); have n2_ := Aside0.mk ((by rw [hg]; exact (below_size (by repeat (first | (with_reducible first | exact HB.out | apply below_alloc | apply pw_below_drewN | apply below_drew1) | exact HB.out))) : w.heap.size ≤ gb170)); have n3_ := Aside0.mk ((by rw [hg]; exact (below_size (by repeat (first | (with_reducible first | exact HB.out | apply below_alloc | apply pw_below_drewN | apply below_drew1) | exact HB.out))) : w.heap.size ≤ gb170)); clear HB; have HB := n0_; have BK170 := n1_; have GW170 := n2_; have GE170 := n3_; clear n0_ n1_ n2_ n3_; clear hb hbox hg) | ((with_reducible refine gate_dst (N := 3) rfl ?_); (try (refine gate_guard (by rfl) ?_; dsimp only)); refine box_event ?hg (N := 3) ?hd (cs := #[.string a1_0, .slice A1_1 l1_1.length c1_1, .string a1_2]) (t := 41) ?hr ?_; (case hd => rfl); (case hg => rfl); (case hr => first | (go_simp; done) | (go_simp; rfl)); intro gb171 hg w5 hbox hb; have n0_ := Aside0.mk (blk_below (g := gb170) (o := .cells #[.string a0_0, .slice A0_1 l0_1.length c0_1, .string a0_2] 41 (0, 0)) (by (with_reducible repeat (first | refine blk_drewN ?_ _ | refine blk_drew ?_ | refine blk_alloc ?_ _)); exact BK170.out) hb); have n1_ := Aside0.mk (below_step (by repeat (first | (with_reducible first | exact HB.out | apply below_alloc | apply pw_below_drewN | apply below_drew1 | refine below_set ?_ GE170.out) | exact HB.out)) hb); have n2_ := Aside0.mk (hbox); have n3_ := Aside0.mk ((by rw [hg]; exact (below_size (by repeat (first | (with_reducible first | exact HB.out | apply below_alloc | apply pw_below_drewN | apply below_drew1 | refine below_set ?_ GE170.out) | exact HB.out))) : w.heap.size ≤ gb171)); have n4_ := Aside0.mk ((by rw [hg]; exact (below_size (by repeat (first | (with_reducible first | exact HB.out | apply below_alloc | apply pw_below_drewN | apply below_drew1 | refine below_set ?_ GE170.out) | exact HB.out))) : w.heap.size ≤ gb171)); have n5_ := Aside0.mk ((by rw [hg]; exact Nat.ne_of_lt (blk_lt (g := gb170) (o := .cells #[.string a0_0, .slice A0_1 l0_1.length c0_1, .string a0_2] 41 (0, 0)) (by (with_reducible repeat (first | refine blk_drewN ?_ _ | refine blk_drew ?_ | refine blk_alloc ?_ _)); exact BK170.out)) : gb170 ≠ gb171)); have n6_ := Aside0.mk ((by rw [hg]; exact Nat.ne_of_gt (blk_lt (g := gb170) (o := .cells #[.string a0_0, .slice A0_1 l0_1.length c0_1, .string a0_2] 41 (0, 0)) (by (with_reducible repeat (first | refine blk_drewN ?_ _ | refine blk_drew ?_ | refine blk_alloc ?_ _)); exact BK170.out)) : gb171 ≠ gb170)); clear BK170; clear HB; have BK170 := n0_; have HB := n1_; have BK171 := n2_; have GW171 := n3_; have GE171 := n4_; have NB170_171 := n5_; have NB171_170 := n6_; clear n0_ n1_ n2_ n3_ n4_ n5_ n6_; clear hb hbox hg))
  repeat (go_quiet (first | ((with_reducible refine gate_dst (N := 2) rfl ?_); (try (refine gate_guard (by rfl) ?_; dsimp only)); refine box_event ?hg (N := 2) ?hd (cs := #[.string a0_0, .slice A0_1 l0_1.length c0_1, .string a0_2]) (t := 41) ?hr ?_; (case hd => rfl); (case hg => rfl); (case hr => first | (go_simp; done) | (go_simp; rfl)); intro gb170 hg w4 hbox hb; have n0_ := Aside0.mk (below_step (by repeat (first | (with_reducible first | exact HB.out | apply below_alloc | apply pw_below_drewN | apply below_drew1) | exact HB.out)) hb); have n1_ := Aside0.mk (hbox); have n2_ := Aside0.mk ((by rw [hg]; exact (below_size (by repeat (first | (with_reducible first | exact HB.out | apply below_alloc | apply pw_below_drewN | apply below_drew1) | exact HB.out))) : w.heap.size ≤ gb170)); have n3_ := Aside0.mk ((by rw [hg]; exact (below_size (by repeat (first | (with_reducible first | exact HB.out | apply below_alloc | apply pw_below_drewN | apply below_drew1) | exact HB.out))) : w.heap.size ≤ gb170)); clear HB; have HB := n0_; have BK170 := n1_; have GW170 := n2_; have GE170 := n3_; clear n0_ n1_ n2_ n3_; clear hb hbox hg) | ((with_reducible refine gate_dst (N := 3) rfl ?_); (try (refine gate_guard (by rfl) ?_; dsimp only)); refine box_event ?hg (N := 3) ?hd (cs := #[.string a1_0, .slice A1_1 l1_1.length c1_1, .string a1_2]) (t := 41) ?hr ?_; (case hd => rfl); (case hg => rfl); (case hr => first | (go_simp; done) | (go_simp; rfl)); intro gb171 hg w5 hbox hb; have n0_ := Aside0.mk (blk_below (g := gb170) (o := .cells #[.string a0_0, .slice A0_1 l0_1.length c0_1, .string a0_2] 41 (0, 0)) (by (with_reducible repeat (first | refine blk_drewN ?_ _ | refine blk_drew ?_ | refine blk_alloc ?_ _)); exact BK170.out) hb); have n1_ := Aside0.mk (below_step (by repeat (first | (with_reducible first | exact HB.out | apply below_alloc | apply pw_below_drewN | apply below_drew1 | refine below_set ?_ GE170.out) | exact HB.out)) hb); have n2_ := Aside0.mk (hbox); have n3_ := Aside0.mk ((by rw [hg]; exact (below_size (by repeat (first | (with_reducible first | exact HB.out | apply below_alloc | apply pw_below_drewN | apply below_drew1 | refine below_set ?_ GE170.out) | exact HB.out))) : w.heap.size ≤ gb171)); have n4_ := Aside0.mk ((by rw [hg]; exact (below_size (by repeat (first | (with_reducible first | exact HB.out | apply below_alloc | apply pw_below_drewN | apply below_drew1 | refine below_set ?_ GE170.out) | exact HB.out))) : w.heap.size ≤ gb171)); have n5_ := Aside0.mk ((by rw [hg]; exact Nat.ne_of_lt (blk_lt (g := gb170) (o := .cells #[.string a0_0, .slice A0_1 l0_1.length c0_1, .string a0_2] 41 (0, 0)) (by (with_reducible repeat (first | refine blk_drewN ?_ _ | refine blk_drew ?_ | refine blk_alloc ?_ _)); exact BK170.out)) : gb170 ≠ gb171)); have n6_ := Aside0.mk ((by rw [hg]; exact Nat.ne_of_gt (blk_lt (g := gb170) (o := .cells #[.string a0_0, .slice A0_1 l0_1.length c0_1, .string a0_2] 41 (0, 0)) (by (with_reducible repeat (first | refine blk_drewN ?_ _ | refine blk_drew ?_ | refine blk_alloc ?_ _)); exact BK170.out)) : gb171 ≠ gb170)); clear BK170; clear HB; have BK170 := n0_; have HB := n1_; have BK171 := n2_; have GW171 := n3_; have GE171 := n4_; have NB170_171 := n5_; have NB171_170 := n6_; clear n0_ n1_ n2_ n3_ n4_ n5_ n6_; clear hb hbox hg)); go_upto_region 1 with (first | ((with_reducible refine gate_dst (N := 2) rfl ?_); (try (refine gate_guard (by rfl) ?_; dsimp only)); refine box_event ?hg (N := 2) ?hd (cs := #[.string a0_0, .slice A0_1 l0_1.length c0_1, .string a0_2]) (t := 41) ?hr ?_; (case hd => rfl); (case hg => rfl); (case hr => first | (go_simp; done) | (go_simp; rfl)); intro gb170 hg w4 hbox hb; have n0_ := Aside0.mk (below_step (by repeat (first | (with_reducible first | exact HB.out | apply below_alloc | apply pw_below_drewN | apply below_drew1) | exact HB.out)) hb); have n1_ := Aside0.mk (hbox); have n2_ := Aside0.mk ((by rw [hg]; exact (below_size (by repeat (first | (with_reducible first | exact HB.out | apply below_alloc | apply pw_below_drewN | apply below_drew1) | exact HB.out))) : w.heap.size ≤ gb170)); have n3_ := Aside0.mk ((by rw [hg]; exact (below_size (by repeat (first | (with_reducible first | exact HB.out | apply below_alloc | apply pw_below_drewN | apply below_drew1) | exact HB.out))) : w.heap.size ≤ gb170)); clear HB; have HB := n0_; have BK170 := n1_; have GW170 := n2_; have GE170 := n3_; clear n0_ n1_ n2_ n3_; clear hb hbox hg) | ((with_reducible refine gate_dst (N := 3) rfl ?_); (try (refine gate_guard (by rfl) ?_; dsimp only)); refine box_event ?hg (N := 3) ?hd (cs := #[.string a1_0, .slice A1_1 l1_1.length c1_1, .string a1_2]) (t := 41) ?hr ?_; (case hd => rfl); (case hg => rfl); (case hr => first | (go_simp; done) | (go_simp; rfl)); intro gb171 hg w5 hbox hb; have n0_ := Aside0.mk (blk_below (g := gb170) (o := .cells #[.string a0_0, .slice A0_1 l0_1.length c0_1, .string a0_2] 41 (0, 0)) (by (with_reducible repeat (first | refine blk_drewN ?_ _ | refine blk_drew ?_ | refine blk_alloc ?_ _)); exact BK170.out) hb); have n1_ := Aside0.mk (below_step (by repeat (first | (with_reducible first | exact HB.out | apply below_alloc | apply pw_below_drewN | apply below_drew1 | refine below_set ?_ GE170.out) | exact HB.out)) hb); have n2_ := Aside0.mk (hbox); have n3_ := Aside0.mk ((by rw [hg]; exact (below_size (by repeat (first | (with_reducible first | exact HB.out | apply below_alloc | apply pw_below_drewN | apply below_drew1 | refine below_set ?_ GE170.out) | exact HB.out))) : w.heap.size ≤ gb171)); have n4_ := Aside0.mk ((by rw [hg]; exact (below_size (by repeat (first | (with_reducible first | exact HB.out | apply below_alloc | apply pw_below_drewN | apply below_drew1 | refine below_set ?_ GE170.out) | exact HB.out))) : w.heap.size ≤ gb171)); have n5_ := Aside0.mk ((by rw [hg]; exact Nat.ne_of_lt (blk_lt (g := gb170) (o := .cells #[.string a0_0, .slice A0_1 l0_1.length c0_1, .string a0_2] 41 (0, 0)) (by (with_reducible repeat (first | refine blk_drewN ?_ _ | refine blk_drew ?_ | refine blk_alloc ?_ _)); exact BK170.out)) : gb170 ≠ gb171)); have n6_ := Aside0.mk ((by rw [hg]; exact Nat.ne_of_gt (blk_lt (g := gb170) (o := .cells #[.string a0_0, .slice A0_1 l0_1.length c0_1, .string a0_2] 41 (0, 0)) (by (with_reducible repeat (first | refine blk_drewN ?_ _ | refine blk_drew ?_ | refine blk_alloc ?_ _)); exact BK170.out)) : gb171 ≠ gb170)); clear BK170; clear HB; have BK170 := n0_; have HB := n1_; have BK171 := n2_; have GW171 := n3_; have GE171 := n4_; have NB170_171 := n5_; have NB171_170 := n6_; clear n0_ n1_ n2_ n3_ n4_ n5_ n6_; clear hb hbox hg)))
  (try simp only [Act.put, List.setIfInBounds_toArray, List.set_cons_zero, List.set_cons_succ])
  go_cut [26] (fun v26 wc => ∃ (kq : Nat) (x26_2 : Bool), v26 = .bool x26_2 ∧ Aside0 (trystlaw10_Same.j0 kq x26_2 a0_0 l0_1 a0_2 a1_0 l1_1 a1_2 = some r) ∧ Aside0 (kq ≤ k) ∧ Aside0 (wc.heap[gb170]? = some (.cells #[.string a0_0, (.slice A0_1 l0_1.length c0_1), .string a0_2] 41 (0, 0))) ∧ Aside0 (wc.heap[gb171]? = some (.cells #[.string a1_0, (.slice A1_1 l1_1.length c1_1), .string a1_2] 41 (0, 0))) ∧ Aside0 (Below w.heap.size w wc))
  case first =>
    have H := HC3.out
    clear HC3
    by_cases c6 : a0_0.toList = a1_0.toList
    · rw [if_pos c6] at H
      have c6b0 : (a0_0.toList == a1_0.toList) = true := beq_iff_eq.mpr c6
      have c6b1 : (a0_0.toList != a1_0.toList) = false := bne_eq_false_iff_eq.mpr c6
      clear c6
      (first | rw [c6b0] | (simp only [i64_w, i32_w]; rw [c6b0]) | skip)
      by_cases c7 : a0_2.toList = a1_2.toList
      · rw [if_pos c7] at H
        have c7b0 : (a0_2.toList == a1_2.toList) = true := beq_iff_eq.mpr c7
        have c7b1 : (a0_2.toList != a1_2.toList) = false := bne_eq_false_iff_eq.mpr c7
        clear c7
        have H' := Aside0.mk H
        clear H
        have hnb8 := NB170_171.out
        have hnc8 := NB171_170.out
        have hcz9_0 : w5.cell? ⟨gb170, 0, none⟩ = some (.string a0_0) := (blk_cell BK170.out 0).trans rfl
        have hcz9_1 : w5.cell? ⟨gb170, 1, none⟩ = some (.slice A0_1 l0_1.length c0_1) := (blk_cell BK170.out 1).trans rfl
        have hcz9_2 : w5.cell? ⟨gb170, 2, none⟩ = some (.string a0_2) := (blk_cell BK170.out 2).trans rfl
        have hfz9_0 := blk_frozen BK170.out 0
        have hfz9_1 := blk_frozen BK170.out 1
        have hfz9_2 := blk_frozen BK170.out 2
        have hcz10_0 : w5.cell? ⟨gb171, 0, none⟩ = some (.string a1_0) := (blk_cell BK171.out 0).trans rfl
        have hcz10_1 : w5.cell? ⟨gb171, 1, none⟩ = some (.slice A1_1 l1_1.length c1_1) := (blk_cell BK171.out 1).trans rfl
        have hcz10_2 : w5.cell? ⟨gb171, 2, none⟩ = some (.string a1_2) := (blk_cell BK171.out 2).trans rfl
        have hfz10_0 := blk_frozen BK171.out 0
        have hfz10_1 := blk_frozen BK171.out 1
        have hfz10_2 := blk_frozen BK171.out 2
        go_wp2
        repeat (go_quiet (fail); try go_wp2)
        go_meet
        case rel => exact ⟨_, (((l0_1.length : Int) != (l1_1.length : Int))), (by first | rfl | (simp; done) | (simp [bne_nil_isEmpty, beq_nil_isEmpty]; done) | (simp [*]; done)), H', ⟨by first | omega | exact Nat.le_refl _⟩, ⟨by (with_reducible repeat (first | refine blk_drewN ?_ _ | refine blk_drew ?_ | refine blk_alloc ?_ _)); exact BK170.out⟩, ⟨by (with_reducible repeat (first | refine blk_drewN ?_ _ | refine blk_drew ?_ | refine blk_alloc ?_ _)); exact BK171.out⟩, ⟨by repeat (first | (with_reducible first | exact HB.out | apply below_alloc | apply pw_below_drewN | apply below_drew1 | refine below_set ?_ GE170.out | refine below_set ?_ GE171.out) | exact HB.out)⟩⟩
      · rw [if_neg c7] at H
        have c7b0 : (a0_2.toList == a1_2.toList) = false := beq_eq_false_iff_ne.mpr c7
        have c7b1 : (a0_2.toList != a1_2.toList) = true := bne_iff_ne.mpr c7
        have H' := Aside0.mk H
        clear H
        have hnb11 := NB170_171.out
        have hnc11 := NB171_170.out
        have hcz12_0 : w5.cell? ⟨gb170, 0, none⟩ = some (.string a0_0) := (blk_cell BK170.out 0).trans rfl
        have hcz12_1 : w5.cell? ⟨gb170, 1, none⟩ = some (.slice A0_1 l0_1.length c0_1) := (blk_cell BK170.out 1).trans rfl
        have hcz12_2 : w5.cell? ⟨gb170, 2, none⟩ = some (.string a0_2) := (blk_cell BK170.out 2).trans rfl
        have hfz12_0 := blk_frozen BK170.out 0
        have hfz12_1 := blk_frozen BK170.out 1
        have hfz12_2 := blk_frozen BK170.out 2
        have hcz13_0 : w5.cell? ⟨gb171, 0, none⟩ = some (.string a1_0) := (blk_cell BK171.out 0).trans rfl
        have hcz13_1 : w5.cell? ⟨gb171, 1, none⟩ = some (.slice A1_1 l1_1.length c1_1) := (blk_cell BK171.out 1).trans rfl
        have hcz13_2 : w5.cell? ⟨gb171, 2, none⟩ = some (.string a1_2) := (blk_cell BK171.out 2).trans rfl
        have hfz13_0 := blk_frozen BK171.out 0
        have hfz13_1 := blk_frozen BK171.out 1
        have hfz13_2 := blk_frozen BK171.out 2
        go_wp2
        repeat (go_quiet (fail); try go_wp2)
        go_meet
        case rel => exact ⟨_, (true), (by first | rfl | (simp; done) | (simp [bne_nil_isEmpty, beq_nil_isEmpty]; done) | (simp [*]; done)), H', ⟨by first | omega | exact Nat.le_refl _⟩, ⟨by (with_reducible repeat (first | refine blk_drewN ?_ _ | refine blk_drew ?_ | refine blk_alloc ?_ _)); exact BK170.out⟩, ⟨by (with_reducible repeat (first | refine blk_drewN ?_ _ | refine blk_drew ?_ | refine blk_alloc ?_ _)); exact BK171.out⟩, ⟨by repeat (first | (with_reducible first | exact HB.out | apply below_alloc | apply pw_below_drewN | apply below_drew1 | refine below_set ?_ GE170.out | refine below_set ?_ GE171.out) | exact HB.out)⟩⟩
    · rw [if_neg c6] at H
      have c6b0 : (a0_0.toList == a1_0.toList) = false := beq_eq_false_iff_ne.mpr c6
      have c6b1 : (a0_0.toList != a1_0.toList) = true := bne_iff_ne.mpr c6
      (first | rw [c6b0] | (simp only [i64_w, i32_w]; rw [c6b0]) | skip)
      have H' := Aside0.mk H
      clear H
      have hnb14 := NB170_171.out
      have hnc14 := NB171_170.out
      have hcz15_0 : w5.cell? ⟨gb170, 0, none⟩ = some (.string a0_0) := (blk_cell BK170.out 0).trans rfl
      have hcz15_1 : w5.cell? ⟨gb170, 1, none⟩ = some (.slice A0_1 l0_1.length c0_1) := (blk_cell BK170.out 1).trans rfl
      have hcz15_2 : w5.cell? ⟨gb170, 2, none⟩ = some (.string a0_2) := (blk_cell BK170.out 2).trans rfl
      have hfz15_0 := blk_frozen BK170.out 0
      have hfz15_1 := blk_frozen BK170.out 1
      have hfz15_2 := blk_frozen BK170.out 2
      have hcz16_0 : w5.cell? ⟨gb171, 0, none⟩ = some (.string a1_0) := (blk_cell BK171.out 0).trans rfl
      have hcz16_1 : w5.cell? ⟨gb171, 1, none⟩ = some (.slice A1_1 l1_1.length c1_1) := (blk_cell BK171.out 1).trans rfl
      have hcz16_2 : w5.cell? ⟨gb171, 2, none⟩ = some (.string a1_2) := (blk_cell BK171.out 2).trans rfl
      have hfz16_0 := blk_frozen BK171.out 0
      have hfz16_1 := blk_frozen BK171.out 1
      have hfz16_2 := blk_frozen BK171.out 2
      go_wp2
      repeat (go_quiet (fail); try go_wp2)
      go_meet
      case rel => exact ⟨_, (true), (by first | rfl | (simp; done) | (simp [bne_nil_isEmpty, beq_nil_isEmpty]; done) | (simp [*]; done)), H', ⟨by first | omega | exact Nat.le_refl _⟩, ⟨by (with_reducible repeat (first | refine blk_drewN ?_ _ | refine blk_drew ?_ | refine blk_alloc ?_ _)); exact BK170.out⟩, ⟨by (with_reducible repeat (first | refine blk_drewN ?_ _ | refine blk_drew ?_ | refine blk_alloc ?_ _)); exact BK171.out⟩, ⟨by repeat (first | (with_reducible first | exact HB.out | apply below_alloc | apply pw_below_drewN | apply below_drew1 | refine below_set ?_ GE170.out | refine below_set ?_ GE171.out) | exact HB.out)⟩⟩
  case rest =>
    clear HC3
    try clear c1
    try clear p2
    try clear c3
    try clear c6
    try clear c6b0
    try clear c6b1
    try clear c7
    try clear c7b0
    try clear c7b1
    try clear c8
    try clear c11
    try clear c14
    try clear hcz10_0
    try clear hcz10_1
    try clear hcz10_2
    try clear hcz12_0
    try clear hcz12_1
    try clear hcz12_2
    try clear hcz13_0
    try clear hcz13_1
    try clear hcz13_2
    try clear hcz15_0
    try clear hcz15_1
    try clear hcz15_2
    try clear hcz16_0
    try clear hcz16_1
    try clear hcz16_2
    try clear hcz9_0
    try clear hcz9_1
    try clear hcz9_2
    try clear hfz10_0
    try clear hfz10_1
    try clear hfz10_2
    try clear hfz12_0
    try clear hfz12_1
    try clear hfz12_2
    try clear hfz13_0
    try clear hfz13_1
    try clear hfz13_2
    try clear hfz15_0
    try clear hfz15_1
    try clear hfz15_2
    try clear hfz16_0
    try clear hfz16_1
    try clear hfz16_2
    try clear hfz9_0
    try clear hfz9_1
    try clear hfz9_2
    obtain ⟨kq, x26_2, rfl, HA, HJ2, BK170, BK171, HB⟩ := hcut
    cases kq with
    | zero => exact absurd HA.out (by simp [trystlaw10_Same.j0])
    | succ kj2 =>
      have H := HA.out
      clear HA
      simp only [trystlaw10_Same.j0] at H
      by_cases c17 : x26_2 = true
      · subst c17
        have H1 : (some false) = some r := by rw [if_pos rfl] at H; exact H
        clear H
        have H := H1
        clear H1
        obtain rfl := Option.some.inj H
        go_wp2
        repeat (go_quiet (fail); try go_wp2)
        go_ret
        exact ⟨by first | rfl | (simp [errW_none, errW_some] <;> rfl) | (simp [*, errW_none, errW_some] <;> rfl), by repeat (first | (with_reducible first | exact HB.out | apply below_alloc | apply pw_below_drewN | apply below_drew1 | refine below_set ?_ GE170.out | refine below_set ?_ GE171.out) | exact HB.out)⟩
      · replace c17 := Bool.eq_false_iff.mpr c17
        subst c17
        have H1 : (trystlaw10_Same.l0 kj2 (l0_1.length : Int) 0 a0_0 l0_1 a0_2 a1_0 l1_1 a1_2) = some r := by rw [if_neg (show ¬ (false = true) by decide)] at H; exact H
        clear H
        have H := H1
        clear H1
        have H' := Aside0.mk H
        clear H
        have hnb18 := NB170_171.out
        have hnc18 := NB171_170.out
        have hcz19_0 : wc.cell? ⟨gb170, 0, none⟩ = some (.string a0_0) := (blk_cell BK170.out 0).trans rfl
        have hcz19_1 : wc.cell? ⟨gb170, 1, none⟩ = some (.slice A0_1 l0_1.length c0_1) := (blk_cell BK170.out 1).trans rfl
        have hcz19_2 : wc.cell? ⟨gb170, 2, none⟩ = some (.string a0_2) := (blk_cell BK170.out 2).trans rfl
        have hfz19_0 := blk_frozen BK170.out 0
        have hfz19_1 := blk_frozen BK170.out 1
        have hfz19_2 := blk_frozen BK170.out 2
        go_wp2
        repeat (go_quiet (fail); try go_wp2)
        go_loopg [30] kj2 (fun kq v30 w' => ∃ (x30_2 : Int), v30 = .int .i64 x30_2 ∧ Aside0 (trystlaw10_Same.l0 kq (l0_1.length : Int) x30_2 a0_0 l0_1 a0_2 a1_0 l1_1 a1_2 = some r) ∧ Aside0 (kq ≤ kj2) ∧ Aside0 (w'.heap[gb170]? = some (.cells #[.string a0_0, (.slice A0_1 l0_1.length c0_1), .string a0_2] 41 (0, 0))) ∧ Aside0 (w'.heap[gb171]? = some (.cells #[.string a1_0, (.slice A1_1 l1_1.length c1_1), .string a1_2] 41 (0, 0))) ∧ Aside0 (Below w.heap.size w w'))
        case atStart => exact ⟨(0), (by first | rfl | (simp; done) | (simp [bne_nil_isEmpty, beq_nil_isEmpty]; done) | (simp [*]; done)), H', ⟨Nat.le_refl _⟩, ⟨by (with_reducible repeat (first | refine blk_drewN ?_ _ | refine blk_drew ?_ | refine blk_alloc ?_ _)); exact BK170.out⟩, ⟨by (with_reducible repeat (first | refine blk_drewN ?_ _ | refine blk_drew ?_ | refine blk_alloc ?_ _)); exact BK171.out⟩, ⟨by repeat (first | (with_reducible first | exact HB.out | apply below_alloc | apply pw_below_drewN | apply below_drew1 | refine below_set ?_ GE170.out | refine below_set ?_ GE171.out) | exact HB.out)⟩⟩
        case round =>
          clear H'
          try clear c1
          try clear p2
          try clear c3
          try clear c6
          try clear c6b0
          try clear c6b1
          try clear c7
          try clear c7b0
          try clear c7b1
          try clear c8
          try clear c11
          try clear c14
          try clear c17
          try clear c18
          try clear hcz10_0
          try clear hcz10_1
          try clear hcz10_2
          try clear hcz12_0
          try clear hcz12_1
          try clear hcz12_2
          try clear hcz13_0
          try clear hcz13_1
          try clear hcz13_2
          try clear hcz15_0
          try clear hcz15_1
          try clear hcz15_2
          try clear hcz16_0
          try clear hcz16_1
          try clear hcz16_2
          try clear hcz19_0
          try clear hcz19_1
          try clear hcz19_2
          try clear hcz9_0
          try clear hcz9_1
          try clear hcz9_2
          try clear hfz10_0
          try clear hfz10_1
          try clear hfz10_2
          try clear hfz12_0
          try clear hfz12_1
          try clear hfz12_2
          try clear hfz13_0
          try clear hfz13_1
          try clear hfz13_2
          try clear hfz15_0
          try clear hfz15_1
          try clear hfz15_2
          try clear hfz16_0
          try clear hfz16_1
          try clear hfz16_2
          try clear hfz19_0
          try clear hfz19_1
          try clear hfz19_2
          try clear hfz9_0
          try clear hfz9_1
          try clear hfz9_2
          try clear p2
          obtain ⟨x30_2, rfl, HA, HK2, BK170, BK171, HB⟩ := hrel
          cases gk with
          | zero => exact absurd HA.out (by simp [trystlaw10_Same.l0])
          | succ k2 =>
            have H := HA.out
            clear HA
            simp only [trystlaw10_Same.l0] at H
            by_cases c20 : x30_2 < (l0_1.length : Int)
            · rw [if_pos c20] at H
              have c20b0 : decide (x30_2 < (l0_1.length : Int)) = true := decide_eq_true c20
              clear c20
              by_cases c21 : 0 ≤ x30_2
              · rw [if_pos c21] at H
                have c21b0 : decide (0 ≤ x30_2) = true := decide_eq_true c21
                clear c21
                by_cases c22 : x30_2 < (l0_1.length : Int)
                · rw [if_pos c22] at H
                  have c22b0 : decide (x30_2 < (l0_1.length : Int)) = true := decide_eq_true c22
                  clear c22
                  by_cases c23 : x30_2 < (l1_1.length : Int)
                  · rw [if_pos c23] at H
                    have c23b0 : decide (x30_2 < (l1_1.length : Int)) = true := decide_eq_true c23
                    clear c23
                    by_cases c24 : ((rd_T52 l0_1 x30_2).f0).toList = ((rd_T52 l1_1 x30_2).f0).toList
                    · rw [if_pos c24] at H
                      have c24b0 : (((rd_T52 l0_1 x30_2).f0).toList == ((rd_T52 l1_1 x30_2).f0).toList) = true := beq_iff_eq.mpr c24
                      have c24b1 : (((rd_T52 l0_1 x30_2).f0).toList != ((rd_T52 l1_1 x30_2).f0).toList) = false := bne_eq_false_iff_eq.mpr c24
                      clear c24
                      replace H := Option.bind_eq_some_iff.mp H
                      obtain ⟨t176, A250, H⟩ := H
                      replace H : (if t176 = true then (trystlaw10_Same.l0 k2 (l0_1.length : Int) (wrap64 (x30_2 + 1)) a0_0 l0_1 a0_2 a1_0 l1_1 a1_2) else (some false)) = some r := H
                      have A25 := Aside0.mk A250
                      clear A250
                      by_cases c26 : t176 = true
                      · subst c26
                        have H1 : (trystlaw10_Same.l0 k2 (l0_1.length : Int) (wrap64 (x30_2 + 1)) a0_0 l0_1 a0_2 a1_0 l1_1 a1_2) = some r := by rw [if_pos rfl] at H; exact H
                        clear H
                        have H := H1
                        clear H1
                        have H' := Aside0.mk H
                        clear H
                        have hnb27 := NB170_171.out
                        have hnc27 := NB171_170.out
                        have hcz28_0 : wr.cell? ⟨gb170, 0, none⟩ = some (.string a0_0) := (blk_cell BK170.out 0).trans rfl
                        have hcz28_1 : wr.cell? ⟨gb170, 1, none⟩ = some (.slice A0_1 l0_1.length c0_1) := (blk_cell BK170.out 1).trans rfl
                        have hcz28_2 : wr.cell? ⟨gb170, 2, none⟩ = some (.string a0_2) := (blk_cell BK170.out 2).trans rfl
                        have hfz28_0 := blk_frozen BK170.out 0
                        have hfz28_1 := blk_frozen BK170.out 1
                        have hfz28_2 := blk_frozen BK170.out 2
                        have p172 : 0 ≤ (x30_2 : Int) := of_decide_eq_true (by first | (with_reducible assumption) | assumption)
                        have q172 : x30_2 < (l0_1.length : Int) := of_decide_eq_true (by first | (with_reducible assumption) | assumption)
                        obtain ⟨ad172, A172_1, c172_1, e172, hx172_0, hx172_1, hl172_1, hi172_1⟩ := at_T52 HR0_1.out x30_2 p172 q172
                        cases e172
                        replace hx172_0 := (HB.out.cell (World.block_lt_of_cell? w _ hx172_0)).trans hx172_0
                        replace hx172_1 := (HB.out.cell (World.block_lt_of_cell? w _ hx172_1)).trans hx172_1
                        have HR172_1 := Aside0.mk hi172_1
                        have HC172_1 := Aside0.mk hl172_1
                        clear hi172_1 hl172_1
                        replace p172 := eq_true p172
                        replace q172 := eq_true q172
                        have hcz29_0 : wr.cell? ⟨gb171, 0, none⟩ = some (.string a1_0) := (blk_cell BK171.out 0).trans rfl
                        have hcz29_1 : wr.cell? ⟨gb171, 1, none⟩ = some (.slice A1_1 l1_1.length c1_1) := (blk_cell BK171.out 1).trans rfl
                        have hcz29_2 : wr.cell? ⟨gb171, 2, none⟩ = some (.string a1_2) := (blk_cell BK171.out 2).trans rfl
                        have hfz29_0 := blk_frozen BK171.out 0
                        have hfz29_1 := blk_frozen BK171.out 1
                        have hfz29_2 := blk_frozen BK171.out 2
                        have p173 : 0 ≤ (x30_2 : Int) := of_decide_eq_true (by first | (with_reducible assumption) | assumption)
                        have q173 : x30_2 < (l1_1.length : Int) := of_decide_eq_true (by first | (with_reducible assumption) | assumption)
                        obtain ⟨ad173, A173_1, c173_1, e173, hx173_0, hx173_1, hl173_1, hi173_1⟩ := at_T52 HR1_1.out x30_2 p173 q173
                        cases e173
                        replace hx173_0 := (HB.out.cell (World.block_lt_of_cell? w _ hx173_0)).trans hx173_0
                        replace hx173_1 := (HB.out.cell (World.block_lt_of_cell? w _ hx173_1)).trans hx173_1
                        have HR173_1 := Aside0.mk hi173_1
                        have HC173_1 := Aside0.mk hl173_1
                        clear hi173_1 hl173_1
                        replace p173 := eq_true p173
                        replace q173 := eq_true q173
                        have p174 : 0 ≤ (x30_2 : Int) := of_decide_eq_true (by first | (with_reducible assumption) | assumption)
                        have q174 : x30_2 < (l0_1.length : Int) := of_decide_eq_true (by first | (with_reducible assumption) | assumption)
                        obtain ⟨ad174, A174_1, c174_1, e174, hx174_0, hx174_1, hl174_1, hi174_1⟩ := at_T52 HR0_1.out x30_2 p174 q174
                        obtain rfl : ad172 = ad174 := (by injection e174)
                        replace hx174_0 := (HB.out.cell (World.block_lt_of_cell? w _ hx174_0)).trans hx174_0
                        replace hx174_1 := (HB.out.cell (World.block_lt_of_cell? w _ hx174_1)).trans hx174_1
                        have HR174_1 := Aside0.mk hi174_1
                        have HC174_1 := Aside0.mk hl174_1
                        clear hi174_1 hl174_1
                        replace p174 := eq_true p174
                        replace q174 := eq_true q174
                        have ea_ := Option.some.inj (hx172_1.symm.trans hx174_1)
                        injection ea_ with ea_ en_ ec_
                        subst ea_
                        subst ec_
                        clear en_
                        have p175 : 0 ≤ (x30_2 : Int) := of_decide_eq_true (by first | (with_reducible assumption) | assumption)
                        have q175 : x30_2 < (l1_1.length : Int) := of_decide_eq_true (by first | (with_reducible assumption) | assumption)
                        obtain ⟨ad175, A175_1, c175_1, e175, hx175_0, hx175_1, hl175_1, hi175_1⟩ := at_T52 HR1_1.out x30_2 p175 q175
                        obtain rfl : ad173 = ad175 := (by injection e175)
                        replace hx175_0 := (HB.out.cell (World.block_lt_of_cell? w _ hx175_0)).trans hx175_0
                        replace hx175_1 := (HB.out.cell (World.block_lt_of_cell? w _ hx175_1)).trans hx175_1
                        have HR175_1 := Aside0.mk hi175_1
                        have HC175_1 := Aside0.mk hl175_1
                        clear hi175_1 hl175_1
                        replace p175 := eq_true p175
                        replace q175 := eq_true q175
                        have ea_ := Option.some.inj (hx173_1.symm.trans hx175_1)
                        injection ea_ with ea_ en_ ec_
                        subst ea_
                        subst ec_
                        clear en_
                        go_wp2_with (first | (go_at_call 16; (with_reducible refine (trystlaw08_Same.calls k2 _ _ ((rd_T52 l0_1 x30_2).f1) _ _ ((rd_T52 l1_1 x30_2).f1) true _ (by first | (with_reducible exact hG) | exact GG.below hG (by repeat (first | (with_reducible first | exact HB.out | apply below_alloc | apply pw_below_drewN | apply below_drew1 | refine below_set ?_ GE170.out | refine below_set ?_ GE171.out) | exact HB.out))) ?side1 ?side2 ?side3 ?side4 A25.out).mono ?_); (case side1 => repeat (first | exact (Kd.C_below HR174_1.out HB.out) | (with_reducible refine Kd.C_alloc ?_ _) | (with_reducible refine Kd.C_drewN ?_ _) | (with_reducible refine Kd.C_drew ?_))); (case side2 => exact HC174_1.out); (case side3 => repeat (first | exact (Kd.C_below HR175_1.out HB.out) | (with_reducible refine Kd.C_alloc ?_ _) | (with_reducible refine Kd.C_drewN ?_ _) | (with_reducible refine Kd.C_drew ?_))); (case side4 => exact HC175_1.out); rintro e w' ⟨rfl, ⟨nd, rfl⟩⟩; (try first | exact ⟨rfl, _, World.drewN_drewN _ _ _⟩ | exact ⟨rfl, _, Eq.trans (World.drewN_drewN _ _ _) (congrArg (World.drewN _) (Nat.add_assoc _ _ _))⟩)))
                        repeat (go_quiet (first | (go_at_call 16; (with_reducible refine (trystlaw08_Same.calls k2 _ _ ((rd_T52 l0_1 x30_2).f1) _ _ ((rd_T52 l1_1 x30_2).f1) true _ (by first | (with_reducible exact hG) | exact GG.below hG (by repeat (first | (with_reducible first | exact HB.out | apply below_alloc | apply pw_below_drewN | apply below_drew1 | refine below_set ?_ GE170.out | refine below_set ?_ GE171.out) | exact HB.out))) ?side1 ?side2 ?side3 ?side4 A25.out).mono ?_); (case side1 => repeat (first | exact (Kd.C_below HR174_1.out HB.out) | (with_reducible refine Kd.C_alloc ?_ _) | (with_reducible refine Kd.C_drewN ?_ _) | (with_reducible refine Kd.C_drew ?_))); (case side2 => exact HC174_1.out); (case side3 => repeat (first | exact (Kd.C_below HR175_1.out HB.out) | (with_reducible refine Kd.C_alloc ?_ _) | (with_reducible refine Kd.C_drewN ?_ _) | (with_reducible refine Kd.C_drew ?_))); (case side4 => exact HC175_1.out); rintro e w' ⟨rfl, ⟨nd, rfl⟩⟩; (try first | exact ⟨rfl, _, World.drewN_drewN _ _ _⟩ | exact ⟨rfl, _, Eq.trans (World.drewN_drewN _ _ _) (congrArg (World.drewN _) (Nat.add_assoc _ _ _))⟩))); try go_wp2_with (first | (go_at_call 16; (with_reducible refine (trystlaw08_Same.calls k2 _ _ ((rd_T52 l0_1 x30_2).f1) _ _ ((rd_T52 l1_1 x30_2).f1) true _ (by first | (with_reducible exact hG) | exact GG.below hG (by repeat (first | (with_reducible first | exact HB.out | apply below_alloc | apply pw_below_drewN | apply below_drew1 | refine below_set ?_ GE170.out | refine below_set ?_ GE171.out) | exact HB.out))) ?side1 ?side2 ?side3 ?side4 A25.out).mono ?_); (case side1 => repeat (first | exact (Kd.C_below HR174_1.out HB.out) | (with_reducible refine Kd.C_alloc ?_ _) | (with_reducible refine Kd.C_drewN ?_ _) | (with_reducible refine Kd.C_drew ?_))); (case side2 => exact HC174_1.out); (case side3 => repeat (first | exact (Kd.C_below HR175_1.out HB.out) | (with_reducible refine Kd.C_alloc ?_ _) | (with_reducible refine Kd.C_drewN ?_ _) | (with_reducible refine Kd.C_drew ?_))); (case side4 => exact HC175_1.out); rintro e w' ⟨rfl, ⟨nd, rfl⟩⟩; (try first | exact ⟨rfl, _, World.drewN_drewN _ _ _⟩ | exact ⟨rfl, _, Eq.trans (World.drewN_drewN _ _ _) (congrArg (World.drewN _) (Nat.add_assoc _ _ _))⟩))))
                        go_roundg k2
                        case measure => have := HJ2.out; have := HK2.out; omega
                        case rel => exact ⟨(wrap64 (x30_2 + 1)), (by first | rfl | (simp; done) | (simp [bne_nil_isEmpty, beq_nil_isEmpty]; done) | (simp [*]; done)), H', ⟨by have := HJ2.out; have := HK2.out; omega⟩, ⟨by (with_reducible repeat (first | refine blk_drewN ?_ _ | refine blk_drew ?_ | refine blk_alloc ?_ _)); exact BK170.out⟩, ⟨by (with_reducible repeat (first | refine blk_drewN ?_ _ | refine blk_drew ?_ | refine blk_alloc ?_ _)); exact BK171.out⟩, ⟨by repeat (first | (with_reducible first | exact HB.out | apply below_alloc | apply pw_below_drewN | apply below_drew1 | refine below_set ?_ GE170.out | refine below_set ?_ GE171.out) | exact HB.out)⟩⟩
                      · replace c26 := Bool.eq_false_iff.mpr c26
                        subst c26
                        have H1 : (some false) = some r := by rw [if_neg (show ¬ (false = true) by decide)] at H; exact H
                        clear H
                        have H := H1
                        clear H1
                        obtain rfl := Option.some.inj H
                        have hnb30 := NB170_171.out
                        have hnc30 := NB171_170.out
                        have hcz31_0 : wr.cell? ⟨gb170, 0, none⟩ = some (.string a0_0) := (blk_cell BK170.out 0).trans rfl
                        have hcz31_1 : wr.cell? ⟨gb170, 1, none⟩ = some (.slice A0_1 l0_1.length c0_1) := (blk_cell BK170.out 1).trans rfl
                        have hcz31_2 : wr.cell? ⟨gb170, 2, none⟩ = some (.string a0_2) := (blk_cell BK170.out 2).trans rfl
                        have hfz31_0 := blk_frozen BK170.out 0
                        have hfz31_1 := blk_frozen BK170.out 1
                        have hfz31_2 := blk_frozen BK170.out 2
                        have p172 : 0 ≤ (x30_2 : Int) := of_decide_eq_true (by first | (with_reducible assumption) | assumption)
                        have q172 : x30_2 < (l0_1.length : Int) := of_decide_eq_true (by first | (with_reducible assumption) | assumption)
                        obtain ⟨ad172, A172_1, c172_1, e172, hx172_0, hx172_1, hl172_1, hi172_1⟩ := at_T52 HR0_1.out x30_2 p172 q172
                        cases e172
                        replace hx172_0 := (HB.out.cell (World.block_lt_of_cell? w _ hx172_0)).trans hx172_0
                        replace hx172_1 := (HB.out.cell (World.block_lt_of_cell? w _ hx172_1)).trans hx172_1
                        have HR172_1 := Aside0.mk hi172_1
                        have HC172_1 := Aside0.mk hl172_1
                        clear hi172_1 hl172_1
                        replace p172 := eq_true p172
                        replace q172 := eq_true q172
                        have hcz32_0 : wr.cell? ⟨gb171, 0, none⟩ = some (.string a1_0) := (blk_cell BK171.out 0).trans rfl
                        have hcz32_1 : wr.cell? ⟨gb171, 1, none⟩ = some (.slice A1_1 l1_1.length c1_1) := (blk_cell BK171.out 1).trans rfl
                        have hcz32_2 : wr.cell? ⟨gb171, 2, none⟩ = some (.string a1_2) := (blk_cell BK171.out 2).trans rfl
                        have hfz32_0 := blk_frozen BK171.out 0
                        have hfz32_1 := blk_frozen BK171.out 1
                        have hfz32_2 := blk_frozen BK171.out 2
                        have p173 : 0 ≤ (x30_2 : Int) := of_decide_eq_true (by first | (with_reducible assumption) | assumption)
                        have q173 : x30_2 < (l1_1.length : Int) := of_decide_eq_true (by first | (with_reducible assumption) | assumption)
                        obtain ⟨ad173, A173_1, c173_1, e173, hx173_0, hx173_1, hl173_1, hi173_1⟩ := at_T52 HR1_1.out x30_2 p173 q173
                        cases e173
                        replace hx173_0 := (HB.out.cell (World.block_lt_of_cell? w _ hx173_0)).trans hx173_0
                        replace hx173_1 := (HB.out.cell (World.block_lt_of_cell? w _ hx173_1)).trans hx173_1
                        have HR173_1 := Aside0.mk hi173_1
                        have HC173_1 := Aside0.mk hl173_1
                        clear hi173_1 hl173_1
                        replace p173 := eq_true p173
                        replace q173 := eq_true q173
                        have p174 : 0 ≤ (x30_2 : Int) := of_decide_eq_true (by first | (with_reducible assumption) | assumption)
                        have q174 : x30_2 < (l0_1.length : Int) := of_decide_eq_true (by first | (with_reducible assumption) | assumption)
                        obtain ⟨ad174, A174_1, c174_1, e174, hx174_0, hx174_1, hl174_1, hi174_1⟩ := at_T52 HR0_1.out x30_2 p174 q174
                        obtain rfl : ad172 = ad174 := (by injection e174)
                        replace hx174_0 := (HB.out.cell (World.block_lt_of_cell? w _ hx174_0)).trans hx174_0
                        replace hx174_1 := (HB.out.cell (World.block_lt_of_cell? w _ hx174_1)).trans hx174_1
                        have HR174_1 := Aside0.mk hi174_1
                        have HC174_1 := Aside0.mk hl174_1
                        clear hi174_1 hl174_1
                        replace p174 := eq_true p174
                        replace q174 := eq_true q174
                        have ea_ := Option.some.inj (hx172_1.symm.trans hx174_1)
                        injection ea_ with ea_ en_ ec_
                        subst ea_
                        subst ec_
                        clear en_
                        have p175 : 0 ≤ (x30_2 : Int) := of_decide_eq_true (by first | (with_reducible assumption) | assumption)
                        have q175 : x30_2 < (l1_1.length : Int) := of_decide_eq_true (by first | (with_reducible assumption) | assumption)
                        obtain ⟨ad175, A175_1, c175_1, e175, hx175_0, hx175_1, hl175_1, hi175_1⟩ := at_T52 HR1_1.out x30_2 p175 q175
                        obtain rfl : ad173 = ad175 := (by injection e175)
                        replace hx175_0 := (HB.out.cell (World.block_lt_of_cell? w _ hx175_0)).trans hx175_0
                        replace hx175_1 := (HB.out.cell (World.block_lt_of_cell? w _ hx175_1)).trans hx175_1
                        have HR175_1 := Aside0.mk hi175_1
                        have HC175_1 := Aside0.mk hl175_1
                        clear hi175_1 hl175_1
                        replace p175 := eq_true p175
                        replace q175 := eq_true q175
                        have ea_ := Option.some.inj (hx173_1.symm.trans hx175_1)
                        injection ea_ with ea_ en_ ec_
                        subst ea_
                        subst ec_
                        clear en_
                        go_wp2_with (first | (go_at_call 16; (with_reducible refine (trystlaw08_Same.calls k2 _ _ ((rd_T52 l0_1 x30_2).f1) _ _ ((rd_T52 l1_1 x30_2).f1) false _ (by first | (with_reducible exact hG) | exact GG.below hG (by repeat (first | (with_reducible first | exact HB.out | apply below_alloc | apply pw_below_drewN | apply below_drew1 | refine below_set ?_ GE170.out | refine below_set ?_ GE171.out) | exact HB.out))) ?side1 ?side2 ?side3 ?side4 A25.out).mono ?_); (case side1 => repeat (first | exact (Kd.C_below HR174_1.out HB.out) | (with_reducible refine Kd.C_alloc ?_ _) | (with_reducible refine Kd.C_drewN ?_ _) | (with_reducible refine Kd.C_drew ?_))); (case side2 => exact HC174_1.out); (case side3 => repeat (first | exact (Kd.C_below HR175_1.out HB.out) | (with_reducible refine Kd.C_alloc ?_ _) | (with_reducible refine Kd.C_drewN ?_ _) | (with_reducible refine Kd.C_drew ?_))); (case side4 => exact HC175_1.out); rintro e w' ⟨rfl, ⟨nd, rfl⟩⟩; (try first | exact ⟨rfl, _, World.drewN_drewN _ _ _⟩ | exact ⟨rfl, _, Eq.trans (World.drewN_drewN _ _ _) (congrArg (World.drewN _) (Nat.add_assoc _ _ _))⟩)))
                        repeat (go_quiet (first | (go_at_call 16; (with_reducible refine (trystlaw08_Same.calls k2 _ _ ((rd_T52 l0_1 x30_2).f1) _ _ ((rd_T52 l1_1 x30_2).f1) false _ (by first | (with_reducible exact hG) | exact GG.below hG (by repeat (first | (with_reducible first | exact HB.out | apply below_alloc | apply pw_below_drewN | apply below_drew1 | refine below_set ?_ GE170.out | refine below_set ?_ GE171.out) | exact HB.out))) ?side1 ?side2 ?side3 ?side4 A25.out).mono ?_); (case side1 => repeat (first | exact (Kd.C_below HR174_1.out HB.out) | (with_reducible refine Kd.C_alloc ?_ _) | (with_reducible refine Kd.C_drewN ?_ _) | (with_reducible refine Kd.C_drew ?_))); (case side2 => exact HC174_1.out); (case side3 => repeat (first | exact (Kd.C_below HR175_1.out HB.out) | (with_reducible refine Kd.C_alloc ?_ _) | (with_reducible refine Kd.C_drewN ?_ _) | (with_reducible refine Kd.C_drew ?_))); (case side4 => exact HC175_1.out); rintro e w' ⟨rfl, ⟨nd, rfl⟩⟩; (try first | exact ⟨rfl, _, World.drewN_drewN _ _ _⟩ | exact ⟨rfl, _, Eq.trans (World.drewN_drewN _ _ _) (congrArg (World.drewN _) (Nat.add_assoc _ _ _))⟩))); try go_wp2_with (first | (go_at_call 16; (with_reducible refine (trystlaw08_Same.calls k2 _ _ ((rd_T52 l0_1 x30_2).f1) _ _ ((rd_T52 l1_1 x30_2).f1) false _ (by first | (with_reducible exact hG) | exact GG.below hG (by repeat (first | (with_reducible first | exact HB.out | apply below_alloc | apply pw_below_drewN | apply below_drew1 | refine below_set ?_ GE170.out | refine below_set ?_ GE171.out) | exact HB.out))) ?side1 ?side2 ?side3 ?side4 A25.out).mono ?_); (case side1 => repeat (first | exact (Kd.C_below HR174_1.out HB.out) | (with_reducible refine Kd.C_alloc ?_ _) | (with_reducible refine Kd.C_drewN ?_ _) | (with_reducible refine Kd.C_drew ?_))); (case side2 => exact HC174_1.out); (case side3 => repeat (first | exact (Kd.C_below HR175_1.out HB.out) | (with_reducible refine Kd.C_alloc ?_ _) | (with_reducible refine Kd.C_drewN ?_ _) | (with_reducible refine Kd.C_drew ?_))); (case side4 => exact HC175_1.out); rintro e w' ⟨rfl, ⟨nd, rfl⟩⟩; (try first | exact ⟨rfl, _, World.drewN_drewN _ _ _⟩ | exact ⟨rfl, _, Eq.trans (World.drewN_drewN _ _ _) (congrArg (World.drewN _) (Nat.add_assoc _ _ _))⟩))))
                        go_ret
                        exact ⟨by first | rfl | (simp [errW_none, errW_some] <;> rfl) | (simp [*, errW_none, errW_some] <;> rfl), by repeat (first | (with_reducible first | exact HB.out | apply below_alloc | apply pw_below_drewN | apply below_drew1 | refine below_set ?_ GE170.out | refine below_set ?_ GE171.out) | exact HB.out)⟩
                    · rw [if_neg c24] at H
                      have c24b0 : (((rd_T52 l0_1 x30_2).f0).toList == ((rd_T52 l1_1 x30_2).f0).toList) = false := beq_eq_false_iff_ne.mpr c24
                      have c24b1 : (((rd_T52 l0_1 x30_2).f0).toList != ((rd_T52 l1_1 x30_2).f0).toList) = true := bne_iff_ne.mpr c24
                      obtain rfl := Option.some.inj H
                      have hnb33 := NB170_171.out
                      have hnc33 := NB171_170.out
                      have hcz34_0 : wr.cell? ⟨gb170, 0, none⟩ = some (.string a0_0) := (blk_cell BK170.out 0).trans rfl
                      have hcz34_1 : wr.cell? ⟨gb170, 1, none⟩ = some (.slice A0_1 l0_1.length c0_1) := (blk_cell BK170.out 1).trans rfl
                      have hcz34_2 : wr.cell? ⟨gb170, 2, none⟩ = some (.string a0_2) := (blk_cell BK170.out 2).trans rfl
                      have hfz34_0 := blk_frozen BK170.out 0
                      have hfz34_1 := blk_frozen BK170.out 1
                      have hfz34_2 := blk_frozen BK170.out 2
                      have p172 : 0 ≤ (x30_2 : Int) := of_decide_eq_true (by first | (with_reducible assumption) | assumption)
                      have q172 : x30_2 < (l0_1.length : Int) := of_decide_eq_true (by first | (with_reducible assumption) | assumption)
                      obtain ⟨ad172, A172_1, c172_1, e172, hx172_0, hx172_1, hl172_1, hi172_1⟩ := at_T52 HR0_1.out x30_2 p172 q172
                      cases e172
                      replace hx172_0 := (HB.out.cell (World.block_lt_of_cell? w _ hx172_0)).trans hx172_0
                      replace hx172_1 := (HB.out.cell (World.block_lt_of_cell? w _ hx172_1)).trans hx172_1
                      have HR172_1 := Aside0.mk hi172_1
                      have HC172_1 := Aside0.mk hl172_1
                      clear hi172_1 hl172_1
                      replace p172 := eq_true p172
                      replace q172 := eq_true q172
                      have hcz35_0 : wr.cell? ⟨gb171, 0, none⟩ = some (.string a1_0) := (blk_cell BK171.out 0).trans rfl
                      have hcz35_1 : wr.cell? ⟨gb171, 1, none⟩ = some (.slice A1_1 l1_1.length c1_1) := (blk_cell BK171.out 1).trans rfl
                      have hcz35_2 : wr.cell? ⟨gb171, 2, none⟩ = some (.string a1_2) := (blk_cell BK171.out 2).trans rfl
                      have hfz35_0 := blk_frozen BK171.out 0
                      have hfz35_1 := blk_frozen BK171.out 1
                      have hfz35_2 := blk_frozen BK171.out 2
                      have p173 : 0 ≤ (x30_2 : Int) := of_decide_eq_true (by first | (with_reducible assumption) | assumption)
                      have q173 : x30_2 < (l1_1.length : Int) := of_decide_eq_true (by first | (with_reducible assumption) | assumption)
                      obtain ⟨ad173, A173_1, c173_1, e173, hx173_0, hx173_1, hl173_1, hi173_1⟩ := at_T52 HR1_1.out x30_2 p173 q173
                      cases e173
                      replace hx173_0 := (HB.out.cell (World.block_lt_of_cell? w _ hx173_0)).trans hx173_0
                      replace hx173_1 := (HB.out.cell (World.block_lt_of_cell? w _ hx173_1)).trans hx173_1
                      have HR173_1 := Aside0.mk hi173_1
                      have HC173_1 := Aside0.mk hl173_1
                      clear hi173_1 hl173_1
                      replace p173 := eq_true p173
                      replace q173 := eq_true q173
                      go_wp2
                      repeat (go_quiet (fail); try go_wp2)
                      go_ret
                      exact ⟨by first | rfl | (simp [errW_none, errW_some] <;> rfl) | (simp [*, errW_none, errW_some] <;> rfl), by repeat (first | (with_reducible first | exact HB.out | apply below_alloc | apply pw_below_drewN | apply below_drew1 | refine below_set ?_ GE170.out | refine below_set ?_ GE171.out) | exact HB.out)⟩
                  · rw [if_neg c23] at H
                    exact absurd H (by simp)
                · rw [if_neg c22] at H
                  exact absurd H (by simp)
              · rw [if_neg c21] at H
                exact absurd H (by simp)
            · rw [if_neg c20] at H
              have c20b0 : decide (x30_2 < (l0_1.length : Int)) = false := decide_eq_false c20
              clear c20
              obtain rfl := Option.some.inj H
              go_wp2
              repeat (go_quiet (fail); try go_wp2)
              go_ret
              exact ⟨by first | rfl | (simp [errW_none, errW_some] <;> rfl) | (simp [*, errW_none, errW_some] <;> rfl), by repeat (first | (with_reducible first | exact HB.out | apply below_alloc | apply pw_below_drewN | apply below_drew1 | refine below_set ?_ GE170.out | refine below_set ?_ GE171.out) | exact HB.out)⟩

/-! ### line_Find: function 37 -/
def line_Find.f (a0_0 : ByteArray) (l0_1 : List (S83)) (a0_2 : ByteArray) (a1 : ByteArray) : Option (ByteArray × Bool) := (line_at.f l0_1 a1).bind fun t178 => (if t178 < 0 then (some ((⟨#[]⟩ : ByteArray), false)) else (if 0 ≤ t178 then (if t178 < (l0_1.length : Int) then (if (((rd_T83 l0_1 t178).f1).length : Int) = 0 then (some ((⟨#[]⟩ : ByteArray), false)) else (if 0 < (((rd_T83 l0_1 t178).f1).length : Int) then (some (rdOf ByteArray.empty ((rd_T83 l0_1 t178).f1) 0, true)) else (none))) else (none)) else (none)))
set_option maxHeartbeats 8000000 in
set_option maxRecDepth 100000 in
theorem line_Find.calls (a0_0 : ByteArray) (A0_1 : Option Addr) (c0_1 : Nat) (l0_1 : List (S83)) (a0_2 : ByteArray) (a1 : ByteArray) (r1 : ByteArray) (r2 : Bool) (w : World) (hG : GG w) (hr0_1 : Kd.C k83 w A0_1 l0_1.length l0_1) (hc0_1 : l0_1.length ≤ c0_1) (h : line_Find.f a0_0 l0_1 a0_2 a1 = some (r1, r2)) :
    Calls Tryd.prog 37 #[.agg #[.string a0_0, .slice A0_1 l0_1.length c0_1, .string a0_2], .string a1] w fun e w' => e = .returned (.tuple #[.string r1, .bool r2]) ∧ Below w.heap.size w w' := by
  have hu46 := Tryd.underlying46
  have HR0_1 := Aside0.mk hr0_1
  have HC0_1 := Aside0.mk hc0_1
  clear hr0_1 hc0_1
  have HB := Aside0.mk (Below.refl w.heap.size w)
  have H : ((line_at.f l0_1 a1).bind fun t178 => (if t178 < 0 then (some ((⟨#[]⟩ : ByteArray), false)) else (if 0 ≤ t178 then (if t178 < (l0_1.length : Int) then (if (((rd_T83 l0_1 t178).f1).length : Int) = 0 then (some ((⟨#[]⟩ : ByteArray), false)) else (if 0 < (((rd_T83 l0_1 t178).f1).length : Int) then (some (rdOf ByteArray.empty ((rd_T83 l0_1 t178).f1) 0, true)) else (none))) else (none)) else (none)))) = some (r1, r2) := h
  clear h
  replace H := Option.bind_eq_some_iff.mp H
  obtain ⟨t178, A30, H⟩ := H
  replace H : (if t178 < 0 then (some ((⟨#[]⟩ : ByteArray), false)) else (if 0 ≤ t178 then (if t178 < (l0_1.length : Int) then (if (((rd_T83 l0_1 t178).f1).length : Int) = 0 then (some ((⟨#[]⟩ : ByteArray), false)) else (if 0 < (((rd_T83 l0_1 t178).f1).length : Int) then (some (rdOf ByteArray.empty ((rd_T83 l0_1 t178).f1) 0, true)) else (none))) else (none)) else (none))) = some (r1, r2) := H
  have A3 := Aside0.mk A30
  clear A30
  by_cases c4 : t178 < 0
  · rw [if_pos c4] at H
    have c4b0 : decide (t178 < 0) = true := decide_eq_true c4
    clear c4
    simp only [Option.some.injEq, Prod.mk.injEq] at H
    obtain ⟨rfl, rfl⟩ := H
    go_enter Tryd.func37, Tryd.ntmps37
    go_wp2_with (first | ((with_reducible refine gate_dst (N := 2) rfl ?_); (try (refine gate_guard (by rfl) ?_; dsimp only)); refine box_event ?hg (N := 2) ?hd (cs := #[.string a0_0, .slice A0_1 l0_1.length c0_1, .string a0_2]) (t := 46) ?hr ?_; (case hd => rfl); (case hg => rfl); (case hr => first | (go_simp; done) | (go_simp; rfl)); intro gb177 hg w5 hbox hb; have n0_ := Aside0.mk (below_step (by repeat (first | (with_reducible first | exact HB.out | apply below_alloc | apply pw_below_drewN | apply below_drew1) | exact HB.out)) hb); have n1_ := Aside0.mk (hbox); have n2_ := Aside0.mk ((by rw [hg]; exact (below_size (by repeat (first | (with_reducible first | exact HB.out | apply below_alloc | apply pw_below_drewN | apply below_drew1) | exact HB.out))) : w.heap.size ≤ gb177)); have n3_ := Aside0.mk ((by rw [hg]; exact (below_size (by repeat (first | (with_reducible first | exact HB.out | apply below_alloc | apply pw_below_drewN | apply below_drew1) | exact HB.out))) : w.heap.size ≤ gb177)); clear HB; have HB := n0_; have BK177 := n1_; have GW177 := n2_; have GE177 := n3_; clear n0_ n1_ n2_ n3_; clear hb hbox hg; have hcz6_0 : w5.cell? ⟨gb177, 0, none⟩ = some (.string a0_0) := (blk_cell BK177.out 0).trans rfl; have hcz6_1 : w5.cell? ⟨gb177, 1, none⟩ = some (.slice A0_1 l0_1.length c0_1) := (blk_cell BK177.out 1).trans rfl; have hcz6_2 : w5.cell? ⟨gb177, 2, none⟩ = some (.string a0_2) := (blk_cell BK177.out 2).trans rfl; have hfz6_0 := blk_frozen BK177.out 0; have hfz6_1 := blk_frozen BK177.out 1; have hfz6_2 := blk_frozen BK177.out 2) | ((with_reducible refine gate_callee (f := 61) rfl ?_); refine goesL_ (some 10) rfl rfl Tryd.func61 (by kernel_rfl) rfl #[.slice A0_1 l0_1.length c0_1, .string a1] rfl (by (try simp only [List.map_toArray, List.map_cons, List.map_nil]); first | done | rfl | (simp only [List.length_drop, List.length_take]; rfl)) ?_; (with_reducible refine (line_at.calls _ _ l0_1 a1 t178 _ (by first | (with_reducible exact hG) | exact GG.below hG (by repeat (first | (with_reducible first | exact HB.out | apply below_alloc | apply pw_below_drewN | apply below_drew1 | refine below_set ?_ GE177.out) | exact HB.out))) ?side1 ?side2 A3.out).mono ?_); (case side1 => repeat (first | exact (Kd.C_below HR0_1.out HB.out) | (with_reducible refine Kd.C_alloc ?_ _) | (with_reducible refine Kd.C_drewN ?_ _) | (with_reducible refine Kd.C_drew ?_))); (case side2 => exact HC0_1.out); rintro e w7 ⟨rfl, hb⟩; refine ⟨_, rfl, ?_⟩; have n0_ := Aside0.mk (blk_below (g := gb177) (o := .cells #[.string a0_0, .slice A0_1 l0_1.length c0_1, .string a0_2] 46 (0, 0)) (by (with_reducible repeat (first | refine blk_drewN ?_ _ | refine blk_drew ?_ | refine blk_alloc ?_ _)); exact BK177.out) hb); have n1_ := Aside0.mk (below_step (by repeat (first | (with_reducible first | exact HB.out | apply below_alloc | apply pw_below_drewN | apply below_drew1 | refine below_set ?_ GE177.out) | exact HB.out)) hb); clear BK177; clear HB; have BK177 := n0_; have HB := n1_; clear n0_ n1_; (try clear hb); (try clear hb2); (try clear hk); (try clear hi)))
    go_ret2
    exact ⟨by first | rfl | (simp [errW_none, errW_some] <;> rfl) | (simp [*, errW_none, errW_some] <;> rfl), by repeat (first | (with_reducible first | exact HB.out | apply below_alloc | apply pw_below_drewN | apply below_drew1 | refine below_set ?_ GE177.out) | exact HB.out)⟩
  · rw [if_neg c4] at H
    have c4b0 : decide (t178 < 0) = false := decide_eq_false c4
    clear c4
    by_cases c8 : 0 ≤ t178
    · rw [if_pos c8] at H
      have c8b0 : decide (0 ≤ t178) = true := decide_eq_true c8
      clear c8
      by_cases c9 : t178 < (l0_1.length : Int)
      · rw [if_pos c9] at H
        have c9b0 : decide (t178 < (l0_1.length : Int)) = true := decide_eq_true c9
        clear c9
        by_cases c10 : (((rd_T83 l0_1 t178).f1).length : Int) = 0
        · rw [if_pos c10] at H
          have c10b0 : ((((rd_T83 l0_1 t178).f1).length : Int) == 0) = true := beq_iff_eq.mpr c10
          have c10b1 : ((((rd_T83 l0_1 t178).f1).length : Int) != 0) = false := bne_eq_false_iff_eq.mpr c10
          clear c10
          simp only [Option.some.injEq, Prod.mk.injEq] at H
          obtain ⟨rfl, rfl⟩ := H
          go_enter Tryd.func37, Tryd.ntmps37
          go_wp2_with (first | ((with_reducible refine gate_dst (N := 2) rfl ?_); (try (refine gate_guard (by rfl) ?_; dsimp only)); refine box_event ?hg (N := 2) ?hd (cs := #[.string a0_0, .slice A0_1 l0_1.length c0_1, .string a0_2]) (t := 46) ?hr ?_; (case hd => rfl); (case hg => rfl); (case hr => first | (go_simp; done) | (go_simp; rfl)); intro gb177 hg w11 hbox hb; have n0_ := Aside0.mk (below_step (by repeat (first | (with_reducible first | exact HB.out | apply below_alloc | apply pw_below_drewN | apply below_drew1) | exact HB.out)) hb); have n1_ := Aside0.mk (hbox); have n2_ := Aside0.mk ((by rw [hg]; exact (below_size (by repeat (first | (with_reducible first | exact HB.out | apply below_alloc | apply pw_below_drewN | apply below_drew1) | exact HB.out))) : w.heap.size ≤ gb177)); have n3_ := Aside0.mk ((by rw [hg]; exact (below_size (by repeat (first | (with_reducible first | exact HB.out | apply below_alloc | apply pw_below_drewN | apply below_drew1) | exact HB.out))) : w.heap.size ≤ gb177)); clear HB; have HB := n0_; have BK177 := n1_; have GW177 := n2_; have GE177 := n3_; clear n0_ n1_ n2_ n3_; clear hb hbox hg; have hcz12_0 : w11.cell? ⟨gb177, 0, none⟩ = some (.string a0_0) := (blk_cell BK177.out 0).trans rfl; have hcz12_1 : w11.cell? ⟨gb177, 1, none⟩ = some (.slice A0_1 l0_1.length c0_1) := (blk_cell BK177.out 1).trans rfl; have hcz12_2 : w11.cell? ⟨gb177, 2, none⟩ = some (.string a0_2) := (blk_cell BK177.out 2).trans rfl; have hfz12_0 := blk_frozen BK177.out 0; have hfz12_1 := blk_frozen BK177.out 1; have hfz12_2 := blk_frozen BK177.out 2) | ((with_reducible refine gate_callee (f := 61) rfl ?_); refine goesL_ (some 10) rfl rfl Tryd.func61 (by kernel_rfl) rfl #[.slice A0_1 l0_1.length c0_1, .string a1] rfl (by (try simp only [List.map_toArray, List.map_cons, List.map_nil]); first | done | rfl | (simp only [List.length_drop, List.length_take]; rfl)) ?_; (with_reducible refine (line_at.calls _ _ l0_1 a1 t178 _ (by first | (with_reducible exact hG) | exact GG.below hG (by repeat (first | (with_reducible first | exact HB.out | apply below_alloc | apply pw_below_drewN | apply below_drew1 | refine below_set ?_ GE177.out) | exact HB.out))) ?side1 ?side2 A3.out).mono ?_); (case side1 => repeat (first | exact (Kd.C_below HR0_1.out HB.out) | (with_reducible refine Kd.C_alloc ?_ _) | (with_reducible refine Kd.C_drewN ?_ _) | (with_reducible refine Kd.C_drew ?_))); (case side2 => exact HC0_1.out); rintro e w13 ⟨rfl, hb⟩; refine ⟨_, rfl, ?_⟩; have n0_ := Aside0.mk (blk_below (g := gb177) (o := .cells #[.string a0_0, .slice A0_1 l0_1.length c0_1, .string a0_2] 46 (0, 0)) (by (with_reducible repeat (first | refine blk_drewN ?_ _ | refine blk_drew ?_ | refine blk_alloc ?_ _)); exact BK177.out) hb); have n1_ := Aside0.mk (below_step (by repeat (first | (with_reducible first | exact HB.out | apply below_alloc | apply pw_below_drewN | apply below_drew1 | refine below_set ?_ GE177.out) | exact HB.out)) hb); clear BK177; clear HB; have BK177 := n0_; have HB := n1_; clear n0_ n1_; (try clear hb); (try clear hb2); (try clear hk); (try clear hi); have hcz14_0 : w13.cell? ⟨gb177, 0, none⟩ = some (.string a0_0) := (blk_cell BK177.out 0).trans rfl; have hcz14_1 : w13.cell? ⟨gb177, 1, none⟩ = some (.slice A0_1 l0_1.length c0_1) := (blk_cell BK177.out 1).trans rfl; have hcz14_2 : w13.cell? ⟨gb177, 2, none⟩ = some (.string a0_2) := (blk_cell BK177.out 2).trans rfl; have hfz14_0 := blk_frozen BK177.out 0; have hfz14_1 := blk_frozen BK177.out 1; have hfz14_2 := blk_frozen BK177.out 2; have p179 : 0 ≤ (t178 : Int) := of_decide_eq_true (by first | (with_reducible assumption) | assumption); have q179 : t178 < (l0_1.length : Int) := of_decide_eq_true (by first | (with_reducible assumption) | assumption); obtain ⟨ad179, A179_1, c179_1, e179, hx179_0, hx179_1, hl179_1, hi179_1⟩ := at_T83 HR0_1.out t178 p179 q179; cases e179; replace hx179_0 := (HB.out.cell (World.block_lt_of_cell? w _ hx179_0)).trans hx179_0; replace hx179_1 := (HB.out.cell (World.block_lt_of_cell? w _ hx179_1)).trans hx179_1; have HR179_1 := Aside0.mk hi179_1; have HC179_1 := Aside0.mk hl179_1; clear hi179_1 hl179_1; replace p179 := eq_true p179; replace q179 := eq_true q179))
          go_ret2
          exact ⟨by first | rfl | (simp [errW_none, errW_some] <;> rfl) | (simp [*, errW_none, errW_some] <;> rfl), by repeat (first | (with_reducible first | exact HB.out | apply below_alloc | apply pw_below_drewN | apply below_drew1 | refine below_set ?_ GE177.out) | exact HB.out)⟩
        · rw [if_neg c10] at H
          have c10b0 : ((((rd_T83 l0_1 t178).f1).length : Int) == 0) = false := beq_eq_false_iff_ne.mpr c10
          have c10b1 : ((((rd_T83 l0_1 t178).f1).length : Int) != 0) = true := bne_iff_ne.mpr c10
          have c10b2 : ¬ (((rd_T83 l0_1 t178).f1) = []) := fun h_ => c10 (by rw [h_]; rfl)
          by_cases c15 : 0 < (((rd_T83 l0_1 t178).f1).length : Int)
          · rw [if_pos c15] at H
            have c15b0 : decide (0 < (((rd_T83 l0_1 t178).f1).length : Int)) = true := decide_eq_true c15
            have c15b1 : decide (0 < ((rd_T83 l0_1 t178).f1).length) = true := decide_eq_true (by omega)
            clear c15
            simp only [Option.some.injEq, Prod.mk.injEq] at H
            obtain ⟨rfl, rfl⟩ := H
            go_enter Tryd.func37, Tryd.ntmps37
            go_wp2_with (first | ((with_reducible refine gate_dst (N := 2) rfl ?_); (try (refine gate_guard (by rfl) ?_; dsimp only)); refine box_event ?hg (N := 2) ?hd (cs := #[.string a0_0, .slice A0_1 l0_1.length c0_1, .string a0_2]) (t := 46) ?hr ?_; (case hd => rfl); (case hg => rfl); (case hr => first | (go_simp; done) | (go_simp; rfl)); intro gb177 hg w16 hbox hb; have n0_ := Aside0.mk (below_step (by repeat (first | (with_reducible first | exact HB.out | apply below_alloc | apply pw_below_drewN | apply below_drew1) | exact HB.out)) hb); have n1_ := Aside0.mk (hbox); have n2_ := Aside0.mk ((by rw [hg]; exact (below_size (by repeat (first | (with_reducible first | exact HB.out | apply below_alloc | apply pw_below_drewN | apply below_drew1) | exact HB.out))) : w.heap.size ≤ gb177)); have n3_ := Aside0.mk ((by rw [hg]; exact (below_size (by repeat (first | (with_reducible first | exact HB.out | apply below_alloc | apply pw_below_drewN | apply below_drew1) | exact HB.out))) : w.heap.size ≤ gb177)); clear HB; have HB := n0_; have BK177 := n1_; have GW177 := n2_; have GE177 := n3_; clear n0_ n1_ n2_ n3_; clear hb hbox hg; have hcz17_0 : w16.cell? ⟨gb177, 0, none⟩ = some (.string a0_0) := (blk_cell BK177.out 0).trans rfl; have hcz17_1 : w16.cell? ⟨gb177, 1, none⟩ = some (.slice A0_1 l0_1.length c0_1) := (blk_cell BK177.out 1).trans rfl; have hcz17_2 : w16.cell? ⟨gb177, 2, none⟩ = some (.string a0_2) := (blk_cell BK177.out 2).trans rfl; have hfz17_0 := blk_frozen BK177.out 0; have hfz17_1 := blk_frozen BK177.out 1; have hfz17_2 := blk_frozen BK177.out 2) | ((with_reducible refine gate_callee (f := 61) rfl ?_); refine goesL_ (some 10) rfl rfl Tryd.func61 (by kernel_rfl) rfl #[.slice A0_1 l0_1.length c0_1, .string a1] rfl (by (try simp only [List.map_toArray, List.map_cons, List.map_nil]); first | done | rfl | (simp only [List.length_drop, List.length_take]; rfl)) ?_; (with_reducible refine (line_at.calls _ _ l0_1 a1 t178 _ (by first | (with_reducible exact hG) | exact GG.below hG (by repeat (first | (with_reducible first | exact HB.out | apply below_alloc | apply pw_below_drewN | apply below_drew1 | refine below_set ?_ GE177.out) | exact HB.out))) ?side1 ?side2 A3.out).mono ?_); (case side1 => repeat (first | exact (Kd.C_below HR0_1.out HB.out) | (with_reducible refine Kd.C_alloc ?_ _) | (with_reducible refine Kd.C_drewN ?_ _) | (with_reducible refine Kd.C_drew ?_))); (case side2 => exact HC0_1.out); rintro e w18 ⟨rfl, hb⟩; refine ⟨_, rfl, ?_⟩; have n0_ := Aside0.mk (blk_below (g := gb177) (o := .cells #[.string a0_0, .slice A0_1 l0_1.length c0_1, .string a0_2] 46 (0, 0)) (by (with_reducible repeat (first | refine blk_drewN ?_ _ | refine blk_drew ?_ | refine blk_alloc ?_ _)); exact BK177.out) hb); have n1_ := Aside0.mk (below_step (by repeat (first | (with_reducible first | exact HB.out | apply below_alloc | apply pw_below_drewN | apply below_drew1 | refine below_set ?_ GE177.out) | exact HB.out)) hb); clear BK177; clear HB; have BK177 := n0_; have HB := n1_; clear n0_ n1_; (try clear hb); (try clear hb2); (try clear hk); (try clear hi); have hcz19_0 : w18.cell? ⟨gb177, 0, none⟩ = some (.string a0_0) := (blk_cell BK177.out 0).trans rfl; have hcz19_1 : w18.cell? ⟨gb177, 1, none⟩ = some (.slice A0_1 l0_1.length c0_1) := (blk_cell BK177.out 1).trans rfl; have hcz19_2 : w18.cell? ⟨gb177, 2, none⟩ = some (.string a0_2) := (blk_cell BK177.out 2).trans rfl; have hfz19_0 := blk_frozen BK177.out 0; have hfz19_1 := blk_frozen BK177.out 1; have hfz19_2 := blk_frozen BK177.out 2; have p179 : 0 ≤ (t178 : Int) := of_decide_eq_true (by first | (with_reducible assumption) | assumption); have q179 : t178 < (l0_1.length : Int) := of_decide_eq_true (by first | (with_reducible assumption) | assumption); obtain ⟨ad179, A179_1, c179_1, e179, hx179_0, hx179_1, hl179_1, hi179_1⟩ := at_T83 HR0_1.out t178 p179 q179; cases e179; replace hx179_0 := (HB.out.cell (World.block_lt_of_cell? w _ hx179_0)).trans hx179_0; replace hx179_1 := (HB.out.cell (World.block_lt_of_cell? w _ hx179_1)).trans hx179_1; have HR179_1 := Aside0.mk hi179_1; have HC179_1 := Aside0.mk hl179_1; clear hi179_1 hl179_1; replace p179 := eq_true p179; replace q179 := eq_true q179; have p180 : 0 ≤ (t178 : Int) := of_decide_eq_true (by first | (with_reducible assumption) | assumption); have q180 : t178 < (l0_1.length : Int) := of_decide_eq_true (by first | (with_reducible assumption) | assumption); obtain ⟨ad180, A180_1, c180_1, e180, hx180_0, hx180_1, hl180_1, hi180_1⟩ := at_T83 HR0_1.out t178 p180 q180; obtain rfl : ad179 = ad180 := (by injection e180); replace hx180_0 := (HB.out.cell (World.block_lt_of_cell? w _ hx180_0)).trans hx180_0; replace hx180_1 := (HB.out.cell (World.block_lt_of_cell? w _ hx180_1)).trans hx180_1; have HR180_1 := Aside0.mk hi180_1; have HC180_1 := Aside0.mk hl180_1; clear hi180_1 hl180_1; replace p180 := eq_true p180; replace q180 := eq_true q180; have ea_ := Option.some.inj (hx179_1.symm.trans hx180_1); injection ea_ with ea_ en_ ec_; subst ea_; subst ec_; clear en_; have p181 : 0 ≤ (0 : Int) := (by omega); have q181 : 0 < (((rd_T83 l0_1 t178).f1).length : Int) := of_decide_eq_true (by first | (with_reducible assumption) | assumption); obtain ⟨ad181, e181, hx181_0⟩ := Kd.at_string HR180_1.out 0 p181 q181; cases e181; have qi181 : (0 < ((rd_T83 l0_1 t178).f1).length) = True := eq_true (by omega); (try rw [show ((0 : Int)).toNat = 0 from rfl] at hx181_0); (try rw [Addr.add_zero'] at hx181_0); replace hx181_0 := (HB.out.cell (World.block_lt_of_cell? w _ hx181_0)).trans hx181_0; replace p181 := eq_true p181; replace q181 := eq_true q181))
            go_ret2
            exact ⟨by first | rfl | (simp [errW_none, errW_some] <;> rfl) | (simp [*, errW_none, errW_some] <;> rfl), by repeat (first | (with_reducible first | exact HB.out | apply below_alloc | apply pw_below_drewN | apply below_drew1 | refine below_set ?_ GE177.out) | exact HB.out)⟩
          · rw [if_neg c15] at H
            exact absurd H (by simp)
      · rw [if_neg c9] at H
        exact absurd H (by simp)
    · rw [if_neg c8] at H
      exact absurd H (by simp)

end Go.Proofs.YtknmbalhbecdhaaDoor.Print
